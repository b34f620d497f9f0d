/- A part of the proof: walks of the program's functions, and the rules by which they go. -/
import Derived.Test.YtllgakmdhjgmoaaGreatB6f0a0c5d
import Derived.Test.YtllgakmdhjgmoaaGreatBddc441a4
import Derived.Test.YtllgakmdhjgmoaaGreatB9a0af180
import Derived.Test.YtllgakmdhjgmoaaGreatB8f9f485c
namespace SX
open Go Go.Proofs
/-- trees and parents of which a copy may be made -/
def SW.Small (W : SW) : Prop := (∀ x ∈ W.T, x.2.length ≤ 1048576) ∧ ∀ x ∈ W.C, x.2.1.length ≤ 1048576
theorem trees_eq {a b : List (List En)} (hl : a.length = b.length) (h : ∀ j : Nat, j < a.length + 2 → treeAt a ((j : Int) - 1) = treeAt b ((j : Int) - 1)) : a = b := by
  apply List.ext_getElem? 
  intro k
  by_cases hk : k < a.length
  · obtain ⟨x, hx⟩ : ∃ x, a[k]? = some x := ⟨_, List.getElem?_eq_getElem hk⟩
    obtain ⟨y, hy⟩ : ∃ y, b[k]? = some y := ⟨_, List.getElem?_eq_getElem om0⟩
    have := h (k + 1) om0
    rw [show (((k + 1 : Nat) : Int) - 1) = (k : Nat) by omega, treeAt_at hx, treeAt_at hy] at this
    rw [hx, hy, (Prod.mk.inj this).1]
  · rw [List.getElem?_eq_none om0, List.getElem?_eq_none om0]
theorem coms_eq {a b : List Cm} (hl : a.length = b.length) (h : ∀ j : Nat, j < a.length + 2 → comAt a ((j : Int) - 1) = comAt b ((j : Int) - 1)) : a = b := by
  apply List.ext_getElem? 
  intro k
  by_cases hk : k < a.length
  · obtain ⟨x, hx⟩ : ∃ x, a[k]? = some x := ⟨_, List.getElem?_eq_getElem hk⟩
    obtain ⟨y, hy⟩ : ∃ y, b[k]? = some y := ⟨_, List.getElem?_eq_getElem om0⟩
    have := h (k + 1) om0
    rw [show (((k + 1 : Nat) : Int) - 1) = (k : Nat) by omega, comAt_at hx, comAt_at hy] at this
    rw [hx, hy, (Prod.mk.inj this).1]
  · rw [List.getElem?_eq_none om0, List.getElem?_eq_none om0]
def sameW (a b : SW) : Bool := decide (a.pl = b.pl ∧ a.dead = b.dead)
theorem sameW_no {a b : SW} (h : ¬ (a.pl = b.pl ∧ a.dead = b.dead)) : Value.bool (sameW a b) = .bool false := by unfold sameW; rw [decide_eq_false h]
theorem pl_len1 (W : SW) : W.pl.1.length = W.T.length := List.length_map _
theorem pl_len2 (W : SW) : W.pl.2.length = W.C.length := List.length_map _
set_option maxHeartbeats 8000000 in
theorem lsame_spec (μ : PH) (p w : Nat) (Wa Wb : SW) (hA : Wa.Ok μ) (hB : Wb.Ok μ) (sA : Wa.Small) (sB : Wb.Small) : Spec Tryz.prog 18 [pv p, pv w] [stH p Wa, ttA Wa, ccA Wa, rsH w Wb, ttA Wb, ccA Wb, ro μ]
    (fun r L => ∃ μ', Le μ μ' ∧ r = .bool (sameW Wa Wb) ∧ L = [stH p Wa, ttA Wa, ccA Wa, rsH w Wb, ttA Wb, ccA Wb, ro μ']) := by
  have hB0 := hB
  have h1a := pl_len1 Wa
  have h2a := pl_len2 Wa
  have h1b := pl_len1 Wb
  have h2b := pl_len2 Wb
  obtain ⟨⟨A1, c1, e1⟩, ⟨A2, c2, e2⟩, htr, hcr, hT, hC⟩ := hB
  obtain ⟨q, tv, cv, T, C, dead⟩ := Wb
  dsimp only at e1 e2 htr hcr hT hC h1b h2b
  subst e1 e2
  have hTa := hA.tl
  have hCa := hA.cl
  refine Spec.of 110 Tryz.func18 rfl rfl rfl ?_
  refine swp_sr ?_
  refine s_as rfl ?_
  refine swl_sub _ (sc0 0 rfl (sc0 1 rfl .nil)) ?_
  refine swl_nn ?_
  refine swp_seq ?_
  refine swp_seq ?_
  refine swp_draw [5, 14, 24] ([rsH w ⟨q, .slice A1 T.length c1, .slice A2 C.length c2, T, C, dead⟩]) ([stH p Wa, ttA Wa, ccA Wa, ttA ⟨q, .slice A1 T.length c1, .slice A2 C.length c2, T, C, dead⟩, ccA ⟨q, .slice A1 T.length c1, .slice A2 C.length c2, T, C, dead⟩, ro μ]) (Split.ent sp0) kr0 ?_
  refine d_pu 0 rfl (pu_move rfl) kr0 kr0 kr0 ?_
  refine d_pu 2 rfl (pu_move rfl) kr0 kr0 kr0 ?_
  first | refine d_pu 3 rfl (pu_nilCheck rfl) kr0 kr0 kr0 ?_ | refine d_pu 3 rfl (pu_nilCheck_fn rfl) kr0 kr0 kr0 ?_ | refine d_pu 3 rfl (pu_nilCheck_if rfl) kr0 kr0 kr0 ?_
  first | refine d_pu 4 rfl (pu_fieldAddr0 rfl) kr0 kr0 kr0 ?_ | refine d_pu 4 rfl (pu_fieldAddr rfl) kr0 kr0 kr0 ?_
  refine d_rd 5 rfl (rd_load rfl rfl) rfl kr0 kr0 kr0 ?_
  refine d_pu 6 rfl (pu_len rfl) kr0 kr0 kr0 ?_
  refine d_eft 1 rfl kr0 (ef_fn (trees_spec p Wa μ hA) rfl rfl sp0) ?_
  rintro v16 L1 ⟨rfl, rfl⟩
  refine ⟨_, ent_appC (Split.ent sp0), ?_⟩
  refine d_pu 7 rfl (pu_neq rfl rfl) kr0 kr0 kr0 ?_
  refine d_pu 8 rfl (pu_move rfl) kr0 kr0 kr0 ?_
  refine d_split 23 rfl (fun h23 => ?_) (fun h23 => ?_)
  · skip   -- 23 T
    have hn : ¬ Wa.T.length = T.length := fun e => by rw [e] at h23; simp at h23
    refine d_off 9 rfl rfl rfl rfl kr0 kr0 kr0 ?_
    refine d_off 10 rfl rfl rfl rfl kr0 kr0 kr0 ?_
    refine d_off 11 rfl rfl rfl rfl kr0 kr0 kr0 ?_
    refine d_off 12 rfl rfl rfl rfl kr0 kr0 kr0 ?_
    refine d_off 13 rfl rfl rfl rfl kr0 kr0 kr0 ?_
    refine d_off 14 rfl rfl rfl rfl kr0 kr0 kr0 ?_
    refine d_off 15 rfl rfl rfl rfl kr0 kr0 kr0 ?_
    refine d_off 16 rfl rfl rfl rfl kr0 kr0 kr0 ?_
    first | refine d_pu 17 rfl (pu_pick_t rfl rfl) kr0 kr0 kr0 ?_ | refine d_pu 17 rfl (pu_pick_f rfl rfl) kr0 kr0 kr0 ?_
    refine d_pu 18 rfl (pu_move rfl) kr0 kr0 kr0 ?_
    refine d_split 33 rfl (fun h33 => ?_) (fun h33 => by cases h33)
    refine d_off 19 rfl rfl rfl rfl kr0 kr0 kr0 ?_
    refine d_off 20 rfl rfl rfl rfl kr0 kr0 kr0 ?_
    refine d_off 21 rfl rfl rfl rfl kr0 kr0 kr0 ?_
    refine d_off 22 rfl rfl rfl rfl kr0 kr0 kr0 ?_
    refine d_off 23 rfl rfl rfl rfl kr0 kr0 kr0 ?_
    refine d_off 24 rfl rfl rfl rfl kr0 kr0 kr0 ?_
    refine d_off 25 rfl rfl rfl rfl kr0 kr0 kr0 ?_
    first | refine d_pu 26 rfl (pu_pick_t rfl rfl) kr0 kr0 kr0 ?_ | refine d_pu 26 rfl (pu_pick_f rfl rfl) kr0 kr0 kr0 ?_
    refine d_pu 27 rfl (pu_move rfl) kr0 kr0 kr0 ?_
    refine d_split 42 rfl (fun h42 => ?_) (fun h42 => by cases h42)
    refine d_off 28 rfl rfl rfl rfl kr0 kr0 kr0 ?_
    refine d_off 29 rfl rfl rfl rfl kr0 kr0 kr0 ?_
    refine d_off 30 rfl rfl rfl rfl kr0 kr0 kr0 ?_
    refine d_off 31 rfl rfl rfl rfl kr0 kr0 kr0 ?_
    refine d_off 32 rfl rfl rfl rfl kr0 kr0 kr0 ?_
    refine d_off 33 rfl rfl rfl rfl kr0 kr0 kr0 ?_
    first | refine d_pu 34 rfl (pu_pick_t rfl rfl) kr0 kr0 kr0 ?_ | refine d_pu 34 rfl (pu_pick_f rfl rfl) kr0 kr0 kr0 ?_
    refine d_sub _ (sc0 0 rfl (sc0 1 rfl (sc0 49 rfl .nil))) ?_
    first | refine d_nilt kr0 ?_ | refine d_nilf kr0 ?_
    refine then_n ?_
    refine swp_cond (b := _) rfl (fun h49 => ?_) (fun h49 => by cases h49)
    refine swp_sr ?_
    refine s_as rfl ?_
    refine swl_sub _ (sc0 4 rfl .nil) ?_
    refine swl_nn ?_
    refine swp_ret ?_
    refine then_r ?_
    exact done_ret [stH p Wa, ttA Wa, ccA Wa, rsH w ⟨q, .slice A1 T.length c1, .slice A2 C.length c2, T, C, dead⟩, ttA ⟨q, .slice A1 T.length c1, .slice A2 C.length c2, T, C, dead⟩, ccA ⟨q, .slice A1 T.length c1, .slice A2 C.length c2, T, C, dead⟩, ro μ] (.tmp rfl .nil) ⟨μ, Le.refl _, (sameW_no fun k => hn (by rw [← h1a, ← h1b, k.1])).symm, rfl⟩ sp0
  · skip   -- 23 F
    have hnT : Wa.T.length = T.length := by
      have : ((Wa.T.length : Nat) : Int) = (T.length : Nat) := by simpa using h23
      omega
    refine d_pu_on 9 rfl rfl rfl (pu_move rfl) kr0 kr0 kr0 ?_
    refine d_pu_on 11 rfl rfl rfl (pu_move rfl) kr0 kr0 kr0 ?_
    first | refine d_pu_on 12 rfl rfl rfl (pu_nilCheck rfl) kr0 kr0 kr0 ?_ | refine d_pu_on 12 rfl rfl rfl (pu_nilCheck_fn rfl) kr0 kr0 kr0 ?_ | refine d_pu_on 12 rfl rfl rfl (pu_nilCheck_if rfl) kr0 kr0 kr0 ?_
    first | refine d_pu_on 13 rfl rfl rfl (pu_fieldAddr0 rfl) kr0 kr0 kr0 ?_ | refine d_pu_on 13 rfl rfl rfl (pu_fieldAddr rfl) kr0 kr0 kr0 ?_
    refine d_rd_on 14 rfl rfl rfl (rd_load rfl rfl) rfl kr0 kr0 kr0 ?_
    refine d_pu_on 15 rfl rfl rfl (pu_len rfl) kr0 kr0 kr0 ?_
    refine d_amb [10] kr0 rfl ?_
    refine dA_ef 10 rfl (GOn.some rfl rfl) (ef_fn (coms_spec p Wa μ hA) rfl rfl sp0) ?_
    rintro v25 L1 ⟨rfl, rfl⟩
    refine ⟨_, ent_appC (Split.ent sp0), ?_⟩
    refine d_pu_on 16 rfl rfl rfl (pu_neq rfl rfl) kr0 kr0 kr0 ?_
    first | refine d_pu 17 rfl (pu_pick_t rfl rfl) kr0 kr0 kr0 ?_ | refine d_pu 17 rfl (pu_pick_f rfl rfl) kr0 kr0 kr0 ?_
    refine d_pu 18 rfl (pu_move rfl) kr0 kr0 kr0 ?_
    refine d_split 33 rfl (fun h33 => ?_) (fun h33 => ?_)
    · skip   -- 33 T
      have hn : ¬ Wa.C.length = C.length := fun e => by rw [e] at h33; simp at h33
      refine d_off 19 rfl rfl rfl rfl kr0 kr0 kr0 ?_
      refine d_off 20 rfl rfl rfl rfl kr0 kr0 kr0 ?_
      refine d_off 21 rfl rfl rfl rfl kr0 kr0 kr0 ?_
      refine d_off 22 rfl rfl rfl rfl kr0 kr0 kr0 ?_
      refine d_off 23 rfl rfl rfl rfl kr0 kr0 kr0 ?_
      refine d_off 24 rfl rfl rfl rfl kr0 kr0 kr0 ?_
      refine d_off 25 rfl rfl rfl rfl kr0 kr0 kr0 ?_
      first | refine d_pu 26 rfl (pu_pick_t rfl rfl) kr0 kr0 kr0 ?_ | refine d_pu 26 rfl (pu_pick_f rfl rfl) kr0 kr0 kr0 ?_
      refine d_pu 27 rfl (pu_move rfl) kr0 kr0 kr0 ?_
      refine d_split 42 rfl (fun h42 => ?_) (fun h42 => by cases h42)
      refine d_off 28 rfl rfl rfl rfl kr0 kr0 kr0 ?_
      refine d_off 29 rfl rfl rfl rfl kr0 kr0 kr0 ?_
      refine d_off 30 rfl rfl rfl rfl kr0 kr0 kr0 ?_
      refine d_off 31 rfl rfl rfl rfl kr0 kr0 kr0 ?_
      refine d_off 32 rfl rfl rfl rfl kr0 kr0 kr0 ?_
      refine d_off 33 rfl rfl rfl rfl kr0 kr0 kr0 ?_
      first | refine d_pu 34 rfl (pu_pick_t rfl rfl) kr0 kr0 kr0 ?_ | refine d_pu 34 rfl (pu_pick_f rfl rfl) kr0 kr0 kr0 ?_
      refine d_sub _ (sc0 0 rfl (sc0 1 rfl (sc0 49 rfl .nil))) ?_
      first | refine d_nilt kr0 ?_ | refine d_nilf kr0 ?_
      refine then_n ?_
      refine swp_cond (b := _) rfl (fun h49 => ?_) (fun h49 => by cases h49)
      refine swp_sr ?_
      refine s_as rfl ?_
      refine swl_sub _ (sc0 4 rfl .nil) ?_
      refine swl_nn ?_
      refine swp_ret ?_
      refine then_r ?_
      exact done_ret [stH p Wa, ttA Wa, ccA Wa, rsH w ⟨q, .slice A1 T.length c1, .slice A2 C.length c2, T, C, dead⟩, ttA ⟨q, .slice A1 T.length c1, .slice A2 C.length c2, T, C, dead⟩, ccA ⟨q, .slice A1 T.length c1, .slice A2 C.length c2, T, C, dead⟩, ro μ] (.tmp rfl .nil) ⟨μ, Le.refl _, (sameW_no fun k => hn (by rw [← h2a, ← h2b, k.1])).symm, rfl⟩ sp0
    · skip   -- 33 F
      have hnC : Wa.C.length = C.length := by
        have : ((Wa.C.length : Nat) : Int) = (C.length : Nat) := by simpa using h33
        omega
      refine d_pu_on 19 rfl rfl rfl (pu_move rfl) kr0 kr0 kr0 ?_
      refine d_pu_on 21 rfl rfl rfl (pu_move rfl) kr0 kr0 kr0 ?_
      first | refine d_pu_on 22 rfl rfl rfl (pu_nilCheck rfl) kr0 kr0 kr0 ?_ | refine d_pu_on 22 rfl rfl rfl (pu_nilCheck_fn rfl) kr0 kr0 kr0 ?_ | refine d_pu_on 22 rfl rfl rfl (pu_nilCheck_if rfl) kr0 kr0 kr0 ?_
      first | refine d_pu_on 23 rfl rfl rfl (pu_fieldAddr0 rfl) kr0 kr0 kr0 ?_ | refine d_pu_on 23 rfl rfl rfl (pu_fieldAddr rfl) kr0 kr0 kr0 ?_
      refine d_rd_on 24 rfl rfl rfl (rd_load rfl rfl) rfl kr0 kr0 kr0 ?_
      refine d_amb [20] kr0 rfl ?_
      refine dA_ef 20 rfl (GOn.some rfl rfl) (ef_fn (dead_spec p Wa) rfl rfl sp0) ?_
      rintro v35 L1 ⟨rfl, rfl⟩
      refine ⟨_, ent_appC (Split.ent sp0), ?_⟩
      refine d_pu_on 25 rfl rfl rfl (pu_bool_ne rfl rfl) kr0 kr0 kr0 ?_
      first | refine d_pu 26 rfl (pu_pick_t rfl rfl) kr0 kr0 kr0 ?_ | refine d_pu 26 rfl (pu_pick_f rfl rfl) kr0 kr0 kr0 ?_
      refine d_pu 27 rfl (pu_move rfl) kr0 kr0 kr0 ?_
      refine d_split 42 rfl (fun h42 => ?_) (fun h42 => ?_)
      · skip   -- 42 T
        have hn : ¬ Wa.dead = dead := fun e => by rw [e] at h42; simp at h42
        refine d_off 28 rfl rfl rfl rfl kr0 kr0 kr0 ?_
        refine d_off 29 rfl rfl rfl rfl kr0 kr0 kr0 ?_
        refine d_off 30 rfl rfl rfl rfl kr0 kr0 kr0 ?_
        refine d_off 31 rfl rfl rfl rfl kr0 kr0 kr0 ?_
        refine d_off 32 rfl rfl rfl rfl kr0 kr0 kr0 ?_
        refine d_off 33 rfl rfl rfl rfl kr0 kr0 kr0 ?_
        first | refine d_pu 34 rfl (pu_pick_t rfl rfl) kr0 kr0 kr0 ?_ | refine d_pu 34 rfl (pu_pick_f rfl rfl) kr0 kr0 kr0 ?_
        refine d_sub _ (sc0 0 rfl (sc0 1 rfl (sc0 49 rfl .nil))) ?_
        first | refine d_nilt kr0 ?_ | refine d_nilf kr0 ?_
        refine then_n ?_
        refine swp_cond (b := _) rfl (fun h49 => ?_) (fun h49 => by cases h49)
        refine swp_sr ?_
        refine s_as rfl ?_
        refine swl_sub _ (sc0 4 rfl .nil) ?_
        refine swl_nn ?_
        refine swp_ret ?_
        refine then_r ?_
        exact done_ret [stH p Wa, ttA Wa, ccA Wa, rsH w ⟨q, .slice A1 T.length c1, .slice A2 C.length c2, T, C, dead⟩, ttA ⟨q, .slice A1 T.length c1, .slice A2 C.length c2, T, C, dead⟩, ccA ⟨q, .slice A1 T.length c1, .slice A2 C.length c2, T, C, dead⟩, ro μ] (.tmp rfl .nil) ⟨μ, Le.refl _, (sameW_no fun k => hn k.2).symm, rfl⟩ sp0
      · skip   -- 42 F
        have hnd : Wa.dead = dead := by
          cases ha : Wa.dead <;> cases hb : dead <;> rw [ha, hb] at h42 <;> first | rfl | simp at h42
        refine d_pu_on 28 rfl rfl rfl (pu_move rfl) kr0 kr0 kr0 ?_
        refine d_pu_on 30 rfl rfl rfl (pu_move rfl) kr0 kr0 kr0 ?_
        refine d_amb [29] kr0 rfl ?_
        first | refine dA_fint 29 rfl (GOn.some rfl rfl) kr0 (ef_fn (graph_spec p Wa μ hA sA.2) rfl rfl sp0) ?_ | refine dA_finf 29 rfl (GOn.some rfl rfl) kr0 (ef_fn (graph_spec p Wa μ hA sA.2) rfl rfl sp0) ?_
        rintro v44 L1 ⟨μ1, Ga, l1, hGa, hna, rfl⟩
        refine swd_app ?_
        refine d_amb [31] kr0 rfl ?_
        first | refine dA_fint 31 rfl (GOn.some rfl rfl) kr0 (ef_fn (rgraph_spec w ⟨q, .slice A1 T.length c1, .slice A2 C.length c2, T, C, dead⟩ μ1 (hB0.le l1) sB.2) rfl rfl sp0) ?_ | refine dA_finf 31 rfl (GOn.some rfl rfl) kr0 (ef_fn (rgraph_spec w ⟨q, .slice A1 T.length c1, .slice A2 C.length c2, T, C, dead⟩ μ1 (hB0.le l1) sB.2) rfl rfl sp0) ?_
        rintro v46 L2 ⟨μ2, Gb, l2, hGb, hnb, rfl⟩
        refine swd_app ?_
        refine d_amb [32] kr0 rfl ?_
        first | refine dA_fint 32 rfl (GOn.some rfl rfl) kr0 (ef_fn (sameg_spec μ2 v44 v46 Ga Gb (hGa.le l2) hGb) rfl rfl sp0) ?_ | refine dA_finf 32 rfl (GOn.some rfl rfl) kr0 (ef_fn (sameg_spec μ2 v44 v46 Ga Gb (hGa.le l2) hGb) rfl rfl sp0) ?_
        rintro v47 L3 ⟨rfl, rfl⟩
        refine swd_app ?_
        refine d_pu_on 33 rfl rfl rfl (pu_not rfl) kr0 kr0 kr0 ?_
        first | refine d_pu 34 rfl (pu_pick_t rfl rfl) kr0 kr0 kr0 ?_ | refine d_pu 34 rfl (pu_pick_f rfl rfl) kr0 kr0 kr0 ?_
        refine d_sub _ (sc0 0 rfl (sc0 1 rfl (sc0 49 rfl .nil))) ?_
        first | refine d_nilt kr0 ?_ | refine d_nilf kr0 ?_
        refine then_n ?_
        refine swp_cond (b := _) rfl (fun h49 => ?_) (fun h49 => ?_)
        · skip   -- 49 T
          refine swp_sr ?_
          refine s_as rfl ?_
          refine swl_sub _ (sc0 4 rfl .nil) ?_
          refine swl_nn ?_
          refine swp_ret ?_
          refine then_r ?_
          have hn : ¬ nums Ga = nums Gb := by simpa using h49
          exact done_ret [stH p Wa, ttA Wa, ccA Wa, rsH w ⟨q, .slice A1 T.length c1, .slice A2 C.length c2, T, C, dead⟩, ttA ⟨q, .slice A1 T.length c1, .slice A2 C.length c2, T, C, dead⟩, ccA ⟨q, .slice A1 T.length c1, .slice A2 C.length c2, T, C, dead⟩, ro μ2] (.tmp rfl .nil) ⟨μ2, l1.trans l2, (sameW_no fun k => hn (by rw [hna, hnb, k.1])).symm, rfl⟩ sp0
        · skip   -- 49 F
          refine swp_skip ?_
          refine then_n ?_
          refine swp_seq ?_
          refine swp_sr ?_
          refine s_as rfl ?_
          refine swl_sub _ (sc0 0 rfl (sc0 1 rfl (sc0 5 rfl .nil))) ?_
          refine swl_nn ?_
          refine swp_block ?_
          refine swp_loop (ι := Nat × PH) (fun x env L => Sub env [(0, pv p), (1, pv w), (5, .int .i64 ((x.1 : Int) - 1))] ∧ Ent L [stH p Wa, ttA Wa, ccA Wa, rsH w ⟨q, .slice A1 T.length c1, .slice A2 C.length c2, T, C, dead⟩, ttA ⟨q, .slice A1 T.length c1, .slice A2 C.length c2, T, C, dead⟩, ccA ⟨q, .slice A1 T.length c1, .slice A2 C.length c2, T, C, dead⟩, ro x.2] ∧ Le μ x.2 ∧ x.1 ≤ T.length + 2 ∧ ∀ j : Nat, j < x.1 → treeAt Wa.pl.1 ((j : Int) - 1) = treeAt (SW.pl ⟨q, .slice A1 T.length c1, .slice A2 C.length c2, T, C, dead⟩).1 ((j : Int) - 1)) (fun x => T.length + 2 - x.1) (0, μ2) ⟨⟨rfl, rfl, rfl, trivial⟩, Split.ent' sp0, l1.trans l2, Nat.zero_le _, fun j hj => by omega⟩ ?_
          clear hGa hGb hna hnb l1 l2
          rintro ⟨k, μk⟩ env L ⟨hsub, hE, hle, hk, hlo⟩
          dsimp only at hsub hE hle hk hlo
          refine swp_sub _ hsub ?_
          refine swp_ent hE ?_
          clear hsub hE env L
          dsimp only
          refine swp_seq ?_
          refine swp_sr ?_
          refine s_mv rfl ?_
          refine s_mv rfl ?_
          first | refine s_pu (pu_nilCheck rfl) ?_ | refine s_pu (pu_nilCheck_fn rfl) ?_ | refine s_pu (pu_nilCheck_if rfl) ?_
          first | refine s_pu (pu_fieldAddr0 rfl) ?_ | refine s_pu (pu_fieldAddr rfl) ?_
          refine s_rd (rd_load rfl rfl) ?_
          refine s_pu (pu_len rfl) ?_
          refine s_pu (pu_leq rfl rfl) ?_
          refine swl_sub _ (sc0 0 rfl (sc0 1 rfl (sc0 5 rfl (sc0 56 rfl .nil)))) ?_
          refine swl_nn ?_
          refine swp_cond (b := _) rfl (fun h56 => ?_) (fun h56 => ?_)
          · skip   -- 56 T
            have h56' : k < T.length + 2 := by have := of_decide_eq_true h56; omega
            refine swp_skip ?_
            refine then_n ?_
            refine swp_seq ?_
            refine swp_block ?_
            refine swp_sr ?_
            refine s_mv rfl ?_
            refine s_mv rfl ?_
            refine s_ef (ef_fn (tree_spec p Wa μk (hA.le hle) sA.1 ((k : Int) - 1)) rfl rfl sp0) ?_
            rintro v62 L1 ⟨A3, c3, rfl, rfl⟩
            refine swl_app ?_
            refine s_mv rfl ?_
            first | refine s_pu (pu_extractL rfl) ?_ | refine s_pu (pu_extract rfl rfl) ?_
            first | refine s_pu (pu_extractL rfl) ?_ | refine s_pu (pu_extract rfl rfl) ?_
            refine s_as rfl ?_
            refine s_as rfl ?_
            refine swl_sub _ (sc0 0 rfl (sc0 1 rfl (sc0 5 rfl (sc0 6 rfl (sc0 7 rfl .nil))))) ?_
            refine swl_nn ?_
            refine swp_sr ?_
            refine s_mv rfl ?_
            refine s_mv rfl ?_
            refine s_ef (ef_fn (rtree_spec w ⟨q, .slice A1 T.length c1, .slice A2 C.length c2, T, C, dead⟩ μk (hB0.le hle) ((k : Int) - 1)) rfl rfl sp0) ?_
            rintro v68 L1 ⟨v8, rfl, hrb, rfl⟩
            refine swl_app ?_
            refine s_mv rfl ?_
            first | refine s_pu (pu_extractL rfl) ?_ | refine s_pu (pu_extract rfl rfl) ?_
            first | refine s_pu (pu_extractL rfl) ?_ | refine s_pu (pu_extract rfl rfl) ?_
            refine s_as rfl ?_
            refine s_as rfl ?_
            refine swl_sub _ (sc0 0 rfl (sc0 1 rfl (sc0 5 rfl (sc0 6 rfl (sc0 7 rfl (sc0 8 rfl (sc0 9 rfl .nil))))))) ?_
            refine swl_nn ?_
            refine swp_seq ?_
            generalize hta : treeAt Wa.pl.1 ((k : Int) - 1) = ta at *
            generalize htb : treeAt (SW.pl ⟨q, .slice A1 T.length c1, .slice A2 C.length c2, T, C, dead⟩).1 ((k : Int) - 1) = tb at *
            refine swp_share_own (μ := μk) (v := .slice A3 ta.1.length c3) (e := 47) (n := 2) sp0 fun μ' hl' hra => ?_
            refine swp_region ?_
            refine s_mv rfl ?_
            refine s_mv rfl ?_
            refine s_pu (pu_neq rfl rfl) ?_
            refine s_mv rfl ?_
            refine s_split 74 rfl (fun h74 => ?_) (fun h74 => ?_)
            · skip   -- 74 T
              refine s_off rfl rfl rfl ?_
              refine s_off rfl rfl rfl ?_
              refine s_off rfl rfl rfl ?_
              refine s_off rfl rfl rfl ?_
              first | refine s_pu (pu_pick_t rfl rfl) ?_ | refine s_pu (pu_pick_f rfl rfl) ?_
              refine swl_sub _ (sc0 0 rfl (sc0 1 rfl (sc0 5 rfl (sc0 79 rfl .nil)))) ?_
              refine swl_nn ?_
              refine swp_cond (b := _) rfl (fun h79 => ?_) (fun h79 => by cases h79)
              refine swp_sr ?_
              refine s_as rfl ?_
              refine swl_sub _ (sc0 4 rfl .nil) ?_
              refine swl_nn ?_
              refine swp_ret ?_
              refine block_r ?_
              refine then_r ?_
              refine then_r ?_
              refine block_r ?_
              refine then_r ?_
              have hn : ¬ ta.2 = tb.2 := by simpa using h74
              exact done_ret [stH p Wa, ttA Wa, ccA Wa, rsH w ⟨q, .slice A1 T.length c1, .slice A2 C.length c2, T, C, dead⟩, ttA ⟨q, .slice A1 T.length c1, .slice A2 C.length c2, T, C, dead⟩, ccA ⟨q, .slice A1 T.length c1, .slice A2 C.length c2, T, C, dead⟩, ro μ'] (.tmp rfl .nil) ⟨μ', hle.trans hl', (sameW_no fun k => hn (by rw [← hta, ← htb, k.1])).symm, rfl⟩ sp0
            · skip   -- 74 F
              refine s_on rfl rfl ?_
              refine s_mv rfl ?_
              refine s_on rfl rfl ?_
              refine s_mv rfl ?_
              refine s_on rfl rfl ?_
              refine s_ef (ef_fn (same_spec μ' (.slice A3 ta.1.length c3) v8 ta.1 tb.1 hra (hrb.le hl')) rfl rfl sp0) ?_
              rintro v77 L1 ⟨rfl, rfl⟩
              refine swl_app ?_
              refine s_on rfl rfl ?_
              refine s_pu (pu_not rfl) ?_
              first | refine s_pu (pu_pick_t rfl rfl) ?_ | refine s_pu (pu_pick_f rfl rfl) ?_
              refine swl_sub _ (sc0 0 rfl (sc0 1 rfl (sc0 5 rfl (sc0 79 rfl .nil)))) ?_
              refine swl_nn ?_
              refine swp_cond (b := _) rfl (fun h79 => ?_) (fun h79 => ?_)
              · skip   -- 79 T
                refine swp_sr ?_
                refine s_as rfl ?_
                refine swl_sub _ (sc0 4 rfl .nil) ?_
                refine swl_nn ?_
                refine swp_ret ?_
                refine block_r ?_
                refine then_r ?_
                refine then_r ?_
                refine block_r ?_
                refine then_r ?_
                have hn : ¬ ta.1 = tb.1 := by simpa using h79
                exact done_ret [stH p Wa, ttA Wa, ccA Wa, rsH w ⟨q, .slice A1 T.length c1, .slice A2 C.length c2, T, C, dead⟩, ttA ⟨q, .slice A1 T.length c1, .slice A2 C.length c2, T, C, dead⟩, ccA ⟨q, .slice A1 T.length c1, .slice A2 C.length c2, T, C, dead⟩, ro μ'] (.tmp rfl .nil) ⟨μ', hle.trans hl', (sameW_no fun k => hn (by rw [← hta, ← htb, k.1])).symm, rfl⟩ sp0
              · skip   -- 79 F
                refine swp_skip ?_
                refine block_n ?_
                refine then_n ?_
                refine swp_region ?_
                refine s_mv rfl ?_
                refine s_pu (pu_add_as (((k + 1 : Nat) : Int) - 1) rfl rfl om0 om0 om0) ?_
                refine s_as rfl ?_
                refine swl_sub _ (sc0 0 rfl (sc0 1 rfl (sc0 5 rfl .nil))) ?_
                refine swl_nil ?_
                have q2 : ta.2 = tb.2 := by simpa using h74
                have q1 : ta.1 = tb.1 := by simpa using h79
                refine then_n ⟨(k + 1, μ'), ⟨⟨rfl, rfl, rfl, trivial⟩, Split.ent' sp0, hle.trans hl', h56', fun j hj => ?_⟩, by show T.length + 2 - (k + 1) < T.length + 2 - k; omega⟩
                by_cases e : j = k
                · subst e; rw [hta, htb]; exact Prod.ext q1 q2
                · exact hlo j om0
          · skip   -- 56 F
            have h56' := of_decide_eq_false h56
            obtain rfl : k = T.length + 2 := by omega
            have hpT : Wa.pl.1 = (SW.pl ⟨q, .slice A1 T.length c1, .slice A2 C.length c2, T, C, dead⟩).1 := trees_eq (by rw [h1a, h1b, hnT]) (fun j hj => hlo j (by rw [h1a] at hj; omega))
            clear hlo hk h56 h56'
            refine swp_exit ?_
            refine then_x ?_
            refine then_x ?_
            refine block_hit rfl ?_
            refine then_n ?_
            refine swp_seq ?_
            refine swp_sr ?_
            refine s_as rfl ?_
            refine swl_sub _ (sc0 0 rfl (sc0 1 rfl (sc0 10 rfl .nil))) ?_
            refine swl_nn ?_
            refine swp_block ?_
            refine swp_loop (ι := Nat × PH) (fun x env L => Sub env [(0, pv p), (1, pv w), (10, .int .i64 ((x.1 : Int) - 1))] ∧ Ent L [stH p Wa, ttA Wa, ccA Wa, rsH w ⟨q, .slice A1 T.length c1, .slice A2 C.length c2, T, C, dead⟩, ttA ⟨q, .slice A1 T.length c1, .slice A2 C.length c2, T, C, dead⟩, ccA ⟨q, .slice A1 T.length c1, .slice A2 C.length c2, T, C, dead⟩, ro x.2] ∧ Le μ x.2 ∧ x.1 ≤ C.length + 2 ∧ ∀ j : Nat, j < x.1 → comAt Wa.pl.2 ((j : Int) - 1) = comAt (SW.pl ⟨q, .slice A1 T.length c1, .slice A2 C.length c2, T, C, dead⟩).2 ((j : Int) - 1)) (fun x => C.length + 2 - x.1) (0, μk) ⟨⟨rfl, rfl, rfl, trivial⟩, Split.ent' sp0, hle, Nat.zero_le _, fun j hj => by omega⟩ ?_
            clear hle μk
            rintro ⟨k, μk⟩ env L ⟨hsub, hE, hle, hk, hlo⟩
            dsimp only at hsub hE hle hk hlo
            refine swp_sub _ hsub ?_
            refine swp_ent hE ?_
            clear hsub hE env L
            dsimp only
            refine swp_seq ?_
            refine swp_sr ?_
            refine s_mv rfl ?_
            refine s_mv rfl ?_
            first | refine s_pu (pu_nilCheck rfl) ?_ | refine s_pu (pu_nilCheck_fn rfl) ?_ | refine s_pu (pu_nilCheck_if rfl) ?_
            first | refine s_pu (pu_fieldAddr0 rfl) ?_ | refine s_pu (pu_fieldAddr rfl) ?_
            refine s_rd (rd_load rfl rfl) ?_
            refine s_pu (pu_len rfl) ?_
            refine s_pu (pu_leq rfl rfl) ?_
            refine swl_sub _ (sc0 0 rfl (sc0 1 rfl (sc0 10 rfl (sc0 86 rfl .nil)))) ?_
            refine swl_nn ?_
            refine swp_cond (b := _) rfl (fun h86 => ?_) (fun h86 => ?_)
            · skip   -- 86 T
              have h86' : k < C.length + 2 := by have := of_decide_eq_true h86; omega
              refine swp_skip ?_
              refine then_n ?_
              refine swp_seq ?_
              refine swp_block ?_
              refine swp_sr ?_
              refine s_mv rfl ?_
              refine s_mv rfl ?_
              refine s_ef (ef_fn (commit_spec p Wa μk (hA.le hle) sA.2 ((k : Int) - 1)) rfl rfl sp0) ?_
              rintro v92 L1 ⟨A3, c3, rfl, rfl⟩
              refine swl_app ?_
              refine s_mv rfl ?_
              first | refine s_pu (pu_extractL rfl) ?_ | refine s_pu (pu_extract rfl rfl) ?_
              first | refine s_pu (pu_extractL rfl) ?_ | refine s_pu (pu_extract rfl rfl) ?_
              refine s_ef (ef_alloc) ?_
              intro b11
              refine s_ef0 (ef_storeA rfl rfl rfl rfl) ?_
              refine s_as rfl ?_
              refine swl_sub _ (sc0 0 rfl (sc0 1 rfl (sc0 10 rfl (sc0 11 rfl (sc0 12 rfl .nil))))) ?_
              refine swl_nn ?_
              refine swp_sr ?_
              refine s_mv rfl ?_
              refine s_mv rfl ?_
              refine s_ef (ef_fn (rcommit_spec w ⟨q, .slice A1 T.length c1, .slice A2 C.length c2, T, C, dead⟩ μk (hB0.le hle) ((k : Int) - 1)) rfl rfl sp0) ?_
              rintro v98 L1 ⟨v8, rfl, hrb, rfl⟩
              obtain ⟨A4, c4, rfl⟩ := hrb.sl
              refine swl_app ?_
              refine s_mv rfl ?_
              first | refine s_pu (pu_extractL rfl) ?_ | refine s_pu (pu_extract rfl rfl) ?_
              first | refine s_pu (pu_extractL rfl) ?_ | refine s_pu (pu_extract rfl rfl) ?_
              refine s_ef (ef_alloc) ?_
              intro b13
              refine s_ef0 (ef_storeA rfl rfl rfl rfl) ?_
              refine s_as rfl ?_
              refine swl_sub _ (sc0 0 rfl (sc0 1 rfl (sc0 10 rfl (sc0 11 rfl (sc0 12 rfl (sc0 13 rfl (sc0 14 rfl .nil))))))) ?_
              refine swl_nn ?_
              refine swp_seq ?_
              generalize hta : comAt Wa.pl.2 ((k : Int) - 1) = ta at *
              generalize htb : comAt (SW.pl ⟨q, .slice A1 T.length c1, .slice A2 C.length c2, T, C, dead⟩).2 ((k : Int) - 1) = tb at *
              refine swp_share_own (μ := μk) (v := .slice A3 ta.1.1.length c3) (e := 3) (n := 1) sp0 fun μ' hl' hra => ?_
              refine swp_region ?_
              refine s_mv rfl ?_
              refine s_mv rfl ?_
              refine s_pu (pu_neq rfl rfl) ?_
              refine s_mv rfl ?_
              refine s_split 104 rfl (fun h104 => ?_) (fun h104 => ?_)
              · skip   -- 104 T
                refine s_off rfl rfl rfl ?_
                refine s_off rfl rfl rfl ?_
                refine s_off rfl rfl rfl ?_
                refine s_off rfl rfl rfl ?_
                first | refine s_pu (pu_pick_t rfl rfl) ?_ | refine s_pu (pu_pick_f rfl rfl) ?_
                refine swl_sub _ (sc0 0 rfl (sc0 1 rfl (sc0 10 rfl (sc0 109 rfl .nil)))) ?_
                refine swl_nn ?_
                refine swp_cond (b := _) rfl (fun h109 => ?_) (fun h109 => by cases h109)
                refine swp_sr ?_
                refine s_as rfl ?_
                refine swl_sub _ (sc0 4 rfl .nil) ?_
                refine swl_nn ?_
                refine swp_ret ?_
                refine block_r ?_
                refine then_r ?_
                refine then_r ?_
                refine block_r ?_
                refine then_r ?_
                have hn : ¬ ta.2 = tb.2 := by simpa using h104
                exact done_ret [stH p Wa, ttA Wa, ccA Wa, rsH w ⟨q, .slice A1 T.length c1, .slice A2 C.length c2, T, C, dead⟩, ttA ⟨q, .slice A1 T.length c1, .slice A2 C.length c2, T, C, dead⟩, ccA ⟨q, .slice A1 T.length c1, .slice A2 C.length c2, T, C, dead⟩, ro μ'] (.tmp rfl .nil) ⟨μ', hle.trans hl', (sameW_no fun k => hn (by rw [← hta, ← htb, k.1])).symm, rfl⟩ sp0
              · skip   -- 104 F
                refine s_on rfl rfl ?_
                first | refine s_rd (rd_loadW rfl rfl) ?_ | refine s_rd (rd_loadX rfl rfl rfl) ?_
                refine s_on rfl rfl ?_
                first | refine s_rd (rd_loadW rfl rfl) ?_ | refine s_rd (rd_loadX rfl rfl rfl) ?_
                refine s_on rfl rfl ?_
                refine s_ef (ef_fn (samec_spec μ' (.slice A3 ta.1.1.length c3) (.slice A4 tb.1.1.length c4) ta.1 tb.1 hra (hrb.le hl')) rfl rfl sp0) ?_
                rintro v107 L1 ⟨rfl, rfl⟩
                refine swl_app ?_
                refine s_on rfl rfl ?_
                refine s_pu (pu_not rfl) ?_
                first | refine s_pu (pu_pick_t rfl rfl) ?_ | refine s_pu (pu_pick_f rfl rfl) ?_
                refine swl_sub _ (sc0 0 rfl (sc0 1 rfl (sc0 10 rfl (sc0 109 rfl .nil)))) ?_
                refine swl_nn ?_
                refine swp_cond (b := _) rfl (fun h109 => ?_) (fun h109 => ?_)
                · skip   -- 109 T
                  refine swp_sr ?_
                  refine s_as rfl ?_
                  refine swl_sub _ (sc0 4 rfl .nil) ?_
                  refine swl_nn ?_
                  refine swp_ret ?_
                  refine block_r ?_
                  refine then_r ?_
                  refine then_r ?_
                  refine block_r ?_
                  refine then_r ?_
                  have hn : ¬ ta.1 = tb.1 := by simpa using h109
                  exact done_ret [stH p Wa, ttA Wa, ccA Wa, rsH w ⟨q, .slice A1 T.length c1, .slice A2 C.length c2, T, C, dead⟩, ttA ⟨q, .slice A1 T.length c1, .slice A2 C.length c2, T, C, dead⟩, ccA ⟨q, .slice A1 T.length c1, .slice A2 C.length c2, T, C, dead⟩, ro μ'] (.tmp rfl .nil) ⟨μ', hle.trans hl', (sameW_no fun k => hn (by rw [← hta, ← htb, k.1])).symm, rfl⟩ sp0
                · skip   -- 109 F
                  refine swp_skip ?_
                  refine block_n ?_
                  refine then_n ?_
                  refine swp_region ?_
                  refine s_mv rfl ?_
                  refine s_pu (pu_add_as (((k + 1 : Nat) : Int) - 1) rfl rfl om0 om0 om0) ?_
                  refine s_as rfl ?_
                  refine swl_sub _ (sc0 0 rfl (sc0 1 rfl (sc0 10 rfl .nil))) ?_
                  refine swl_nil ?_
                  have q2 : ta.2 = tb.2 := by simpa using h104
                  have q1 : ta.1 = tb.1 := by simpa using h109
                  refine then_n ⟨(k + 1, μ'), ⟨⟨rfl, rfl, rfl, trivial⟩, Split.ent' sp0, hle.trans hl', h86', fun j hj => ?_⟩, by show C.length + 2 - (k + 1) < C.length + 2 - k; omega⟩
                  by_cases e : j = k
                  · subst e; rw [hta, htb]; exact Prod.ext q1 q2
                  · exact hlo j om0
            · skip   -- 86 F
              have h86' := of_decide_eq_false h86
              obtain rfl : k = C.length + 2 := by omega
              have hpC : Wa.pl.2 = (SW.pl ⟨q, .slice A1 T.length c1, .slice A2 C.length c2, T, C, dead⟩).2 := coms_eq (by rw [h2a, h2b, hnC]) (fun j hj => hlo j (by rw [h2a] at hj; omega))
              refine swp_exit ?_
              refine then_x ?_
              refine then_x ?_
              refine block_hit rfl ?_
              refine then_n ?_
              refine swp_sr ?_
              refine s_as rfl ?_
              refine swl_sub _ (sc0 4 rfl .nil) ?_
              refine swl_nn ?_
              refine swp_ret ?_
              have hy : sameW Wa ⟨q, .slice A1 T.length c1, .slice A2 C.length c2, T, C, dead⟩ = true := by unfold sameW; exact decide_eq_true ⟨Prod.ext hpT hpC, hnd⟩
              exact done_ret [stH p Wa, ttA Wa, ccA Wa, rsH w ⟨q, .slice A1 T.length c1, .slice A2 C.length c2, T, C, dead⟩, ttA ⟨q, .slice A1 T.length c1, .slice A2 C.length c2, T, C, dead⟩, ccA ⟨q, .slice A1 T.length c1, .slice A2 C.length c2, T, C, dead⟩, ro μk] (.tmp rfl .nil) ⟨μk, hle, congrArg Value.bool hy.symm, rfl⟩ sp0
end SX
namespace SX
open Go Go.Proofs
/-- a disk with a log alone -/
abbrev lg (q : Int) (B : List UInt8) : Dk := one1 q logN ⟨B, B.length⟩ 0 false
theorem lg_write {q : Int} {B : List UInt8} {f : Fm} (h : (B.length : Int) + ((f.2.length + 9 : Nat) : Int) ≤ q) : writeD (lg q B) f = (lg q (B ++ encFm f), 0) := by
  have e : appendD (lg q B) logN (encFm f) = (one1 q logN ⟨B ++ encFm f, B.length⟩ 0 false, 0) := by
    rw [one_append (by show (B.length : Int) + (encFm f).length ≤ q; rw [encFm_len]; exact h)]; rfl
  unfold writeD
  rw [e, if_neg (fun k => k rfl)]
  rw [one_sync]
theorem lg_open (q : Int) : openD (newD q) = (lg q [], 0) := by
  have e1 : readD (newD q) logN = ([], 6) := rfl
  have e2 : createD (newD q) logN = (⟨q, [⟨[], 0⟩], [(logN, 0)], [], [⟨nos, logN, 0⟩], 0, false⟩, 0) := by kernel_rfl
  have e3 : freshD (newD q) = (lg q [], 0) := by
    unfold freshD
    rw [e2, if_neg (fun k => k rfl)]
    rfl
  unfold openD
  rw [e1, if_pos rfl]
  exact e3
theorem lg_openS (q : Int) : openS (newD q) = ([], []) := by
  have e1 : readD (newD q) logN = ([], 6) := rfl
  unfold openS
  rw [e1]
  rfl
theorem lg_addT {q : Int} {B : List UInt8} {s : St2} {t : List En} (h0 : encErr t = 0) (hn : s.1.length < 65536) (h : (B.length : Int) + (((encT t).length + 9 : Nat) : Int) ≤ q) :
    addT ⟨lg q B, s, false⟩ t = ((⟨lg q (B ++ encFm (1, encT t)), (s.1 ++ [t], s.2), false⟩ : PSt), ((s.1.length : Nat) : Int), (0 : Int)) := by
  have hw := lg_write (f := (1, encT t)) h
  unfold addT
  rw [addR_ok (x := ⟨lg q B, s, false⟩) rfl h0 hn (by rw [hw])]
  rw [hw]
theorem lg_addC {q : Int} {B : List UInt8} {s : St2} {c : Cm} (h0 : checkC c = 0) (h1 : knownS s.1.length s.2.length c = true) (hn : s.2.length < 65536) (h : (B.length : Int) + (((encC' c).length + 9 : Nat) : Int) ≤ q) :
    addC ⟨lg q B, s, false⟩ c = ((⟨lg q (B ++ encFm (2, encC' c)), (s.1, s.2 ++ [c]), false⟩ : PSt), ((s.2.length : Nat) : Int), (0 : Int)) := by
  have hw := lg_write (f := (2, encC' c)) h
  unfold addC
  rw [addR_ok (x := ⟨lg q B, s, false⟩) rfl (by rw [if_neg (not_not_intro h0), if_neg (by rw [h1]; decide)]) hn (by rw [hw])]
  rw [hw]
theorem settle_ok {d : Dk} (hd : d.Ok) (n len : Nat) : (settleD d n len).1.Ok := by
  rw [settle_two]
  split
  · exact settle2_ok hd n len
  · exact syncNamesD_ok (settle2_ok hd n len)
theorem fresh_ok {d : Dk} (hd : d.Ok) : (freshD d).1.Ok := by
  unfold freshD
  split
  · exact createD_ok hd _
  · exact syncNamesD_ok (createD_ok hd _)
theorem open_ok {d : Dk} (hd : d.Ok) : (openD d).1.Ok := by
  unfold openD
  split
  · exact fresh_ok hd
  · split
    · exact hd
    · exact settle_ok hd _ _
theorem addR_okD {x : PSt} {e0 : Int} {n : Nat} {f : Fm} {s' : St2} (h : x.d.Ok) : (addR x e0 n f s').1.d.Ok := by
  unfold addR
  repeat' split
  · exact h
  · exact h
  · exact h
  · exact writeD_ok h f
  · exact writeD_ok h f
theorem addT_ok {x : PSt} (h : x.d.Ok) (t : List En) : (addT x t).1.d.Ok := addR_okD h
theorem addC_ok {x : PSt} (h : x.d.Ok) (c : Cm) : (addC x c).1.d.Ok := addR_okD h
abbrev ta1 : List En := [(⟨#[97]⟩, 1)]
theorem ta1_err : encErr ta1 = 0 := by decide
theorem ta1_len : (encT ta1).length ≤ 300 := by
  have := encEs_len [] ta1 (fun e he => (check_paths (t := ta1) (by decide) e he).1)
  unfold encT
  rw [List.length_append, numB_len]
  have h1 : ta1.length = 1 := rfl
  omega
theorem encC_fit (c : Cm) (h : c.1.length ≤ 1) : (encC' c).length ≤ 9 := by
  unfold encC'
  simp only [List.length_append, numB_len, encPs_len]
  omega
theorem u32_ta1 : U32s ta1 := fun e he => by
  obtain rfl : e = (⟨#[97]⟩, 1) := by simpa using he
  exact ⟨by decide, by decide⟩
set_option maxHeartbeats 8000000 in
theorem opens_spec : Spec Tryz.prog 7 [] [] (fun r L => r = .bool true ∧ L = []) := by
  have hn0 : (newD 1000).Ok := newD_ok (by decide)
  have ho0 : (lg 1000 []).Ok := by have := open_ok hn0; rwa [lg_open] at this
  have hl1 := ta1_len
  have a1 := lg_addT (q := 1000) (B := []) (s := ([], [])) ta1_err (by decide) (by have := ta1_len; show (0 : Int) + _ ≤ 1000; omega)
  have b1 := encFm_len (1, encT ta1)
  generalize hB1 : ([] : List UInt8) ++ encFm (1, encT ta1) = B1 at a1
  have b1' : B1.length ≤ 309 := by rw [← hB1, List.nil_append, b1]; show (encT ta1).length + 9 ≤ 309; omega
  have ho1 : (lg 1000 B1).Ok := by have := addT_ok (x := ⟨lg 1000 [], ([], []), false⟩) ho0 ta1; rwa [a1] at this
  have a2 := lg_addC (q := 1000) (B := B1) (s := ([ta1], [])) (c := ([], 0)) (by decide) (by decide) (by decide) (by have := encC_fit ([], 0) (by decide); omega)
  generalize hB2 : B1 ++ encFm (2, encC' ([], 0)) = B2 at a2
  have b2' : B2.length ≤ 327 := by rw [← hB2, List.length_append, encFm_len]; have := encC_fit ([], 0) (by decide); show B1.length + ((encC' ([], 0)).length + 9) ≤ 327; omega
  have ho2 : (lg 1000 B2).Ok := by have := addC_ok (x := ⟨lg 1000 B1, ([ta1], []), false⟩) ho1 ([], 0); rwa [a2] at this
  have a3 := lg_addC (q := 1000) (B := B2) (s := ([ta1], [([], 0)])) (c := ([0], 0)) (by decide) (by decide) (by decide) (by have := encC_fit ([0], 0) (by decide); omega)
  generalize hB3 : B2 ++ encFm (2, encC' ([0], 0)) = B3 at a3
  have ho3 : (lg 1000 B3).Ok := by have := addC_ok (x := ⟨lg 1000 B2, ([ta1], [([], 0)]), false⟩) ho2 ([0], 0); rwa [a3] at this
  have a4 : addC ⟨lg 1000 B3, ([ta1], [([], 0), ([0], 0)]), false⟩ ([2], 0) = ((⟨lg 1000 B3, ([ta1], [([], 0), ([0], 0)]), false⟩ : PSt), (0 : Int), (9 : Int)) := by
    unfold addC
    exact addR_err rfl (by show (if checkC (([2], 0) : Cm) ≠ 0 then checkC (([2], 0) : Cm) else if knownS 1 2 (([2], 0) : Cm) = false then 9 else 0) ≠ 0; decide)
  refine Spec.of 90 Tryz.func7 rfl rfl rfl ?_
  refine swp_ent ent_roZ ?_
  generalize (fun _ => none : PH) = μ
  refine swp_sr ?_
  refine s_as rfl ?_
  refine swl_sub _ .nil ?_
  refine swl_nn ?_
  refine swp_sr ?_
  refine s_ef (ef_fn (new_spec 1000) rfl rfl sp0) ?_
  rintro v13 L1 hnw
  obtain ⟨q, rfl, rfl⟩ : ∃ q, v13 = .tuple #[pv q, .int .i64 0] ∧ L1 = [FSA q (newD 1000)] := by
    rcases hnw with ⟨h, _⟩ | ⟨_, q, h1, h2⟩
    · exact absurd (show newOk 1000 from ⟨by decide, by decide⟩) h
    · exact ⟨q, h1, h2⟩
  refine swl_app ?_
  refine s_mv rfl ?_
  first | refine s_pu (pu_extractL rfl) ?_ | refine s_pu (pu_extract rfl rfl) ?_
  first | refine s_pu (pu_extractL rfl) ?_ | refine s_pu (pu_extract rfl rfl) ?_
  refine s_as rfl ?_
  refine s_as rfl ?_
  refine swl_sub _ (sc0 1 rfl .nil) ?_
  refine swl_nn ?_
  refine swp_sr ?_
  refine s_mv rfl ?_
  refine s_ef (ef_fn (open_spec μ q (newD 1000) hn0 ⟨by decide, by decide⟩) rfl rfl sp0) ?_
  rintro v18 L1 ⟨p, W0, μ0, e, hq, rfl, rfl⟩
  obtain ⟨l0, hW0, hq0, hd0, he, hpl⟩ := hq
  rw [lg_open] at he
  have he' : e = 0 := he
  subst he'
  have hpl0 : W0.pl = ([], []) := by rw [hpl rfl, lg_openS]
  rw [if_pos rfl, lg_open, ← hq0]
  refine swl_app ?_
  refine s_mv rfl ?_
  first | refine s_pu (pu_extractL rfl) ?_ | refine s_pu (pu_extract rfl rfl) ?_
  first | refine s_pu (pu_extractL rfl) ?_ | refine s_pu (pu_extract rfl rfl) ?_
  refine s_as rfl ?_
  refine s_as rfl ?_
  refine swl_sub _ (sc0 3 rfl (sc0 4 rfl .nil)) ?_
  refine swl_nn ?_
  refine swp_seq ?_
  refine swp_sr ?_
  refine s_mv rfl ?_
  refine s_pu (pu_ptr_eq_nil rfl rfl) ?_
  refine s_mv rfl ?_
  refine s_split 23 rfl (fun h23 => by cases h23) (fun h23 => ?_)
  refine s_on rfl rfl ?_
  refine s_mv rfl ?_
  refine s_on rfl rfl ?_
  refine s_pu (pu_neq rfl rfl) ?_
  first | refine s_pu (pu_pick_t rfl rfl) ?_ | refine s_pu (pu_pick_f rfl rfl) ?_
  refine swl_sub _ (sc0 3 rfl (sc0 26 rfl .nil)) ?_
  refine swl_nn ?_
  refine swp_cond (b := _) rfl (fun h26 => by cases h26) (fun h26 => ?_)
  refine swp_skip ?_
  refine then_n ?_
  refine swp_sr ?_
  refine s_mv rfl ?_
  refine s_pu (pu_bld (qs := [(0, _), (1, _)]) rfl) ?_
  refine s_ef (ef_bldS (qs := [(0, _)]) rfl rfl rfl) ?_
  intro b30
  refine swl_share (b := b30) (μ := μ0) sp0 fun μ1 l1 k1 => ?_
  have r1 := row_of_blk (n := 2) (l := 1) (cs := ens ta1) k1 (by rfl) (by decide)
  refine s_ef (ef_fn (addtree_spec μ1 p W0 (hW0.le l1) (lg 1000 []) ho0 (.slice (some ⟨b30, 0, none⟩) 1 1) ta1 r1 u32_ta1) rfl rfl sp0) ?_
  rintro v31 L1 ⟨W1, μ2, hq1, rfl⟩
  rw [hpl0, hd0, a1] at hq1
  rw [hpl0, hd0, a1]
  obtain ⟨l2, hW1, hqq1, hp1, hd1, rfl⟩ := hq1
  refine swl_app ?_
  replace hp1 : W1.pl = (([ta1], []) : St2) := hp1
  replace hd1 : W1.dead = false := hd1
  refine s_mv rfl ?_
  first | refine s_pu (pu_extractL rfl) ?_ | refine s_pu (pu_extract rfl rfl) ?_
  first | refine s_pu (pu_extractL rfl) ?_ | refine s_pu (pu_extract rfl rfl) ?_
  refine s_as rfl ?_
  refine s_as rfl ?_
  refine swl_sub _ (sc0 3 rfl (sc0 4 rfl (sc0 5 rfl .nil))) ?_
  refine swl_nn ?_
  refine swp_sr ?_
  refine s_mv rfl ?_
  refine s_pu (pu_bld (qs := []) rfl) ?_
  refine s_ef (ef_fn (addcommit_spec μ2 p W1 hW1 (lg 1000 B1) ho1 (.slice none 0 0) ([], 0) (Row.nil _ _)) rfl rfl sp0) ?_
  rintro v37 L1 ⟨W2, μ3, hq2, rfl⟩
  rw [hp1, hd1, a2] at hq2
  rw [hp1, hd1, a2]
  obtain ⟨l3, hW2, hqq2, hp2, hd2, rfl⟩ := hq2
  refine swl_app ?_
  replace hp2 : W2.pl = (([ta1], [([], 0)]) : St2) := hp2
  replace hd2 : W2.dead = false := hd2
  refine s_mv rfl ?_
  first | refine s_pu (pu_extractL rfl) ?_ | refine s_pu (pu_extract rfl rfl) ?_
  first | refine s_pu (pu_extractL rfl) ?_ | refine s_pu (pu_extract rfl rfl) ?_
  refine s_as rfl ?_
  refine s_as rfl ?_
  refine swl_sub _ (sc0 3 rfl (sc0 4 rfl (sc0 5 rfl (sc0 6 rfl (sc0 7 rfl .nil))))) ?_
  refine swl_nn ?_
  refine swp_sr ?_
  refine s_mv rfl ?_
  refine s_ef (ef_bldS (qs := [(0, _)]) rfl rfl rfl) ?_
  intro b42
  refine s_pu (pu_bld (qs := [(0, _)]) rfl) ?_
  refine swl_share (b := b42) (μ := μ3) sp0 fun μ4 l4 k4 => ?_
  have r4 := row_of_blk (n := 1) (l := 1) (cs := ([0] : List Int).flatMap (icsk .i64)) k4 (by rfl) (by decide)
  refine s_ef (ef_fn (addcommit_spec μ4 p W2 (hW2.le l4) (lg 1000 B2) ho2 (.slice (some ⟨b42, 0, none⟩) 1 1) ([0], 0) r4) rfl rfl sp0) ?_
  rintro v44 L1 ⟨W3, μ5, hq3, rfl⟩
  rw [hp2, hd2, a3] at hq3
  rw [hp2, hd2, a3]
  obtain ⟨l5, hW3, hqq3, hp3, hd3, rfl⟩ := hq3
  refine swl_app ?_
  replace hp3 : W3.pl = (([ta1], [([], 0), ([0], 0)]) : St2) := hp3
  replace hd3 : W3.dead = false := hd3
  refine s_mv rfl ?_
  first | refine s_pu (pu_extractL rfl) ?_ | refine s_pu (pu_extract rfl rfl) ?_
  first | refine s_pu (pu_extractL rfl) ?_ | refine s_pu (pu_extract rfl rfl) ?_
  refine s_as rfl ?_
  refine s_as rfl ?_
  refine swl_sub _ (sc0 3 rfl (sc0 4 rfl (sc0 5 rfl (sc0 6 rfl (sc0 7 rfl (sc0 8 rfl (sc0 9 rfl .nil))))))) ?_
  refine swl_nn ?_
  refine swp_sr ?_
  refine s_mv rfl ?_
  refine s_ef (ef_bldS (qs := [(0, _)]) rfl rfl rfl) ?_
  intro b49
  refine s_pu (pu_bld (qs := [(0, _)]) rfl) ?_
  refine swl_share (b := b49) (μ := μ5) sp0 fun μ6 l6 k6 => ?_
  have r6 := row_of_blk (n := 1) (l := 1) (cs := ([2] : List Int).flatMap (icsk .i64)) k6 (by rfl) (by decide)
  refine s_ef (ef_fn (addcommit_spec μ6 p W3 (hW3.le l6) (lg 1000 B3) ho3 (.slice (some ⟨b49, 0, none⟩) 1 1) ([2], 0) r6) rfl rfl sp0) ?_
  rintro v51 L1 ⟨W4, μ7, hq4, rfl⟩
  rw [hp3, hd3] at hq4
  rw [a4] at hq4
  obtain ⟨l7, hW4, hqq4, hp4, hd4, rfl⟩ := hq4
  refine swl_app ?_
  replace hp4 : W4.pl = (([ta1], [([], 0), ([0], 0)]) : St2) := hp4
  have hC4 : W4.C.length = 2 := by rw [← pl_len2, hp4]; rfl
  have hT4 : W4.T.length = 1 := by rw [← pl_len1, hp4]; rfl
  refine s_mv rfl ?_
  first | refine s_pu (pu_extractL rfl) ?_ | refine s_pu (pu_extract rfl rfl) ?_
  first | refine s_pu (pu_extractL rfl) ?_ | refine s_pu (pu_extract rfl rfl) ?_
  refine s_as rfl ?_
  refine s_as rfl ?_
  refine swl_sub _ (sc0 3 rfl (sc0 4 rfl (sc0 5 rfl (sc0 6 rfl (sc0 7 rfl (sc0 8 rfl (sc0 9 rfl (sc0 11 rfl .nil)))))))) ?_
  refine swl_nn ?_
  refine swp_sr ?_
  refine s_mv rfl ?_
  refine s_pu (pu_eql rfl rfl) ?_
  refine s_mv rfl ?_
  refine s_split 56 rfl (fun h56 => ?_) (fun h56 => by cases h56)
  refine s_on rfl rfl ?_
  refine s_mv rfl ?_
  refine s_on rfl rfl ?_
  refine s_pu (pu_eql rfl rfl) ?_
  first | refine s_pu (pu_pick_t rfl rfl) ?_ | refine s_pu (pu_pick_f rfl rfl) ?_
  refine s_mv rfl ?_
  refine s_split 60 rfl (fun h60 => ?_) (fun h60 => by cases h60)
  refine s_on rfl rfl ?_
  refine s_mv rfl ?_
  refine s_on rfl rfl ?_
  refine s_pu (pu_eql rfl rfl) ?_
  first | refine s_pu (pu_pick_t rfl rfl) ?_ | refine s_pu (pu_pick_f rfl rfl) ?_
  refine s_mv rfl ?_
  refine s_split 64 rfl (fun h64 => ?_) (fun h64 => by cases h64)
  refine s_on rfl rfl ?_
  refine s_mv rfl ?_
  refine s_on rfl rfl ?_
  refine s_pu (pu_eql rfl rfl) ?_
  first | refine s_pu (pu_pick_t rfl rfl) ?_ | refine s_pu (pu_pick_f rfl rfl) ?_
  refine s_mv rfl ?_
  refine s_split 68 rfl (fun h68 => ?_) (fun h68 => by cases h68)
  refine s_on rfl rfl ?_
  refine s_mv rfl ?_
  refine s_on rfl rfl ?_
  refine s_pu (pu_eql rfl rfl) ?_
  first | refine s_pu (pu_pick_t rfl rfl) ?_ | refine s_pu (pu_pick_f rfl rfl) ?_
  refine s_mv rfl ?_
  refine s_split 72 rfl (fun h72 => ?_) (fun h72 => by cases h72)
  refine s_on rfl rfl ?_
  refine s_mv rfl ?_
  refine s_on rfl rfl ?_
  refine s_pu (pu_eql rfl rfl) ?_
  first | refine s_pu (pu_pick_t rfl rfl) ?_ | refine s_pu (pu_pick_f rfl rfl) ?_
  refine s_mv rfl ?_
  refine s_split 76 rfl (fun h76 => ?_) (fun h76 => by cases h76)
  refine s_on rfl rfl ?_
  refine s_mv rfl ?_
  refine s_on rfl rfl ?_
  refine s_pu (pu_eql rfl rfl) ?_
  first | refine s_pu (pu_pick_t rfl rfl) ?_ | refine s_pu (pu_pick_f rfl rfl) ?_
  refine s_mv rfl ?_
  refine s_split 80 rfl (fun h80 => ?_) (fun h80 => by cases h80)
  refine s_on rfl rfl ?_
  refine s_mv rfl ?_
  refine s_on rfl rfl ?_
  refine s_ef (ef_fn (coms_spec p W4 μ7 hW4) rfl rfl sp0) ?_
  rintro v82 L1 ⟨rfl, rfl⟩
  refine swl_app ?_
  refine s_on rfl rfl ?_
  refine s_pu (pu_eql rfl rfl) ?_
  first | refine s_pu (pu_pick_t rfl rfl) ?_ | refine s_pu (pu_pick_f rfl rfl) ?_
  refine s_mv rfl ?_
  refine s_split 85 rfl (fun h85 => ?_) (fun h85 => by rw [hC4] at h85; cases h85)
  refine s_on rfl rfl ?_
  refine s_mv rfl ?_
  refine s_on rfl rfl ?_
  refine s_ef (ef_fn (trees_spec p W4 μ7 hW4) rfl rfl sp0) ?_
  rintro v87 L1 ⟨rfl, rfl⟩
  refine swl_app ?_
  refine s_on rfl rfl ?_
  refine s_pu (pu_eql rfl rfl) ?_
  first | refine s_pu (pu_pick_t rfl rfl) ?_ | refine s_pu (pu_pick_f rfl rfl) ?_
  refine s_as rfl ?_
  refine swl_sub _ (sc0 0 rfl .nil) ?_
  refine swl_nn ?_
  refine swp_ret ?_
  exact done_ret [] (.tmp rfl .nil) ⟨by rw [hT4]; rfl, rfl⟩ sp0
end SX
namespace SX
open Go Go.Proofs
end SX
namespace SX
open Go Go.Proofs
end SX
namespace SX
open Go Go.Proofs
end SX
namespace SX
open Go Go.Proofs
abbrev sf : ByteArray := ⟨#[102]⟩
end SX
namespace SX
open Go Go.Proofs
theorem Within.few {m : Nat} {d : Dk} (h : Within m d) (k : m ≤ 1000000) : Few d := h.mono k
end SX
namespace SX
open Go Go.Proofs
end SX
namespace SX
open Go Go.Proofs
end SX
namespace SX
open Go Go.Proofs
/-- both stores -/
abbrev Two : Type := Nat × SW × Nat × SW
/-- both stores have this -/
def TwoOk (μ : PH) (pd pr : Nat) (s : St2) (dead : Bool) (x : Two) : Prop := x.2.1.Ok μ ∧ x.2.2.2.Ok μ ∧ x.2.1.q = pd ∧ x.2.2.2.q = pr ∧ x.2.1.pl = s ∧ x.2.2.2.pl = s ∧ x.2.1.dead = dead ∧ x.2.2.2.dead = dead
end SX
namespace SX
open Go Go.Proofs
def SmallS (s : St2) : Prop := (∀ t ∈ s.1, t.length ≤ 1048576) ∧ ∀ c ∈ s.2, c.1.length ≤ 1048576
theorem SmallS.w {W : SW} (h : SmallS W.pl) : W.Small := ⟨fun x hx => h.1 x.2 (List.mem_map.2 ⟨x, hx, rfl⟩), fun x hx => h.2 x.2 (List.mem_map.2 ⟨x, hx, rfl⟩)⟩
def OptOk (μ : PH) (pd pr : Nat) (o : Option (St2 × Bool)) (t : Option Two) : Prop := match o, t with
  | none, none => True
  | some y, some x => TwoOk μ pd pr y.1 y.2 x ∧ SmallS y.1
  | _, _ => False
theorem TwoOk.le {μ μ' : PH} {pd pr : Nat} {s : St2} {dead : Bool} {x : Two} (h : TwoOk μ pd pr s dead x) (k : Le μ μ') : TwoOk μ' pd pr s dead x := ⟨h.1.le k, h.2.1.le k, h.2.2⟩
theorem OptOk.le {μ μ' : PH} {pd pr : Nat} {o : Option (St2 × Bool)} {t : Option Two} (h : OptOk μ pd pr o t) (k : Le μ μ') : OptOk μ' pd pr o t := by
  cases o with
  | none => cases t with
    | none => trivial
    | some x => exact h
  | some y => cases t with
    | none => exact h
    | some x => exact ⟨h.1.le k, h.2⟩
end SX
namespace SX
open Go Go.Proofs
theorem SmallS.addT {s : St2} (h : SmallS s) {t : List En} (ht : t.length ≤ 1048576) : SmallS (s.1 ++ [t], s.2) := ⟨fun x hx => by
  rcases List.mem_append.1 hx with hx | hx
  · exact h.1 x hx
  · obtain rfl : x = t := by simpa using hx
    exact ht, h.2⟩
theorem SmallS.addC {s : St2} (h : SmallS s) {c : Cm} (hc : c.1.length ≤ 1048576) : SmallS (s.1, s.2 ++ [c]) := ⟨h.1, fun x hx => by
  rcases List.mem_append.1 hx with hx | hx
  · exact h.2 x hx
  · obtain rfl : x = c := by simpa using hx
    exact hc⟩
end SX
namespace SX
open Go Go.Proofs
end SX
namespace SX
open Go Go.Proofs
theorem rnewd_spec (q : Int) : Spec Tryz.prog 10 [.int .i64 q] [] (fun r L => (¬ newOk q ∧ r = .tuple #[.pointer none, .int .i64 1] ∧ L = []) ∨ (newOk q ∧ ∃ p, r = .tuple #[pv p, .int .i64 0] ∧ L = [RDA p (newD q)])) := rnew_spec q
end SX
namespace SX
open Go Go.Proofs
end SX

namespace SX
open Go Go.Proofs
/-- what a call that adds leaves, where the new row is not yet among those that are read -/
def AddX (W : SW) (y : PSt × Int × Int) (r : Value) (W' : SW) (m : Nat) (nv : Value) (n : Nat) (xs : List Value) : Prop := (∀ ν : PH, W.Ok ν → Row ν nv m n xs → W'.Ok ν) ∧ W'.q = W.q ∧ W'.pl = y.1.s ∧ W'.dead = y.1.dead ∧ r = .tuple #[.int .i64 y.2.1, .int .i64 y.2.2]
set_option maxHeartbeats 4000000 in
theorem addtreeX_spec (μ : PH) (p : Nat) (W : SW) (hW : W.Ok μ) (d : Dk) (hd : d.Ok) (v : Value) (t : List En) (hv : Row μ v 2 t.length (ens t)) (hu : U32s t) : Spec Tryz.prog 12 [pv p, v] [FSA W.q d, stH p W, ttA W, ccA W, ro μ]
    (fun r L => ∃ W' n xs nv, AddX W (addT ⟨d, W.pl, W.dead⟩ t) r W' 2 nv n xs ∧ L = [own 47 2 nv n xs, FSA W'.q (addT ⟨d, W.pl, W.dead⟩ t).1.d, stH p W', ttA W', ccA W', ro μ]) := by
  have hW0 := hW
  obtain ⟨⟨A1, c1, e1⟩, ⟨A2, c2, e2⟩, _, _, hT, hC⟩ := hW
  obtain ⟨q, tv, cv, T, C, dead⟩ := W
  dsimp only at e1 e2 hT hC
  subst e1 e2
  have hlen : (SW.pl ⟨q, .slice A1 T.length c1, .slice A2 C.length c2, T, C, dead⟩).1.length = T.length := List.length_map _
  generalize hy : addT ⟨d, SW.pl ⟨q, .slice A1 T.length c1, .slice A2 C.length c2, T, C, dead⟩, dead⟩ t = y
  refine Spec.of 54 Tryz.func12 rfl rfl rfl ?_
  refine swp_sr ?_
  refine s_as rfl ?_
  refine s_as rfl ?_
  refine swl_sub _ (sc0 0 rfl (sc0 1 rfl .nil)) ?_
  refine swl_nn ?_
  refine swp_seq ?_
  refine swp_sr ?_
  refine s_mv rfl ?_
  refine s_ef (ef_fn (live_spec p ⟨q, .slice A1 T.length c1, .slice A2 C.length c2, T, C, dead⟩) rfl rfl sp0) ?_
  rintro v10 L1 ⟨rfl, rfl⟩
  refine swl_app ?_
  refine s_as rfl ?_
  refine swl_sub _ (sc0 0 rfl (sc0 1 rfl (sc0 6 rfl .nil))) ?_
  refine swl_nn ?_
  refine swp_sr ?_
  refine s_mv rfl ?_
  refine s_pu (pu_neq rfl rfl) ?_
  refine swl_sub _ (sc0 0 rfl (sc0 1 rfl (sc0 6 rfl (sc0 12 rfl .nil)))) ?_
  refine swl_nn ?_
  refine swp_cond (b := _) rfl (fun h12 => ?_) (fun h12 => ?_)
  · skip   -- 12 T
    refine swp_sr ?_
    refine s_mv rfl ?_
    refine s_as rfl ?_
    refine s_as rfl ?_
    refine swl_sub _ (sc0 4 rfl (sc0 5 rfl .nil)) ?_
    refine swl_nn ?_
    refine swp_ret ?_
    refine then_r ?_
    have hdd : dead = true := by
      cases dead with
      | true => rfl
      | false => simp at h12
    have ha : (⟨d, SW.pl ⟨q, .slice A1 T.length c1, .slice A2 C.length c2, T, C, dead⟩, dead⟩, 0, 8) = y := by rw [← hy]; exact (addR_dead (x := ⟨d, SW.pl ⟨q, .slice A1 T.length c1, .slice A2 C.length c2, T, C, dead⟩, dead⟩) hdd).symm
    subst ha
    exact done_retE (own 47 2 (.slice none 0 0) 0 [] :: [FSA q d, stH p ⟨q, .slice A1 T.length c1, .slice A2 C.length c2, T, C, dead⟩, ttA ⟨q, .slice A1 T.length c1, .slice A2 C.length c2, T, C, dead⟩, ccA ⟨q, .slice A1 T.length c1, .slice A2 C.length c2, T, C, dead⟩, ro μ]) (.tmp rfl (.tmp rfl .nil)) ⟨⟨q, .slice A1 T.length c1, .slice A2 C.length c2, T, C, dead⟩, 0, [], .slice none 0 0, ⟨fun ν h _ => h, rfl, rfl, rfl, by rw [if_pos hdd]; rfl⟩, rfl⟩ ((Split.ent' (K := [FSA q d, stH p ⟨q, .slice A1 T.length c1, .slice A2 C.length c2, T, C, dead⟩, ttA ⟨q, .slice A1 T.length c1, .slice A2 C.length c2, T, C, dead⟩, ccA ⟨q, .slice A1 T.length c1, .slice A2 C.length c2, T, C, dead⟩, ro μ]) sp0).trans own_nil_ent)
  · skip   -- 12 F
    have hdd : dead = false := by
      cases dead with
      | true => simp at h12
      | false => rfl
    refine swp_skip ?_
    refine then_n ?_
    refine swp_sr ?_
    refine s_mv rfl ?_
    refine s_ef (ef_fn (tenc_spec μ v t hv hu) rfl rfl sp0) ?_
    rintro v16 L1 ⟨rfl, rfl⟩
    refine swl_app ?_
    refine s_mv rfl ?_
    first | refine s_pu (pu_extractL rfl) ?_ | refine s_pu (pu_extract rfl rfl) ?_
    first | refine s_pu (pu_extractL rfl) ?_ | refine s_pu (pu_extract rfl rfl) ?_
    refine s_as rfl ?_
    refine s_as rfl ?_
    refine swl_sub _ (sc0 0 rfl (sc0 1 rfl (sc0 7 rfl (sc0 8 rfl .nil)))) ?_
    refine swl_nn ?_
    refine swp_seq ?_
    refine swp_sr ?_
    refine s_mv rfl ?_
    refine s_pu (pu_eql rfl rfl) ?_
    refine s_mv rfl ?_
    refine s_split 21 rfl (fun h21 => ?_) (fun h21 => ?_)
    · skip   -- 21 T
      have h21' : encErr t = 0 := of_decide_eq_true h21
      obtain ⟨hl1, hl2⟩ := encErr_ok h21'
      have hev : encV t = encT t := by unfold encV; rw [if_pos h21']
      refine s_on rfl rfl ?_
      refine s_mv rfl ?_
      refine s_on rfl rfl ?_
      first | refine s_pu (pu_nilCheck rfl) ?_ | refine s_pu (pu_nilCheck_fn rfl) ?_ | refine s_pu (pu_nilCheck_if rfl) ?_
      refine s_on rfl rfl ?_
      first | refine s_pu (pu_fieldAddr0 rfl) ?_ | refine s_pu (pu_fieldAddr rfl) ?_
      refine s_on rfl rfl ?_
      refine s_rd (rd_load rfl rfl) ?_
      refine s_on rfl rfl ?_
      refine s_pu (pu_len rfl) ?_
      refine s_on rfl rfl ?_
      refine s_pu (pu_geq rfl rfl) ?_
      first | refine s_pu (pu_pick_t rfl rfl) ?_ | refine s_pu (pu_pick_f rfl rfl) ?_
      refine swl_sub _ (sc0 0 rfl (sc0 1 rfl (sc0 7 rfl (sc0 8 rfl (sc0 28 rfl .nil))))) ?_
      refine swl_nn ?_
      refine swp_cond (b := _) rfl (fun h28 => ?_) (fun h28 => ?_)
      · skip   -- 28 T
        have h28' : 65536 ≤ T.length := by have := of_decide_eq_true h28; omega
        refine swp_region ?_
        refine s_as rfl ?_
        refine swl_sub _ (sc0 0 rfl (sc0 1 rfl (sc0 7 rfl (sc0 8 rfl .nil)))) ?_
        refine swl_nn ?_
        refine swp_seq ?_
        refine swp_sr ?_
        refine s_mv rfl ?_
        refine s_pu (pu_eql rfl rfl) ?_
        refine swl_sub _ (sc0 0 rfl (sc0 1 rfl (sc0 7 rfl (sc0 8 rfl (sc0 30 rfl .nil))))) ?_
        refine swl_nn ?_
        refine swp_cond (b := _) rfl (fun h30 => by cases h30) (fun h30 => ?_)
        refine swp_skip ?_
        refine then_n ?_
        refine swp_seq ?_
        refine swp_sr ?_
        refine s_mv rfl ?_
        refine s_pu (pu_neq rfl rfl) ?_
        refine swl_sub _ (sc0 0 rfl (sc0 1 rfl (sc0 8 rfl (sc0 35 rfl .nil)))) ?_
        refine swl_nn ?_
        refine swp_cond (b := _) rfl (fun h35 => ?_) (fun h35 => by cases h35)
        refine swp_sr ?_
        refine s_mv rfl ?_
        refine s_as rfl ?_
        refine s_as rfl ?_
        refine swl_sub _ (sc0 4 rfl (sc0 5 rfl .nil)) ?_
        refine swl_nn ?_
        refine swp_ret ?_
        refine then_r ?_
        have ha : (⟨d, SW.pl ⟨q, .slice A1 T.length c1, .slice A2 C.length c2, T, C, dead⟩, dead⟩, 0, 7) = y := by rw [← hy]; exact (addR_full (x := ⟨d, SW.pl ⟨q, .slice A1 T.length c1, .slice A2 C.length c2, T, C, dead⟩, dead⟩) hdd h21' (by first | (show (SW.pl ⟨q, .slice A1 T.length c1, .slice A2 C.length c2, T, C, dead⟩).1.length < 65536; rw [hlen]; exact h28') | (show 65536 ≤ (SW.pl ⟨q, .slice A1 T.length c1, .slice A2 C.length c2, T, C, dead⟩).1.length; rw [hlen]; exact h28'))).symm
        subst ha
        exact done_retE (own 47 2 (.slice none 0 0) 0 [] :: [FSA q d, stH p ⟨q, .slice A1 T.length c1, .slice A2 C.length c2, T, C, dead⟩, ttA ⟨q, .slice A1 T.length c1, .slice A2 C.length c2, T, C, dead⟩, ccA ⟨q, .slice A1 T.length c1, .slice A2 C.length c2, T, C, dead⟩, ro μ]) (.tmp rfl (.tmp rfl .nil)) ⟨⟨q, .slice A1 T.length c1, .slice A2 C.length c2, T, C, dead⟩, 0, [], .slice none 0 0, ⟨fun ν h _ => h, rfl, rfl, rfl, rfl⟩, rfl⟩ ((Split.ent' (K := [FSA q d, stH p ⟨q, .slice A1 T.length c1, .slice A2 C.length c2, T, C, dead⟩, ttA ⟨q, .slice A1 T.length c1, .slice A2 C.length c2, T, C, dead⟩, ccA ⟨q, .slice A1 T.length c1, .slice A2 C.length c2, T, C, dead⟩, ro μ]) sp0).trans own_nil_ent)
      · skip   -- 28 F
        have h28' : T.length < 65536 := by have := of_decide_eq_false h28; omega
        refine swp_skip ?_
        refine then_n ?_
        refine swp_seq ?_
        refine swp_sr ?_
        refine s_mv rfl ?_
        refine s_pu (pu_eql rfl rfl) ?_
        refine swl_sub _ (sc0 0 rfl (sc0 1 rfl (sc0 7 rfl (sc0 8 rfl (sc0 30 rfl .nil))))) ?_
        refine swl_nn ?_
        refine swp_cond (b := _) rfl (fun h30 => ?_) (fun h30 => by rw [h21'] at h30; cases h30)
        refine swp_region ?_
        refine s_mv rfl ?_
        refine s_mv rfl ?_
        refine s_ef (ef_fn (write_spec p ⟨q, .slice A1 T.length c1, .slice A2 C.length c2, T, C, dead⟩ d hd (1, encV t) (by show 0 < 1; decide) (by show 1 < 256; decide) (by rw [hev]; exact encT_len h21')) rfl rfl sp0) ?_
        rintro v33 L1 ⟨rfl, rfl⟩
        rw [hev]
        refine swl_app ?_
        dsimp only
        refine s_as rfl ?_
        refine swl_sub _ (sc0 0 rfl (sc0 1 rfl (sc0 8 rfl .nil))) ?_
        refine swl_nn ?_
        refine swp_seq ?_
        refine swp_sr ?_
        refine s_mv rfl ?_
        refine s_pu (pu_neq rfl rfl) ?_
        refine swl_sub _ (sc0 0 rfl (sc0 1 rfl (sc0 8 rfl (sc0 35 rfl .nil)))) ?_
        refine swl_nn ?_
        refine swp_cond (b := _) rfl (fun h35 => ?_) (fun h35 => ?_)
        · skip   -- 35 T
          refine swp_sr ?_
          refine s_mv rfl ?_
          refine s_as rfl ?_
          refine s_as rfl ?_
          refine swl_sub _ (sc0 4 rfl (sc0 5 rfl .nil)) ?_
          refine swl_nn ?_
          refine swp_ret ?_
          refine then_r ?_
          have h35' : (writeD d (1, encT t)).2 ≠ 0 := by simpa using h35
          have ha : (⟨(writeD d (1, encT t)).1, SW.pl ⟨q, .slice A1 T.length c1, .slice A2 C.length c2, T, C, dead⟩, decide ((writeD d (1, encT t)).2 = 8)⟩, 0, (writeD d (1, encT t)).2) = y := by rw [← hy]; exact (addR_wr (x := ⟨d, SW.pl ⟨q, .slice A1 T.length c1, .slice A2 C.length c2, T, C, dead⟩, dead⟩) hdd h21' (by first | (show (SW.pl ⟨q, .slice A1 T.length c1, .slice A2 C.length c2, T, C, dead⟩).1.length < 65536; rw [hlen]; exact h28') | (show 65536 ≤ (SW.pl ⟨q, .slice A1 T.length c1, .slice A2 C.length c2, T, C, dead⟩).1.length; rw [hlen]; exact h28')) h35').symm
          subst ha
          exact done_retE (own 47 2 (.slice none 0 0) 0 [] :: [FSA q (writeD d (1, encT t)).1, stH p ⟨q, .slice A1 T.length c1, .slice A2 C.length c2, T, C, decide ((writeD d (1, encT t)).2 = 8)⟩, ttA ⟨q, .slice A1 T.length c1, .slice A2 C.length c2, T, C, dead⟩, ccA ⟨q, .slice A1 T.length c1, .slice A2 C.length c2, T, C, dead⟩, ro μ]) (.tmp rfl (.tmp rfl .nil)) ⟨⟨q, .slice A1 T.length c1, .slice A2 C.length c2, T, C, decide ((writeD d (1, encT t)).2 = 8)⟩, 0, [], .slice none 0 0, ⟨fun ν h _ => SW.Ok.dead h _, rfl, rfl, rfl, rfl⟩, rfl⟩ ((Split.ent' (K := [FSA q (writeD d (1, encT t)).1, stH p ⟨q, .slice A1 T.length c1, .slice A2 C.length c2, T, C, decide ((writeD d (1, encT t)).2 = 8)⟩, ttA ⟨q, .slice A1 T.length c1, .slice A2 C.length c2, T, C, dead⟩, ccA ⟨q, .slice A1 T.length c1, .slice A2 C.length c2, T, C, dead⟩, ro μ]) sp0).trans own_nil_ent)
        · skip   -- 35 F
          have h35' : (writeD d (1, encT t)).2 = 0 := by simpa using h35
          have ha : (⟨(writeD d (1, encT t)).1, ((SW.pl ⟨q, .slice A1 T.length c1, .slice A2 C.length c2, T, C, dead⟩).1 ++ [t], (SW.pl ⟨q, .slice A1 T.length c1, .slice A2 C.length c2, T, C, dead⟩).2), false⟩, ((SW.pl ⟨q, .slice A1 T.length c1, .slice A2 C.length c2, T, C, dead⟩).1.length : Int), 0) = y := by rw [← hy]; exact (addR_ok (x := ⟨d, SW.pl ⟨q, .slice A1 T.length c1, .slice A2 C.length c2, T, C, dead⟩, dead⟩) hdd h21' (by first | (show (SW.pl ⟨q, .slice A1 T.length c1, .slice A2 C.length c2, T, C, dead⟩).1.length < 65536; rw [hlen]; exact h28') | (show 65536 ≤ (SW.pl ⟨q, .slice A1 T.length c1, .slice A2 C.length c2, T, C, dead⟩).1.length; rw [hlen]; exact h28')) h35').symm
          have hd8 : decide ((writeD d (1, encT t)).2 = 8) = false := by rw [h35']; rfl
          rw [hd8]
          subst ha
          refine swp_skip ?_
          refine then_n ?_
          refine swp_seq ?_
          refine swp_draw [4] ([stH p ⟨q, .slice A1 T.length c1, .slice A2 C.length c2, T, C, false⟩]) ([FSA q (writeD d (1, encT t)).1, ro μ, ttA ⟨q, .slice A1 T.length c1, .slice A2 C.length c2, T, C, dead⟩, ccA ⟨q, .slice A1 T.length c1, .slice A2 C.length c2, T, C, dead⟩]) (Split.ent sp0) kr0 ?_
          refine d_pu 0 rfl (pu_move rfl) kr0 kr0 kr0 ?_
          refine d_pu 1 rfl (pu_move rfl) kr0 kr0 kr0 ?_
          first | refine d_pu 2 rfl (pu_nilCheck rfl) kr0 kr0 kr0 ?_ | refine d_pu 2 rfl (pu_nilCheck_fn rfl) kr0 kr0 kr0 ?_ | refine d_pu 2 rfl (pu_nilCheck_if rfl) kr0 kr0 kr0 ?_
          first | refine d_pu 3 rfl (pu_fieldAddr0 rfl) kr0 kr0 kr0 ?_ | refine d_pu 3 rfl (pu_fieldAddr rfl) kr0 kr0 kr0 ?_
          refine d_rd 4 rfl (rd_load rfl rfl) rfl kr0 kr0 kr0 ?_
          refine d_pu 5 rfl (pu_move rfl) kr0 kr0 kr0 ?_
          refine d_eft 6 rfl kr0 (ef_fn (cloneT_spec μ v t hv om0) rfl rfl sp0) ?_
          rintro v43 L1 ⟨A3, c3, rfl, rfl⟩
          refine ⟨_, ent_appC (Split.ent sp0), ?_⟩
          refine d_eft 7 rfl kr0 (ef_bldS (qs := [(0, _)]) rfl rfl rfl) ?_
          intro b44
          refine ⟨_, Split.ent sp0, ?_⟩
          first | refine d_fint 8 rfl kr0 kr0 (ef_append_lit (l := T.length) (m := 1) rfl rfl sp0 (by simp only [maxLen]; omega) om0) ?_ | refine d_finf 8 rfl kr0 kr0 (ef_append_lit (l := T.length) (m := 1) rfl rfl sp0 (by simp only [maxLen]; omega) om0) ?_
          rintro v45 -
          first | refine swd_factf (fun m h => own_form h) fun ⟨A45, c45, hv45⟩ => ?_ | refine swd_factt (fun m h => own_form h) fun ⟨A45, c45, hv45⟩ => ?_
          subst hv45
          first | refine d_pu 9 rfl (pu_nilCheck rfl) kr0 kr0 kr0 ?_ | refine d_pu 9 rfl (pu_nilCheck_fn rfl) kr0 kr0 kr0 ?_ | refine d_pu 9 rfl (pu_nilCheck_if rfl) kr0 kr0 kr0 ?_
          first | refine d_pu 10 rfl (pu_fieldAddr0 rfl) kr0 kr0 kr0 ?_ | refine d_pu 10 rfl (pu_fieldAddr rfl) kr0 kr0 kr0 ?_
          first | refine d_fin0t 11 rfl kr0 kr0 (ef_store rfl rfl rfl) ?_ | refine d_fin0f 11 rfl kr0 kr0 (ef_store rfl rfl rfl) ?_
          refine d_sub _ (sc0 0 rfl .nil) ?_
          first | refine d_nilt kr0 ?_ | refine d_nilf kr0 ?_
          refine then_n ?_
          refine swp_sr ?_
          refine s_mv rfl ?_
          first | refine s_pu (pu_nilCheck rfl) ?_ | refine s_pu (pu_nilCheck_fn rfl) ?_ | refine s_pu (pu_nilCheck_if rfl) ?_
          first | refine s_pu (pu_fieldAddr0 rfl) ?_ | refine s_pu (pu_fieldAddr rfl) ?_
          refine s_rd (rd_load rfl rfl) ?_
          refine s_pu (pu_len rfl) ?_
          refine s_pu (pu_sub_as ((T.length : Nat) : Int) rfl rfl om0 om0 om0) ?_
          refine s_as rfl ?_
          refine s_as rfl ?_
          refine swl_sub _ (sc0 4 rfl (sc0 5 rfl .nil)) ?_
          refine swl_nn ?_
          refine swp_ret ?_
          refine done_ret [own 47 2 (.slice A3 t.length c3) t.length (ens t), FSA q (writeD d (1, encT t)).1, stH p ⟨q, .slice A45 (T.length + 1) c45, .slice A2 C.length c2, T ++ [(.slice A3 t.length c3, t)], C, false⟩, own 22 1 (.slice A45 (T.length + 1) c45) (T.length + 1) (T.flatMap tcs ++ [.slice A3 t.length c3]), ccA ⟨q, .slice A1 T.length c1, .slice A2 C.length c2, T, C, dead⟩, ro μ] (.tmp rfl (.tmp rfl .nil)) ⟨⟨q, .slice A45 (T.length + 1) c45, .slice A2 C.length c2, T ++ [(.slice A3 t.length c3, t)], C, false⟩, t.length, ens t, .slice A3 t.length c3, ⟨fun ν h hrow => SW.Ok.dead (Ok.addT h (Le.refl _) hrow h28') false, rfl, ?_, rfl, ?_⟩, ?_⟩ sp0
          · unfold SW.pl; rw [List.map_append]; rfl
          · rw [hlen]; rfl
          · simp only [ttA, List.length_append, List.length_singleton, List.flatMap_append]; rfl
    · skip   -- 21 F
      have h21' : encErr t ≠ 0 := of_decide_eq_false h21
      refine s_off rfl rfl rfl ?_
      refine s_off rfl rfl rfl ?_
      refine s_off rfl rfl rfl ?_
      refine s_off rfl rfl rfl ?_
      refine s_off rfl rfl rfl ?_
      refine s_off rfl rfl rfl ?_
      first | refine s_pu (pu_pick_t rfl rfl) ?_ | refine s_pu (pu_pick_f rfl rfl) ?_
      refine swl_sub _ (sc0 0 rfl (sc0 1 rfl (sc0 7 rfl (sc0 8 rfl (sc0 28 rfl .nil))))) ?_
      refine swl_nn ?_
      refine swp_cond (b := _) rfl (fun h28 => by cases h28) (fun h28 => ?_)
      refine swp_skip ?_
      refine then_n ?_
      refine swp_seq ?_
      refine swp_sr ?_
      refine s_mv rfl ?_
      refine s_pu (pu_eql rfl rfl) ?_
      refine swl_sub _ (sc0 0 rfl (sc0 1 rfl (sc0 7 rfl (sc0 8 rfl (sc0 30 rfl .nil))))) ?_
      refine swl_nn ?_
      refine swp_cond (b := _) rfl (fun h30 => by exact absurd (of_decide_eq_true h30) h21') (fun h30 => ?_)
      refine swp_skip ?_
      refine then_n ?_
      refine swp_seq ?_
      refine swp_sr ?_
      refine s_mv rfl ?_
      refine s_pu (pu_neq rfl rfl) ?_
      refine swl_sub _ (sc0 0 rfl (sc0 1 rfl (sc0 8 rfl (sc0 35 rfl .nil)))) ?_
      refine swl_nn ?_
      refine swp_cond (b := _) rfl (fun h35 => ?_) (fun h35 => by rw [decide_eq_false h21'] at h35; cases h35)
      refine swp_sr ?_
      refine s_mv rfl ?_
      refine s_as rfl ?_
      refine s_as rfl ?_
      refine swl_sub _ (sc0 4 rfl (sc0 5 rfl .nil)) ?_
      refine swl_nn ?_
      refine swp_ret ?_
      refine then_r ?_
      have ha : (⟨d, SW.pl ⟨q, .slice A1 T.length c1, .slice A2 C.length c2, T, C, dead⟩, dead⟩, 0, encErr t) = y := by rw [← hy]; exact (addR_err (x := ⟨d, SW.pl ⟨q, .slice A1 T.length c1, .slice A2 C.length c2, T, C, dead⟩, dead⟩) hdd h21').symm
      subst ha
      exact done_retE (own 47 2 (.slice none 0 0) 0 [] :: [FSA q d, stH p ⟨q, .slice A1 T.length c1, .slice A2 C.length c2, T, C, dead⟩, ttA ⟨q, .slice A1 T.length c1, .slice A2 C.length c2, T, C, dead⟩, ccA ⟨q, .slice A1 T.length c1, .slice A2 C.length c2, T, C, dead⟩, ro μ]) (.tmp rfl (.tmp rfl .nil)) ⟨⟨q, .slice A1 T.length c1, .slice A2 C.length c2, T, C, dead⟩, 0, [], .slice none 0 0, ⟨fun ν h _ => h, rfl, rfl, rfl, rfl⟩, rfl⟩ ((Split.ent' (K := [FSA q d, stH p ⟨q, .slice A1 T.length c1, .slice A2 C.length c2, T, C, dead⟩, ttA ⟨q, .slice A1 T.length c1, .slice A2 C.length c2, T, C, dead⟩, ccA ⟨q, .slice A1 T.length c1, .slice A2 C.length c2, T, C, dead⟩, ro μ]) sp0).trans own_nil_ent)
set_option maxHeartbeats 4000000 in
theorem addcommitX_spec (μ : PH) (p : Nat) (W : SW) (hW : W.Ok μ) (d : Dk) (hd : d.Ok) (v : Value) (c : Cm) (hv : Row μ v 1 c.1.length (c.1.flatMap (icsk .i64))) : Spec Tryz.prog 13 [pv p, cmV v c.2] [FSA W.q d, stH p W, ttA W, ccA W, ro μ]
    (fun r L => ∃ W' n xs nv, AddX W (addC ⟨d, W.pl, W.dead⟩ c) r W' 1 nv n xs ∧ L = [own 3 1 nv n xs, FSA W'.q (addC ⟨d, W.pl, W.dead⟩ c).1.d, stH p W', ttA W', ccA W', ro μ]) := by
  have hW0 := hW
  obtain ⟨⟨A1, c1, e1⟩, ⟨A2, c2, e2⟩, _, _, hT, hC⟩ := hW
  obtain ⟨A5, c5, rfl⟩ := hv.sl
  obtain ⟨q, tv, cv, T, C, dead⟩ := W
  dsimp only at e1 e2 hT hC
  subst e1 e2
  have hlen : (SW.pl ⟨q, .slice A1 T.length c1, .slice A2 C.length c2, T, C, dead⟩).1.length = T.length := List.length_map _
  have hlen2 : (SW.pl ⟨q, .slice A1 T.length c1, .slice A2 C.length c2, T, C, dead⟩).2.length = C.length := List.length_map _
  generalize hy : addC ⟨d, SW.pl ⟨q, .slice A1 T.length c1, .slice A2 C.length c2, T, C, dead⟩, dead⟩ c = y
  unfold addC at hy
  dsimp only at hy
  rw [hlen, hlen2] at hy
  refine Spec.of 61 Tryz.func13 rfl rfl rfl ?_
  refine swp_sr ?_
  refine s_ef (ef_box rfl rfl) ?_
  intro b3
  refine s_as rfl ?_
  refine s_as rfl ?_
  refine swl_sub _ (sc0 0 rfl (sc0 3 rfl .nil)) ?_
  refine swl_nn ?_
  refine swp_seq ?_
  refine swp_sr ?_
  refine s_mv rfl ?_
  refine s_ef (ef_fn (live_spec p ⟨q, .slice A1 T.length c1, .slice A2 C.length c2, T, C, dead⟩) rfl rfl sp0) ?_
  rintro v10 L1 ⟨rfl, rfl⟩
  refine swl_app ?_
  refine s_as rfl ?_
  refine swl_sub _ (sc0 0 rfl (sc0 3 rfl (sc0 6 rfl .nil))) ?_
  refine swl_nn ?_
  refine swp_sr ?_
  refine s_mv rfl ?_
  refine s_pu (pu_neq rfl rfl) ?_
  refine swl_sub _ (sc0 0 rfl (sc0 3 rfl (sc0 6 rfl (sc0 12 rfl .nil)))) ?_
  refine swl_nn ?_
  refine swp_cond (b := _) rfl (fun h12 => ?_) (fun h12 => ?_)
  · skip   -- 12 T
    refine swp_sr ?_
    refine s_mv rfl ?_
    refine s_as rfl ?_
    refine s_as rfl ?_
    refine swl_sub _ (sc0 4 rfl (sc0 5 rfl .nil)) ?_
    refine swl_nn ?_
    refine swp_ret ?_
    refine then_r ?_
    have hdd : dead = true := by
      cases dead with
      | true => rfl
      | false => simp at h12
    have ha : (⟨d, SW.pl ⟨q, .slice A1 T.length c1, .slice A2 C.length c2, T, C, dead⟩, dead⟩, 0, 8) = y := by rw [← hy]; exact (addR_dead (x := ⟨d, SW.pl ⟨q, .slice A1 T.length c1, .slice A2 C.length c2, T, C, dead⟩, dead⟩) hdd).symm
    subst ha
    exact done_retE (own 3 1 (.slice none 0 0) 0 [] :: [FSA q d, stH p ⟨q, .slice A1 T.length c1, .slice A2 C.length c2, T, C, dead⟩, ttA ⟨q, .slice A1 T.length c1, .slice A2 C.length c2, T, C, dead⟩, ccA ⟨q, .slice A1 T.length c1, .slice A2 C.length c2, T, C, dead⟩, ro μ]) (.tmp rfl (.tmp rfl .nil)) ⟨⟨q, .slice A1 T.length c1, .slice A2 C.length c2, T, C, dead⟩, 0, [], .slice none 0 0, ⟨fun ν h _ => h, rfl, rfl, rfl, by rw [if_pos hdd]; rfl⟩, rfl⟩ ((Split.ent' (K := [FSA q d, stH p ⟨q, .slice A1 T.length c1, .slice A2 C.length c2, T, C, dead⟩, ttA ⟨q, .slice A1 T.length c1, .slice A2 C.length c2, T, C, dead⟩, ccA ⟨q, .slice A1 T.length c1, .slice A2 C.length c2, T, C, dead⟩, ro μ]) sp0).trans own_nil_ent)
  · skip   -- 12 F
    have hdd : dead = false := by
      cases dead with
      | true => simp at h12
      | false => rfl
    refine swp_skip ?_
    refine then_n ?_
    refine swp_sr ?_
    first | refine s_rd (rd_loadW rfl rfl) ?_ | refine s_rd (rd_loadX rfl rfl rfl) ?_
    refine s_ef (ef_fn (cenc_spec μ (.slice A5 c.1.length c5) c hv) rfl rfl sp0) ?_
    rintro v16 L1 ⟨rfl, rfl⟩
    refine swl_app ?_
    refine s_mv rfl ?_
    first | refine s_pu (pu_extractL rfl) ?_ | refine s_pu (pu_extract rfl rfl) ?_
    first | refine s_pu (pu_extractL rfl) ?_ | refine s_pu (pu_extract rfl rfl) ?_
    refine s_as rfl ?_
    refine s_as rfl ?_
    refine swl_sub _ (sc0 0 rfl (sc0 3 rfl (sc0 7 rfl (sc0 8 rfl .nil)))) ?_
    refine swl_nn ?_
    refine swp_seq ?_
    refine swp_block ?_
    refine swp_sr ?_
    refine s_mv rfl ?_
    refine s_pu (pu_neq rfl rfl) ?_
    refine s_as rfl ?_
    refine swl_sub _ (sc0 0 rfl (sc0 3 rfl (sc0 7 rfl (sc0 8 rfl (sc0 22 rfl .nil))))) ?_
    refine swl_nn ?_
    refine swp_cond (b := _) rfl (fun h22 => ?_) (fun h22 => ?_)
    · skip   -- 22 T
      have h22' : checkC c ≠ 0 := by simpa using h22
      rw [if_pos h22'] at hy
      refine swp_skip ?_
      refine block_n ?_
      refine then_n ?_
      refine swp_seq ?_
      refine swp_sr ?_
      refine s_mv rfl ?_
      refine s_pu (pu_neq rfl rfl) ?_
      refine swl_sub _ (sc0 0 rfl (sc0 3 rfl (sc0 8 rfl (sc0 38 rfl .nil)))) ?_
      refine swl_nn ?_
      refine swp_cond (b := _) rfl (fun h38 => ?_) (fun h38 => by rw [decide_eq_false h22'] at h38; cases h38)
      refine swp_sr ?_
      refine s_mv rfl ?_
      refine s_as rfl ?_
      refine s_as rfl ?_
      refine swl_sub _ (sc0 4 rfl (sc0 5 rfl .nil)) ?_
      refine swl_nn ?_
      refine swp_ret ?_
      refine then_r ?_
      have ha : (⟨d, SW.pl ⟨q, .slice A1 T.length c1, .slice A2 C.length c2, T, C, dead⟩, dead⟩, 0, checkC c) = y := by rw [← hy]; exact (addR_err (x := ⟨d, SW.pl ⟨q, .slice A1 T.length c1, .slice A2 C.length c2, T, C, dead⟩, dead⟩) hdd h22').symm
      subst ha
      exact done_retE (own 3 1 (.slice none 0 0) 0 [] :: [FSA q d, stH p ⟨q, .slice A1 T.length c1, .slice A2 C.length c2, T, C, dead⟩, ttA ⟨q, .slice A1 T.length c1, .slice A2 C.length c2, T, C, dead⟩, ccA ⟨q, .slice A1 T.length c1, .slice A2 C.length c2, T, C, dead⟩, ro μ]) (.tmp rfl (.tmp rfl .nil)) ⟨⟨q, .slice A1 T.length c1, .slice A2 C.length c2, T, C, dead⟩, 0, [], .slice none 0 0, ⟨fun ν h _ => h, rfl, rfl, rfl, rfl⟩, rfl⟩ ((Split.ent' (K := [FSA q d, stH p ⟨q, .slice A1 T.length c1, .slice A2 C.length c2, T, C, dead⟩, ttA ⟨q, .slice A1 T.length c1, .slice A2 C.length c2, T, C, dead⟩, ccA ⟨q, .slice A1 T.length c1, .slice A2 C.length c2, T, C, dead⟩, ro μ]) sp0).trans own_nil_ent)
    · skip   -- 22 F
      have h22' : checkC c = 0 := by simpa using h22
      rw [if_neg (not_not_intro h22')] at hy
      refine swp_sr ?_
      refine s_mv rfl ?_
      first | refine s_rd (rd_loadW rfl rfl) ?_ | refine s_rd (rd_loadX rfl rfl rfl) ?_
      refine s_ef (ef_fn (known_spec μ p ⟨q, .slice A1 T.length c1, .slice A2 C.length c2, T, C, dead⟩ hW0 (.slice A5 c.1.length c5) c hv) rfl rfl sp0) ?_
      rintro v28 L1 ⟨rfl, rfl⟩
      refine swl_app ?_
      refine s_pu (pu_not rfl) ?_
      refine s_as rfl ?_
      refine swl_sub _ (sc0 0 rfl (sc0 3 rfl (sc0 7 rfl (sc0 25 rfl .nil)))) ?_
      refine swl_nn ?_
      refine swp_cond (b := _) rfl (fun h25 => ?_) (fun h25 => ?_)
      · skip   -- 25 T
        have h25' : knownS T.length C.length c = false := by simpa using h25
        rw [if_pos h25'] at hy
        refine swp_region ?_
        refine s_as rfl ?_
        refine swl_sub _ (sc0 0 rfl (sc0 3 rfl (sc0 8 rfl .nil))) ?_
        refine swl_nil ?_
        refine block_n ?_
        refine then_n ?_
        refine swp_seq ?_
        refine swp_sr ?_
        refine s_mv rfl ?_
        refine s_pu (pu_neq rfl rfl) ?_
        refine swl_sub _ (sc0 0 rfl (sc0 3 rfl (sc0 8 rfl (sc0 38 rfl .nil)))) ?_
        refine swl_nn ?_
        refine swp_cond (b := _) rfl (fun h38 => ?_) (fun h38 => by cases h38)
        refine swp_sr ?_
        refine s_mv rfl ?_
        refine s_as rfl ?_
        refine s_as rfl ?_
        refine swl_sub _ (sc0 4 rfl (sc0 5 rfl .nil)) ?_
        refine swl_nn ?_
        refine swp_ret ?_
        refine then_r ?_
        have ha : (⟨d, SW.pl ⟨q, .slice A1 T.length c1, .slice A2 C.length c2, T, C, dead⟩, dead⟩, 0, 9) = y := by rw [← hy]; exact (addR_err (x := ⟨d, SW.pl ⟨q, .slice A1 T.length c1, .slice A2 C.length c2, T, C, dead⟩, dead⟩) hdd (by decide)).symm
        subst ha
        exact done_retE (own 3 1 (.slice none 0 0) 0 [] :: [FSA q d, stH p ⟨q, .slice A1 T.length c1, .slice A2 C.length c2, T, C, dead⟩, ttA ⟨q, .slice A1 T.length c1, .slice A2 C.length c2, T, C, dead⟩, ccA ⟨q, .slice A1 T.length c1, .slice A2 C.length c2, T, C, dead⟩, ro μ]) (.tmp rfl (.tmp rfl .nil)) ⟨⟨q, .slice A1 T.length c1, .slice A2 C.length c2, T, C, dead⟩, 0, [], .slice none 0 0, ⟨fun ν h _ => h, rfl, rfl, rfl, rfl⟩, rfl⟩ ((Split.ent' (K := [FSA q d, stH p ⟨q, .slice A1 T.length c1, .slice A2 C.length c2, T, C, dead⟩, ttA ⟨q, .slice A1 T.length c1, .slice A2 C.length c2, T, C, dead⟩, ccA ⟨q, .slice A1 T.length c1, .slice A2 C.length c2, T, C, dead⟩, ro μ]) sp0).trans own_nil_ent)
      · skip   -- 25 F
        have h25' : knownS T.length C.length c = true := by simpa using h25
        rw [if_neg (by rw [h25']; decide)] at hy
        refine swp_sr ?_
        refine s_mv rfl ?_
        first | refine s_pu (pu_nilCheck rfl) ?_ | refine s_pu (pu_nilCheck_fn rfl) ?_ | refine s_pu (pu_nilCheck_if rfl) ?_
        first | refine s_pu (pu_fieldAddr0 rfl) ?_ | refine s_pu (pu_fieldAddr rfl) ?_
        refine s_rd (rd_load rfl rfl) ?_
        refine s_pu (pu_len rfl) ?_
        refine s_pu (pu_geq rfl rfl) ?_
        refine s_as rfl ?_
        refine swl_sub _ (sc0 0 rfl (sc0 3 rfl (sc0 7 rfl (sc0 30 rfl .nil)))) ?_
        refine swl_nn ?_
        refine swp_cond (b := _) rfl (fun h30 => ?_) (fun h30 => ?_)
        · skip   -- 30 T
          have h30' : 65536 ≤ C.length := by have := of_decide_eq_true h30; omega
          refine swp_region ?_
          refine s_as rfl ?_
          refine swl_sub _ (sc0 0 rfl (sc0 3 rfl (sc0 8 rfl .nil))) ?_
          refine swl_nil ?_
          refine block_n ?_
          refine then_n ?_
          refine swp_seq ?_
          refine swp_sr ?_
          refine s_mv rfl ?_
          refine s_pu (pu_neq rfl rfl) ?_
          refine swl_sub _ (sc0 0 rfl (sc0 3 rfl (sc0 8 rfl (sc0 38 rfl .nil)))) ?_
          refine swl_nn ?_
          refine swp_cond (b := _) rfl (fun h38 => ?_) (fun h38 => by cases h38)
          refine swp_sr ?_
          refine s_mv rfl ?_
          refine s_as rfl ?_
          refine s_as rfl ?_
          refine swl_sub _ (sc0 4 rfl (sc0 5 rfl .nil)) ?_
          refine swl_nn ?_
          refine swp_ret ?_
          refine then_r ?_
          have ha : (⟨d, SW.pl ⟨q, .slice A1 T.length c1, .slice A2 C.length c2, T, C, dead⟩, dead⟩, 0, 7) = y := by rw [← hy]; exact (addR_full (x := ⟨d, SW.pl ⟨q, .slice A1 T.length c1, .slice A2 C.length c2, T, C, dead⟩, dead⟩) hdd rfl h30').symm
          subst ha
          exact done_retE (own 3 1 (.slice none 0 0) 0 [] :: [FSA q d, stH p ⟨q, .slice A1 T.length c1, .slice A2 C.length c2, T, C, dead⟩, ttA ⟨q, .slice A1 T.length c1, .slice A2 C.length c2, T, C, dead⟩, ccA ⟨q, .slice A1 T.length c1, .slice A2 C.length c2, T, C, dead⟩, ro μ]) (.tmp rfl (.tmp rfl .nil)) ⟨⟨q, .slice A1 T.length c1, .slice A2 C.length c2, T, C, dead⟩, 0, [], .slice none 0 0, ⟨fun ν h _ => h, rfl, rfl, rfl, rfl⟩, rfl⟩ ((Split.ent' (K := [FSA q d, stH p ⟨q, .slice A1 T.length c1, .slice A2 C.length c2, T, C, dead⟩, ttA ⟨q, .slice A1 T.length c1, .slice A2 C.length c2, T, C, dead⟩, ccA ⟨q, .slice A1 T.length c1, .slice A2 C.length c2, T, C, dead⟩, ro μ]) sp0).trans own_nil_ent)
        · skip   -- 30 F
          have h30' : C.length < 65536 := by have := of_decide_eq_false h30; omega
          have hbl := (checkC_ok h22').1
          refine swp_region ?_
          refine s_mv rfl ?_
          refine s_mv rfl ?_
          refine s_ef (ef_fn (write_spec p ⟨q, .slice A1 T.length c1, .slice A2 C.length c2, T, C, dead⟩ d hd (2, comV c) (by show 0 < 2; decide) (by show 2 < 256; decide) (by rw [comV_ok h22']; exact encC_len h22')) rfl rfl sp0) ?_
          rintro v21 L1 ⟨rfl, rfl⟩
          rw [comV_ok h22']
          refine swl_app ?_
          dsimp only
          refine s_as rfl ?_
          refine swl_sub _ (sc0 0 rfl (sc0 3 rfl (sc0 8 rfl .nil))) ?_
          refine swl_nil ?_
          refine block_n ?_
          refine then_n ?_
          refine swp_seq ?_
          refine swp_sr ?_
          refine s_mv rfl ?_
          refine s_pu (pu_neq rfl rfl) ?_
          refine swl_sub _ (sc0 0 rfl (sc0 3 rfl (sc0 8 rfl (sc0 38 rfl .nil)))) ?_
          refine swl_nn ?_
          refine swp_cond (b := _) rfl (fun h38 => ?_) (fun h38 => ?_)
          · skip   -- 38 T
            refine swp_sr ?_
            refine s_mv rfl ?_
            refine s_as rfl ?_
            refine s_as rfl ?_
            refine swl_sub _ (sc0 4 rfl (sc0 5 rfl .nil)) ?_
            refine swl_nn ?_
            refine swp_ret ?_
            refine then_r ?_
            have h38' : (writeD d (2, encC' c)).2 ≠ 0 := by simpa using h38
            have ha : (⟨(writeD d (2, encC' c)).1, SW.pl ⟨q, .slice A1 T.length c1, .slice A2 C.length c2, T, C, dead⟩, decide ((writeD d (2, encC' c)).2 = 8)⟩, 0, (writeD d (2, encC' c)).2) = y := by rw [← hy]; exact (addR_wr (x := ⟨d, SW.pl ⟨q, .slice A1 T.length c1, .slice A2 C.length c2, T, C, dead⟩, dead⟩) hdd rfl h30' h38').symm
            subst ha
            exact done_retE (own 3 1 (.slice none 0 0) 0 [] :: [FSA q (writeD d (2, encC' c)).1, stH p ⟨q, .slice A1 T.length c1, .slice A2 C.length c2, T, C, decide ((writeD d (2, encC' c)).2 = 8)⟩, ttA ⟨q, .slice A1 T.length c1, .slice A2 C.length c2, T, C, dead⟩, ccA ⟨q, .slice A1 T.length c1, .slice A2 C.length c2, T, C, dead⟩, ro μ]) (.tmp rfl (.tmp rfl .nil)) ⟨⟨q, .slice A1 T.length c1, .slice A2 C.length c2, T, C, decide ((writeD d (2, encC' c)).2 = 8)⟩, 0, [], .slice none 0 0, ⟨fun ν h _ => SW.Ok.dead h _, rfl, rfl, rfl, rfl⟩, rfl⟩ ((Split.ent' (K := [FSA q (writeD d (2, encC' c)).1, stH p ⟨q, .slice A1 T.length c1, .slice A2 C.length c2, T, C, decide ((writeD d (2, encC' c)).2 = 8)⟩, ttA ⟨q, .slice A1 T.length c1, .slice A2 C.length c2, T, C, dead⟩, ccA ⟨q, .slice A1 T.length c1, .slice A2 C.length c2, T, C, dead⟩, ro μ]) sp0).trans own_nil_ent)
          · skip   -- 38 F
            have h38' : (writeD d (2, encC' c)).2 = 0 := by simpa using h38
            have ha : (⟨(writeD d (2, encC' c)).1, ((SW.pl ⟨q, .slice A1 T.length c1, .slice A2 C.length c2, T, C, dead⟩).1, (SW.pl ⟨q, .slice A1 T.length c1, .slice A2 C.length c2, T, C, dead⟩).2 ++ [c]), false⟩, ((C.length : Nat) : Int), 0) = y := by rw [← hy]; exact (addR_ok (x := ⟨d, SW.pl ⟨q, .slice A1 T.length c1, .slice A2 C.length c2, T, C, dead⟩, dead⟩) hdd rfl h30' h38').symm
            have hd8 : decide ((writeD d (2, encC' c)).2 = 8) = false := by rw [h38']; rfl
            rw [hd8]
            subst ha
            refine swp_skip ?_
            refine then_n ?_
            refine swp_seq ?_
            refine swp_draw [4, 6, 9] ([stH p ⟨q, .slice A1 T.length c1, .slice A2 C.length c2, T, C, false⟩, blk b3 25 [.slice A5 c.1.length c5, .int .i64 c.2]]) ([FSA q (writeD d (2, encC' c)).1, ro μ, ttA ⟨q, .slice A1 T.length c1, .slice A2 C.length c2, T, C, dead⟩, ccA ⟨q, .slice A1 T.length c1, .slice A2 C.length c2, T, C, dead⟩]) (Split.ent sp0) kr0 ?_
            refine d_pu 0 rfl (pu_move rfl) kr0 kr0 kr0 ?_
            refine d_pu 1 rfl (pu_move rfl) kr0 kr0 kr0 ?_
            first | refine d_pu 2 rfl (pu_nilCheck rfl) kr0 kr0 kr0 ?_ | refine d_pu 2 rfl (pu_nilCheck_fn rfl) kr0 kr0 kr0 ?_ | refine d_pu 2 rfl (pu_nilCheck_if rfl) kr0 kr0 kr0 ?_
            first | refine d_pu 3 rfl (pu_fieldAddr0 rfl) kr0 kr0 kr0 ?_ | refine d_pu 3 rfl (pu_fieldAddr rfl) kr0 kr0 kr0 ?_
            refine d_rd 4 rfl (rd_load rfl rfl) rfl kr0 kr0 kr0 ?_
            first | refine d_pu 5 rfl (pu_fieldAddr0 rfl) kr0 kr0 kr0 ?_ | refine d_pu 5 rfl (pu_fieldAddr rfl) kr0 kr0 kr0 ?_
            refine d_rd 6 rfl (rd_load rfl rfl) rfl kr0 kr0 kr0 ?_
            first | refine d_pu 8 rfl (pu_fieldAddr0 rfl) kr0 kr0 kr0 ?_ | refine d_pu 8 rfl (pu_fieldAddr rfl) kr0 kr0 kr0 ?_
            refine d_rd 9 rfl (rd_load rfl rfl) rfl kr0 kr0 kr0 ?_
            refine d_eft 7 rfl kr0 (ef_fn (cloneI_spec μ (.slice A5 c.1.length c5) c.1 hv om0) rfl rfl sp0) ?_
            rintro v47 L1 ⟨A3, c3, rfl, rfl⟩
            refine ⟨_, ent_appC (Split.ent sp0), ?_⟩
            refine d_pu 10 rfl (pu_bld (qs := [(0, _), (1, _)]) rfl) kr0 kr0 kr0 ?_
            refine d_eft 11 rfl kr0 (ef_bldS (qs := [(0, _)]) rfl rfl rfl) ?_
            intro b51
            refine ⟨_, Split.ent sp0, ?_⟩
            first | refine d_fint 12 rfl kr0 kr0 (ef_append_lit (l := C.length) (m := 1) rfl rfl sp0 (by simp only [maxLen]; omega) om0) ?_ | refine d_finf 12 rfl kr0 kr0 (ef_append_lit (l := C.length) (m := 1) rfl rfl sp0 (by simp only [maxLen]; omega) om0) ?_
            rintro v52 -
            first | refine swd_factf (fun m h => own_form h) fun ⟨A45, c45, hv45⟩ => ?_ | refine swd_factt (fun m h => own_form h) fun ⟨A45, c45, hv45⟩ => ?_
            subst hv45
            first | refine d_pu 13 rfl (pu_nilCheck rfl) kr0 kr0 kr0 ?_ | refine d_pu 13 rfl (pu_nilCheck_fn rfl) kr0 kr0 kr0 ?_ | refine d_pu 13 rfl (pu_nilCheck_if rfl) kr0 kr0 kr0 ?_
            first | refine d_pu 14 rfl (pu_fieldAddr0 rfl) kr0 kr0 kr0 ?_ | refine d_pu 14 rfl (pu_fieldAddr rfl) kr0 kr0 kr0 ?_
            first | refine d_fin0t 15 rfl kr0 kr0 (ef_store rfl rfl rfl) ?_ | refine d_fin0f 15 rfl kr0 kr0 (ef_store rfl rfl rfl) ?_
            refine d_sub _ (sc0 0 rfl .nil) ?_
            first | refine d_nilt kr0 ?_ | refine d_nilf kr0 ?_
            refine then_n ?_
            refine swp_sr ?_
            refine s_mv rfl ?_
            first | refine s_pu (pu_nilCheck rfl) ?_ | refine s_pu (pu_nilCheck_fn rfl) ?_ | refine s_pu (pu_nilCheck_if rfl) ?_
            first | refine s_pu (pu_fieldAddr0 rfl) ?_ | refine s_pu (pu_fieldAddr rfl) ?_
            refine s_rd (rd_load rfl rfl) ?_
            refine s_pu (pu_len rfl) ?_
            refine s_pu (pu_sub_as ((C.length : Nat) : Int) rfl rfl om0 om0 om0) ?_
            refine s_as rfl ?_
            refine s_as rfl ?_
            refine swl_sub _ (sc0 4 rfl (sc0 5 rfl .nil)) ?_
            refine swl_nn ?_
            refine swp_ret ?_
            refine done_ret [own 3 1 (.slice A3 c.1.length c3) c.1.length (c.1.flatMap (icsk .i64)), FSA q (writeD d (2, encC' c)).1, stH p ⟨q, .slice A1 T.length c1, .slice A45 (C.length + 1) c45, T, C ++ [(.slice A3 c.1.length c3, c)], false⟩, ttA ⟨q, .slice A1 T.length c1, .slice A2 C.length c2, T, C, dead⟩, own 25 2 (.slice A45 (C.length + 1) c45) (C.length + 1) (C.flatMap ccs ++ [.slice A3 c.1.length c3, .int .i64 c.2]), ro μ] (.tmp rfl (.tmp rfl .nil)) ⟨⟨q, .slice A1 T.length c1, .slice A45 (C.length + 1) c45, T, C ++ [(.slice A3 c.1.length c3, c)], false⟩, c.1.length, c.1.flatMap (icsk .i64), .slice A3 c.1.length c3, ⟨fun ν h hrow => SW.Ok.dead (Ok.addC h (Le.refl _) hrow h30') false, rfl, ?_, rfl, rfl⟩, ?_⟩ sp0
            · unfold SW.pl; rw [List.map_append]; rfl
            · simp only [ccA, List.length_append, List.length_singleton, List.flatMap_append]; rfl
end SX
namespace SX
open Go Go.Proofs
abbrev ownR (x : Value × List Int) : Assn := own 3 1 x.1 x.2.length (x.2.flatMap (icsk .i64))
/-- rows of the call's own -/
def rowsA (G : List (Value × List Int)) : Assn := exA fun _ : Unit => G.map ownR
theorem rows_nil {L : List Assn} : Ent L (rowsA [] :: L) := exA_close (F := fun _ : Unit => ([] : List (Value × List Int)).map ownR) ()
theorem rows_open {G : List (Value × List Int)} {L : List Assn} : Ent (rowsA G :: L) (G.map ownR ++ L) := fun m h => by
  obtain ⟨_, h⟩ := exA_open h
  exact h
theorem rows_close {G : List (Value × List Int)} {L : List Assn} : Ent (G.map ownR ++ L) (rowsA G :: L) := exA_close (F := fun _ : Unit => G.map ownR) ()
theorem rows_take {x : Value × List Int} {G : List (Value × List Int)} {L : List Assn} : Ent (rowsA (x :: G) :: L) (ownR x :: rowsA G :: L) := by
  refine rows_open.trans ?_
  refine Ent.trans ?_ (Ent.perm (List.Perm.swap (ownR x) (rowsA G) L))
  refine Ent.trans ?_ (rows_close (G := G))
  exact Ent.perm (List.perm_middle (l₁ := G.map ownR) (l₂ := L) (a := ownR x)).symm
theorem rows_snoc {x : Value × List Int} {G : List (Value × List Int)} {L : List Assn} : Ent (rowsA G :: ownR x :: L) (rowsA (G ++ [x]) :: L) := by
  refine rows_open.trans ?_
  refine Ent.trans ?_ rows_close
  rw [List.map_append, List.append_assoc]
  exact Ent.refl _
set_option maxHeartbeats 2000000 in
/-- Graph: all of it is the caller's own -/
theorem graphO_spec (p : Nat) (W : SW) (μ : PH) (hW : W.Ok μ) (hlt : ∀ x ∈ W.C, x.2.1.length ≤ 1048576) : Spec Tryz.prog 19 [pv p] [stH p W, ccA W, ro μ] (fun r L => ∃ G, nums G = parS W.pl ∧ L = [own 23 1 r G.length (G.flatMap gcs), rowsA G, stH p W, ccA W, ro μ]) := by
  have hW0 := hW
  obtain ⟨⟨A1, c1, e1⟩, ⟨A2, c2, e2⟩, htr, hcr, hT, hC⟩ := hW
  obtain ⟨q, tv, cv, T, C, dead⟩ := W
  dsimp only at e1 e2 htr hcr hT hC hlt
  subst e1 e2
  refine Spec.of 24 Tryz.func19 rfl rfl rfl ?_
  refine swp_sr ?_
  refine s_as rfl ?_
  refine swl_sub _ (sc0 0 rfl .nil) ?_
  refine swl_nn ?_
  refine swp_sr ?_
  refine s_as rfl ?_
  refine swl_sub _ (sc0 0 rfl (sc0 3 rfl .nil)) ?_
  refine swl_nn ?_
  refine swp_seq ?_
  refine swp_sr ?_
  refine s_mv rfl ?_
  refine s_ef (ef_fn (coms_spec p ⟨q, .slice A1 T.length c1, .slice A2 C.length c2, T, C, dead⟩ μ hW0) rfl rfl sp0) ?_
  rintro v6 L1 ⟨rfl, rfl⟩
  refine swl_app ?_
  refine s_mv rfl ?_
  refine swl_sub _ (sc0 0 rfl (sc0 3 rfl (sc0 6 rfl (sc0 7 rfl .nil)))) ?_
  refine swl_nn ?_
  refine swp_block ?_
  refine swp_ent (own_nil_ent (e := 23) (n := 1)) ?_
  refine swp_ent rows_nil ?_
  refine swp_loop (ι := Nat × Value × List (Value × List Int)) (fun k env L => Sub env [(0, pv p), (3, k.2.1), (6, .int .i64 (C.length : Nat)), (7, .int .i64 (k.1 : Nat))] ∧ Ent L [own 23 1 k.2.1 k.1 (k.2.2.flatMap gcs), rowsA k.2.2, stH p ⟨q, .slice A1 T.length c1, .slice A2 C.length c2, T, C, dead⟩, ccA ⟨q, .slice A1 T.length c1, .slice A2 C.length c2, T, C, dead⟩, ro μ] ∧ k.1 ≤ C.length ∧ nums k.2.2 = ((C.take k.1).map (·.2)).map (·.1)) (fun k => C.length - k.1) (0, .slice none 0 0, []) ⟨⟨rfl, rfl, rfl, rfl, trivial⟩, by show Ent _ [own 23 1 (.slice none 0 0) 0 [], rowsA [], stH p ⟨q, .slice A1 T.length c1, .slice A2 C.length c2, T, C, dead⟩, ccA ⟨q, .slice A1 T.length c1, .slice A2 C.length c2, T, C, dead⟩, ro μ]; exact Split.ent' sp0, Nat.zero_le _, rfl⟩ ?_
  rintro ⟨k, v3, Gk⟩ env L ⟨hsub, hE, hk, hnk⟩
  dsimp only at hsub hE hk hnk ⊢
  refine swp_sub _ hsub ?_
  refine swp_ent hE ?_
  clear hsub hE env L
  refine swp_sr ?_
  refine s_pu (pu_lss rfl rfl) ?_
  refine swl_sub _ (sc0 0 rfl (sc0 3 rfl (sc0 6 rfl (sc0 7 rfl (sc0 8 rfl .nil))))) ?_
  refine swl_nn ?_
  refine swp_seq ?_
  refine swp_cond (b := _) rfl (fun h8 => ?_) (fun h8 => ?_)
  · skip   -- 8 T
    have h8' : k < C.length := by have := of_decide_eq_true h8; omega
    obtain ⟨x, hx⟩ : ∃ x, C[k]? = some x := ⟨_, List.getElem?_eq_getElem h8'⟩
    have hxm := List.mem_of_getElem? hx
    have hxr := hcr x hxm
    have hx0 := (ccs_get hx).1
    refine swp_fact (fun m h => own_shape (e := 25) (n := 2) (v := .slice A2 C.length c2) (l := C.length) (xs := C.flatMap ccs) tk0 h) fun hs => ?_
    obtain ⟨b, hA2⟩ : ∃ b, A2 = some ⟨b, 0, none⟩ := by
      rcases hs with ⟨_, h⟩ | ⟨b, cap, h, _⟩
      · omega
      · injection h with h1; exact ⟨b, h1⟩
    rw [hA2]
    refine swp_skip ?_
    refine then_n ?_
    refine swp_seq ?_
    refine swp_block ?_
    refine swp_sr ?_
    refine s_mv rfl ?_
    refine s_as rfl ?_
    refine swl_sub _ (sc0 0 rfl (sc0 3 rfl (sc0 4 rfl (sc0 6 rfl (sc0 7 rfl .nil))))) ?_
    refine swl_nn ?_
    refine swp_region ?_
    refine s_mv rfl ?_
    refine s_mv rfl ?_
    first | refine s_pu (pu_nilCheck rfl) ?_ | refine s_pu (pu_nilCheck_fn rfl) ?_ | refine s_pu (pu_nilCheck_if rfl) ?_
    first | refine s_pu (pu_fieldAddr0 rfl) ?_ | refine s_pu (pu_fieldAddr rfl) ?_
    refine s_rd (rd_load rfl rfl) ?_
    refine s_mv rfl ?_
    refine s_pu (pu_indexAddr (0 + k * 2) rfl rfl om0 om0 (by rw [Int.toNat_natCast])) ?_
    first | refine s_pu (pu_fieldAddr0 rfl) ?_ | refine s_pu (pu_fieldAddr rfl) ?_
    refine s_rd (rd_of_ld rfl (by rw [Nat.zero_add]; exact ld_ownN (e := 25) (n := 2) tk0 hx0)) ?_
    refine s_ef (ef_fn (cloneI_spec μ x.1 x.2.1 hxr (hlt x hxm)) rfl rfl sp0) ?_
    rintro v19 L1 ⟨A3, c3, rfl, rfl⟩
    refine swl_app ?_
    refine s_ef (ef_bldS (qs := [(0, _)]) rfl rfl rfl) ?_
    intro b20
    refine s_ef (ef_append_lit (l := k) (m := 1) rfl rfl sp0 (by simp only [maxLen]; omega) om0) ?_
    rintro v21 -
    skip
    refine s_as rfl ?_
    refine swl_sub _ (sc0 0 rfl (sc0 3 rfl (sc0 6 rfl (sc0 7 rfl .nil)))) ?_
    rw [← hA2]
    refine swl_nil ?_
    refine block_n ?_
    refine then_n ?_
    refine swp_region ?_
    refine s_pu (pu_add_as ((k + 1 : Nat) : Int) rfl rfl om0 om0 om0) ?_
    refine s_mv rfl ?_
    refine swl_sub _ (sc0 0 rfl (sc0 3 rfl (sc0 6 rfl (sc0 7 rfl .nil)))) ?_
    refine swl_nil ?_
    refine then_n ⟨(k + 1, v21, Gk ++ [(.slice A3 x.2.1.length c3, x.2.1)]), ⟨⟨rfl, rfl, rfl, rfl, trivial⟩, ?_, h8', ?_⟩, by show C.length - (k + 1) < C.length - k; omega⟩
    · show Ent _ [own 23 1 v21 (k + 1) ((Gk ++ [(Value.slice A3 x.2.1.length c3, x.2.1)]).flatMap gcs), rowsA (Gk ++ [(Value.slice A3 x.2.1.length c3, x.2.1)]), stH p ⟨q, .slice A1 T.length c1, .slice A2 C.length c2, T, C, dead⟩, ccA ⟨q, .slice A1 T.length c1, .slice A2 C.length c2, T, C, dead⟩, ro μ]
      rw [show (Gk ++ [(Value.slice A3 x.2.1.length c3, x.2.1)]).flatMap gcs = Gk.flatMap gcs ++ [Value.slice A3 x.2.1.length c3] by rw [List.flatMap_append]; rfl]
      refine (Split.ent' (K := [rowsA Gk, ownR (Value.slice A3 x.2.1.length c3, x.2.1), own 23 1 v21 (k + 1) (Gk.flatMap gcs ++ [Value.slice A3 x.2.1.length c3]), stH p ⟨q, .slice A1 T.length c1, .slice A2 C.length c2, T, C, dead⟩, ccA ⟨q, .slice A1 T.length c1, .slice A2 C.length c2, T, C, dead⟩, ro μ]) sp0).trans (rows_snoc.trans ?_)
      exact Ent.swap
    · show List.map (·.2) (Gk ++ [((_ : Value), x.2.1)]) = ((C.take (k + 1)).map (·.2)).map (·.1)
      rw [List.map_append, List.take_add_one, hx, List.map_append, List.map_append, ← hnk]; rfl
  · skip   -- 8 F
    have h8' := of_decide_eq_false h8
    obtain rfl : k = C.length := by omega
    rw [List.take_length] at hnk
    refine swp_exit ?_
    refine then_x ?_
    refine then_x ?_
    refine block_hit rfl ?_
    refine then_n ?_
    refine swp_sr ?_
    refine s_mv rfl ?_
    refine s_as rfl ?_
    refine swl_sub _ (sc0 2 rfl .nil) ?_
    refine swl_nn ?_
    refine swp_ret ?_
    have hGl : C.length = Gk.length := by
      have := congrArg List.length hnk
      simp only [nums, List.length_map] at this
      exact this.symm
    exact done_ret [own 23 1 v3 C.length (Gk.flatMap gcs), rowsA Gk, stH p ⟨q, .slice A1 T.length c1, .slice A2 C.length c2, T, C, dead⟩, ccA ⟨q, .slice A1 T.length c1, .slice A2 C.length c2, T, C, dead⟩, ro μ] (.tmp rfl .nil) ⟨Gk, hnk, by rw [hGl]; rfl⟩ sp0
end SX
namespace SX
open Go Go.Proofs
abbrev qM : Int := 16777216
/-- a disk with a log whose name is not yet safe -/
def dN (q : Int) (B : List UInt8) : Dk := ⟨q, [⟨B, B.length⟩], [(logN, 0)], [], [⟨nos, logN, 0⟩], 0, false⟩
theorem dN_create (q : Int) : createD (newD q) logN = (dN q [], 0) := by kernel_rfl
theorem dN_used (q : Int) (B : List UInt8) : (dN q B).used = B.length := by
  show ([(logN, 0)].map fun x : Nm => ((dN q B).fl x.2).bytes.length).sum = _
  simp only [List.map_cons, List.map_nil, List.sum_cons, List.sum_nil]; rfl
theorem dN_write {q : Int} {B : List UInt8} {f : Fm} (h : (B.length : Int) + ((f.2.length + 9 : Nat) : Int) ≤ q) : writeD (dN q B) f = (dN q (B ++ encFm f), 0) := by
  have e : findN (dN q B).seen logN = some 0 := one_find logN
  have ha : appendD (dN q B) logN (encFm f) = (⟨q, [⟨B ++ encFm f, B.length⟩], [(logN, 0)], [], [⟨nos, logN, 0⟩], 0, false⟩, 0) := by
    unfold appendD onFile
    rw [if_neg (show ¬ (dN q B).off = true by show ¬ false = true; decide), e]
    dsimp only
    rw [dN_used, encFm_len, show (dN q B).quota = q from rfl, if_neg om0, atStepN (show (dN q B).falls ≠ 1 by show (0 : Int) ≠ 1; decide)]
    rfl
  unfold writeD
  rw [ha, if_neg (fun k => k rfl)]
  dsimp only
  unfold syncD onFile
  rw [if_neg (show ¬ (⟨q, [⟨B ++ encFm f, B.length⟩], [(logN, 0)], [], [⟨nos, logN, 0⟩], 0, false⟩ : Dk).off = true by show ¬ false = true; decide), show findN (⟨q, [⟨B ++ encFm f, B.length⟩], [(logN, 0)], [], [⟨nos, logN, 0⟩], 0, false⟩ : Dk).seen logN = some 0 from one_find logN]
  dsimp only
  rw [atStepN (show (0 : Int) ≠ 1 by decide)]
  rfl
/-- a call that adds, where there is room -/
def addM (S : St2) (B : List UInt8) (e0 : Int) (f : Fm) (s' : St2) : List UInt8 × St2 × Int := if e0 ≠ 0 then (B, S, e0) else (B ++ encFm f, s', 0)
def comE (S : St2) (c : Cm) : Int := if checkC c ≠ 0 then checkC c else if knownS S.1.length S.2.length c = false then 9 else 0
def adM (S : St2) (B : List UInt8) (t : List En) : List UInt8 × St2 × Int := addM S B (encErr t) (1, encT t) (S.1 ++ [t], S.2)
def acM (S : St2) (B : List UInt8) (c : Cm) : List UInt8 × St2 × Int := addM S B (comE S c) (2, encC' c) (S.1, S.2 ++ [c])
theorem addR_M {D : List UInt8 → Dk} {B : List UInt8} {S s' : St2} {e0 : Int} {n : Nat} {f : Fm} (hn : n < 65536) (hD : e0 = 0 → writeD (D B) f = (D (B ++ encFm f), 0)) :
    ∃ k, addR ⟨D B, S, false⟩ e0 n f s' = (⟨D (addM S B e0 f s').1, (addM S B e0 f s').2.1, false⟩, k, (addM S B e0 f s').2.2) := by
  unfold addM
  by_cases h : e0 = 0
  · have hw := hD h
    rw [if_neg (not_not_intro h), addR_ok (x := ⟨D B, S, false⟩) rfl h hn (by rw [hw]), hw]
    exact ⟨_, rfl⟩
  · rw [if_pos h, addR_err (x := ⟨D B, S, false⟩) rfl h]
    exact ⟨_, rfl⟩
/-- a store of few things -/
structure MS (S : St2) (B : List UInt8) (k : Nat) : Prop where
  a : S.1.length ≤ k
  b : S.2.length ≤ k
  c : B.length ≤ k * 1048576
  d : SmallS S
theorem MS.mono {S : St2} {B : List UInt8} {k j : Nat} (h : MS S B k) (hj : k ≤ j) : MS S B j := ⟨Nat.le_trans h.a hj, Nat.le_trans h.b hj, Nat.le_trans h.c (Nat.mul_le_mul_right _ hj), h.d⟩
theorem MS.nil : MS ([], []) [] 0 := ⟨Nat.le_refl _, Nat.le_refl _, Nat.zero_le _, fun t h => (by cases h), fun t h => (by cases h)⟩
theorem MS.tree {S : St2} {B : List UInt8} {k : Nat} (h : MS S B k) (t : List En) : MS (adM S B t).2.1 (adM S B t).1 (k + 1) := by
  unfold adM addM
  by_cases h0 : encErr t = 0
  · rw [if_neg (not_not_intro h0)]
    have hl := encT_len h0
    have := h.a; have := h.c
    refine ⟨?_, Nat.le_succ_of_le h.b, ?_, h.d.addT (by have := (encErr_ok h0).1; omega)⟩
    · show (S.1 ++ [t]).length ≤ k + 1; rw [List.length_append, List.length_singleton]; omega
    · show (B ++ encFm (1, encT t)).length ≤ (k + 1) * 1048576
      rw [List.length_append, encFm_len]
      show B.length + ((encT t).length + 9) ≤ _
      omega
  · rw [if_pos h0]
    exact h.mono om0
theorem comE_ok {S : St2} {c : Cm} (h : comE S c = 0) : checkC c = 0 := by
  unfold comE at h
  by_cases h1 : checkC c = 0
  · exact h1
  · rw [if_pos h1] at h; exact h
theorem MS.com {S : St2} {B : List UInt8} {k : Nat} (h : MS S B k) (c : Cm) : MS (acM S B c).2.1 (acM S B c).1 (k + 1) := by
  unfold acM addM
  by_cases h0 : comE S c = 0
  · rw [if_neg (not_not_intro h0)]
    have hl := encC_len (comE_ok h0)
    have := h.b; have := h.c
    refine ⟨Nat.le_succ_of_le h.a, ?_, ?_, h.d.addC (by have := (checkC_ok (comE_ok h0)).1; omega)⟩
    · show (S.2 ++ [c]).length ≤ k + 1; rw [List.length_append, List.length_singleton]; omega
    · show (B ++ encFm (2, encC' c)).length ≤ (k + 1) * 1048576
      rw [List.length_append, encFm_len]
      show B.length + ((encC' c).length + 9) ≤ _
      omega
  · rw [if_pos h0]
    exact h.mono om0
theorem MS.fitT {S : St2} {B : List UInt8} {k : Nat} (h : MS S B k) (hk : k ≤ 8) {t : List En} (h0 : encErr t = 0) : (B.length : Int) + (((encT t).length + 9 : Nat) : Int) ≤ qM := by
  have := h.c; have := encT_len h0
  have : k * 1048576 ≤ 8 * 1048576 := Nat.mul_le_mul_right _ hk
  show _ ≤ (16777216 : Int)
  omega
theorem MS.fitC {S : St2} {B : List UInt8} {k : Nat} (h : MS S B k) (hk : k ≤ 8) {c : Cm} (h0 : comE S c = 0) : (B.length : Int) + (((encC' c).length + 9 : Nat) : Int) ≤ qM := by
  have := h.c; have := encC_len (comE_ok h0)
  have : k * 1048576 ≤ 8 * 1048576 := Nat.mul_le_mul_right _ hk
  show _ ≤ (16777216 : Int)
  omega
theorem addT_M {D : List UInt8 → Dk} (hD : ∀ {B : List UInt8} {f : Fm}, (B.length : Int) + ((f.2.length + 9 : Nat) : Int) ≤ qM → writeD (D B) f = (D (B ++ encFm f), 0)) {S : St2} {B : List UInt8} {k : Nat} (h : MS S B k) (hk : k ≤ 8) (t : List En) :
    ∃ j, addT ⟨D B, S, false⟩ t = (⟨D (adM S B t).1, (adM S B t).2.1, false⟩, j, (adM S B t).2.2) := addR_M (by have := h.a; show S.1.length < 65536; omega) fun h0 => hD (f := (1, encT t)) (h.fitT hk h0)
theorem addC_M {D : List UInt8 → Dk} (hD : ∀ {B : List UInt8} {f : Fm}, (B.length : Int) + ((f.2.length + 9 : Nat) : Int) ≤ qM → writeD (D B) f = (D (B ++ encFm f), 0)) {S : St2} {B : List UInt8} {k : Nat} (h : MS S B k) (hk : k ≤ 8) (c : Cm) :
    ∃ j, addC ⟨D B, S, false⟩ c = (⟨D (acM S B c).1, (acM S B c).2.1, false⟩, j, (acM S B c).2.2) := addR_M (by have := h.b; show S.2.length < 65536; omega) fun h0 => hD (f := (2, encC' c)) (h.fitC hk h0)
/-- a store as it lies: of these trees and commits -/
def At (μ : PH) (pd : Nat) (S : St2) (W : SW) : Prop := W.Ok μ ∧ W.q = pd ∧ W.pl = S ∧ W.dead = false
theorem At.le {μ μ' : PH} {pd : Nat} {S : St2} {W : SW} (h : At μ pd S W) (k : Le μ μ') : At μ' pd S W := ⟨h.1.le k, h.2⟩
/-- .. when its new row is there -/
def AtX (W : SW) (pd : Nat) (S : St2) (W' : SW) (m : Nat) (nv : Value) (n : Nat) (xs : List Value) : Prop := (∀ ν : PH, W.Ok ν → Row ν nv m n xs → W'.Ok ν) ∧ W'.q = pd ∧ W'.pl = S ∧ W'.dead = false
theorem AtX.at_ {μ μ' : PH} {pd pd' : Nat} {S S' : St2} {W W' : SW} {m n : Nat} {nv : Value} {xs : List Value} (h : AtX W pd S W' m nv n xs) (hW : At μ pd' S' W) (l : Le μ μ') (hr : Row μ' nv m n xs) : At μ' pd S W' := ⟨h.1 μ' (hW.1.le l) hr, h.2⟩
theorem ms_addT (μ : PH) (p : Nat) (W : SW) (pd : Nat) (S : St2) (B : List UInt8) (k : Nat) (hW : At μ pd S W) (hm : MS S B k) (hk : k ≤ 8) (hok : (lg qM B).Ok) (v : Value) (t : List En) (hv : Row μ v 2 t.length (ens t)) (hu : U32s t) :
    Spec Tryz.prog 12 [pv p, v] [FSA pd (lg qM B), stH p W, ttA W, ccA W, ro μ] (fun r L => ∃ W' n xs nv j, AtX W pd (adM S B t).2.1 W' 2 nv n xs ∧ (lg qM (adM S B t).1).Ok ∧ r = .tuple #[.int .i64 j, .int .i64 (adM S B t).2.2] ∧ L = [own 47 2 nv n xs, FSA pd (lg qM (adM S B t).1), stH p W', ttA W', ccA W', ro μ]) := by
  obtain ⟨hWo, rfl, rfl, hd⟩ := hW
  refine Spec.mono (addtreeX_spec μ p W hWo _ hok v t hv hu) ?_
  rintro r L ⟨W', n, xs, nv, ⟨h1, h2, h3, h4, rfl⟩, rfl⟩
  have ho := addT_ok (x := ⟨lg qM B, W.pl, false⟩) hok t
  rw [hd] at h3 h4 ⊢
  obtain ⟨j, hj⟩ := addT_M (D := lg qM) lg_write hm hk t
  rw [hj] at h3 h4 ho ⊢
  exact ⟨W', n, xs, nv, j, ⟨h1, h2, h3, h4⟩, ho, rfl, by rw [h2]⟩
theorem ms_addC (μ : PH) (p : Nat) (W : SW) (pd : Nat) (S : St2) (B : List UInt8) (k : Nat) (hW : At μ pd S W) (hm : MS S B k) (hk : k ≤ 8) (hok : (lg qM B).Ok) (v : Value) (c : Cm) (hv : Row μ v 1 c.1.length (c.1.flatMap (icsk .i64))) :
    Spec Tryz.prog 13 [pv p, cmV v c.2] [FSA pd (lg qM B), stH p W, ttA W, ccA W, ro μ] (fun r L => ∃ W' n xs nv j, AtX W pd (acM S B c).2.1 W' 1 nv n xs ∧ (lg qM (acM S B c).1).Ok ∧ r = .tuple #[.int .i64 j, .int .i64 (acM S B c).2.2] ∧ L = [own 3 1 nv n xs, FSA pd (lg qM (acM S B c).1), stH p W', ttA W', ccA W', ro μ]) := by
  obtain ⟨hWo, rfl, rfl, hd⟩ := hW
  refine Spec.mono (addcommitX_spec μ p W hWo _ hok v c hv) ?_
  rintro r L ⟨W', n, xs, nv, ⟨h1, h2, h3, h4, rfl⟩, rfl⟩
  have ho := addC_ok (x := ⟨lg qM B, W.pl, false⟩) hok c
  rw [hd] at h3 h4 ⊢
  obtain ⟨j, hj⟩ := addC_M (D := lg qM) lg_write hm hk c
  rw [hj] at h3 h4 ho ⊢
  exact ⟨W', n, xs, nv, j, ⟨h1, h2, h3, h4⟩, ho, rfl, by rw [h2]⟩
theorem dN_in (q : Int) (B : List UInt8) : Within 2 (dN q B) := ⟨by show 1 ≤ 2; decide, by show 1 ≤ 2; decide⟩
theorem mw_addT (μ : PH) (p : Nat) (W : SW) (pd : Nat) (S : St2) (B : List UInt8) (k : Nat) (hW : At μ pd S W) (hm : MS S B k) (hk : k ≤ 8) (hok : (dN qM B).Ok) (v : Value) (t : List En) (hv : Row μ v 2 t.length (ens t)) (hu : U32s t) :
    Spec Tryz.prog 14 [pv p, v] [RDA pd (dN qM B), rsH p W, ttA W, ccA W, ro μ] (fun r L => ∃ W' μ' j, Le μ μ' ∧ At μ' pd (adM S B t).2.1 W' ∧ (dN qM (adM S B t).1).Ok ∧ r = .tuple #[.int .i64 j, .int .i64 (adM S B t).2.2] ∧ L = [RDA pd (dN qM (adM S B t).1), rsH p W', ttA W', ccA W', ro μ']) := by
  obtain ⟨hWo, rfl, rfl, hd⟩ := hW
  refine Spec.mono (raddtree_spec μ p W hWo _ hok 2 (dN_in _ _) om0 v t hv hu) ?_
  rintro r L ⟨W', μ', ⟨l1, h2, h3, h4, h5, rfl⟩, rfl⟩
  have ho := addT_ok (x := ⟨dN qM B, W.pl, false⟩) hok t
  rw [hd] at h4 h5 ⊢
  obtain ⟨j, hj⟩ := addT_M (D := dN qM) dN_write hm hk t
  rw [hj] at h4 h5 ho ⊢
  exact ⟨W', μ', j, l1, ⟨h2, h3, h4, h5⟩, ho, rfl, by rw [h3]⟩
theorem mw_addC (μ : PH) (p : Nat) (W : SW) (pd : Nat) (S : St2) (B : List UInt8) (k : Nat) (hW : At μ pd S W) (hm : MS S B k) (hk : k ≤ 8) (hok : (dN qM B).Ok) (v : Value) (c : Cm) (hv : Row μ v 1 c.1.length (c.1.flatMap (icsk .i64))) :
    Spec Tryz.prog 15 [pv p, cmV v c.2] [RDA pd (dN qM B), rsH p W, ttA W, ccA W, ro μ] (fun r L => ∃ W' μ' j, Le μ μ' ∧ At μ' pd (acM S B c).2.1 W' ∧ (dN qM (acM S B c).1).Ok ∧ r = .tuple #[.int .i64 j, .int .i64 (acM S B c).2.2] ∧ L = [RDA pd (dN qM (acM S B c).1), rsH p W', ttA W', ccA W', ro μ']) := by
  obtain ⟨hWo, rfl, rfl, hd⟩ := hW
  refine Spec.mono (raddcommit_spec μ p W hWo _ hok 2 (dN_in _ _) om0 v c hv) ?_
  rintro r L ⟨W', μ', ⟨l1, h2, h3, h4, h5, rfl⟩, rfl⟩
  have ho := addC_ok (x := ⟨dN qM B, W.pl, false⟩) hok c
  rw [hd] at h4 h5 ⊢
  obtain ⟨j, hj⟩ := addC_M (D := dN qM) dN_write hm hk c
  rw [hj] at h4 h5 ho ⊢
  exact ⟨W', μ', j, l1, ⟨h2, h3, h4, h5⟩, ho, rfl, by rw [h3]⟩
theorem ml_same (μ : PH) (p w pd pr : Nat) (Wa Wb : SW) (S : St2) (hA : At μ pd S Wa) (hB : At μ pr S Wb) (hs : SmallS S) : Spec Tryz.prog 18 [pv p, pv w] [stH p Wa, ttA Wa, ccA Wa, rsH w Wb, ttA Wb, ccA Wb, ro μ]
    (fun r L => ∃ μ', Le μ μ' ∧ r = .bool true ∧ L = [stH p Wa, ttA Wa, ccA Wa, rsH w Wb, ttA Wb, ccA Wb, ro μ']) := by
  refine Spec.mono (lsame_spec μ p w Wa Wb hA.1 hB.1 (SmallS.w (by rw [hA.2.2.1]; exact hs)) (SmallS.w (by rw [hB.2.2.1]; exact hs))) ?_
  rintro r L ⟨μ', l1, rfl, rfl⟩
  refine ⟨μ', l1, ?_, rfl⟩
  unfold sameW
  rw [decide_eq_true ⟨hA.2.2.1.trans hB.2.2.1.symm, hA.2.2.2.trans hB.2.2.2.symm⟩]
end SX
namespace SX
open Go Go.Proofs
theorem shape_slice {v : Value} {l : Nat} (h : Shape v l) : ∃ A c, v = .slice A l c := by
  rcases h with ⟨h1, h2⟩ | ⟨b, cap, h, _⟩
  · exact ⟨none, 0, by rw [h1, h2]⟩
  · exact ⟨_, _, h⟩
theorem shape_some {A : Option Addr} {l c : Nat} (h : Shape (.slice A l c) l) (hl : 0 < l) : ∃ b, A = some ⟨b, 0, none⟩ := by
  rcases h with ⟨_, h2⟩ | ⟨b, cap, h, _⟩
  · omega
  · cases h; exact ⟨b, rfl⟩
theorem u32_lit (i : Nat) (hi : i < 100) : U32s [(⟨#[112]⟩, ((i + 1 : Nat) : Int))] := fun e he => by
  obtain rfl : e = (⟨#[112]⟩, ((i + 1 : Nat) : Int)) := by simpa using he
  exact ⟨by show (0 : Int) ≤ ((i + 1 : Nat) : Int); omega, by show ((i + 1 : Nat) : Int) ≤ 4294967295; omega⟩
theorem treeAt_small {ts : List (List En)} {m : Nat} (h : ∀ t ∈ ts, t.length ≤ m) (n : Int) : (treeAt ts n).1.length ≤ m := by
  unfold treeAt
  split
  · split
    · rename_i t ht; exact h t (List.mem_of_getElem? ht)
    · exact Nat.zero_le _
  · exact Nat.zero_le _
theorem comAt_small {cs : List Cm} {m : Nat} (h : ∀ t ∈ cs, t.1.length ≤ m) (n : Int) : (comAt cs n).1.1.length ≤ m := by
  unfold comAt
  split
  · split
    · rename_i t ht; exact h t (List.mem_of_getElem? ht)
    · exact Nat.zero_le _
  · exact Nat.zero_le _
set_option maxHeartbeats 16000000 in
theorem storememory_spec (μ : PH) (v0 cv : Value) (t : List En) (c : Cm) (hrow0 : Row μ v0 2 t.length (ens t)) (hu : U32s t) (hrc0 : Row μ cv 1 c.1.length (c.1.flatMap (icsk .i64))) (htl : t.length ≤ 5864062014634) (hcl : c.1.length ≤ 17592186043904) :
    Spec Tryz.prog 3 [v0, cmV cv c.2] [ro μ] (fun r L => r = .bool true ∧ ∃ μ' R, Le μ μ' ∧ L = ro μ' :: R) := by
  obtain ⟨cA, cc, rfl⟩ := hrc0.sl
  have hn0 : (newD qM).Ok := newD_ok (by decide)
  have ho0 : (lg qM []).Ok := by have := open_ok hn0; rw [lg_open] at this; exact this
  have hd0 : (dN qM []).Ok := by have := createD_ok hn0 logN; rw [dN_create] at this; exact this
  refine Spec.of 257 Tryz.func3 rfl rfl rfl ?_
  refine swp_sr ?_
  refine s_ef (ef_box rfl rfl) ?_
  intro b3
  refine s_as rfl ?_
  refine swl_sub _ (sc0 0 rfl (sc0 3 rfl .nil)) ?_
  refine swl_nn ?_
  refine swp_seq ?_
  refine swp_sr ?_
  refine s_ef (ef_fn opens_spec rfl rfl sp0) ?_
  rintro v18 L1 ⟨rfl, rfl⟩
  refine swl_app ?_
  refine s_pu (pu_not rfl) ?_
  refine swl_sub _ (sc0 0 rfl (sc0 3 rfl (sc0 38 rfl .nil))) ?_
  refine swl_nn ?_
  refine swp_cond (b := _) rfl (fun h38 => by cases h38) (fun h38 => ?_)
  refine swp_skip ?_
  refine then_n ?_
  refine swp_sr ?_
  refine s_ef (ef_fn (new_spec 16777216) rfl rfl sp0) ?_
  rintro v40 L1 hnw
  obtain ⟨pd, rfl, rfl⟩ : ∃ q, v40 = .tuple #[pv q, .int .i64 0] ∧ L1 = [FSA q (newD qM)] := by
    rcases hnw with ⟨h, _⟩ | ⟨_, q, h1, h2⟩
    · exact absurd (show newOk 16777216 from ⟨by decide, by decide⟩) h
    · exact ⟨q, h1, h2⟩
  clear hnw
  refine swl_app ?_
  refine s_mv rfl ?_
  first | refine s_pu (pu_extractL rfl) ?_ | refine s_pu (pu_extract rfl rfl) ?_
  first | refine s_pu (pu_extractL rfl) ?_ | refine s_pu (pu_extract rfl rfl) ?_
  refine s_as rfl ?_
  refine s_as rfl ?_
  refine swl_sub _ (sc0 0 rfl (sc0 3 rfl (sc0 5 rfl .nil))) ?_
  refine swl_nn ?_
  refine swp_sr ?_
  refine s_mv rfl ?_
  refine s_ef (ef_fn (open_spec μ pd (newD qM) hn0 ⟨by decide, by decide⟩) rfl rfl sp0) ?_
  rintro v45 L1 ⟨p, W0, μ0, e, hq, rfl, rfl⟩
  obtain ⟨l0, hW0, hq0, hdd0, he, hpl⟩ := hq
  rw [lg_open] at he
  rw [lg_open]
  dsimp only at he ⊢
  subst he
  have hA0 : At μ0 pd ([], []) W0 := ⟨hW0, hq0, by rw [hpl rfl, lg_openS], hdd0⟩
  clear hpl hW0 hq0 hdd0
  refine swl_app ?_
  refine s_mv rfl ?_
  first | refine s_pu (pu_extractL rfl) ?_ | refine s_pu (pu_extract rfl rfl) ?_
  first | refine s_pu (pu_extractL rfl) ?_ | refine s_pu (pu_extract rfl rfl) ?_
  refine s_as rfl ?_
  refine s_as rfl ?_
  refine swl_sub _ (sc0 0 rfl (sc0 3 rfl (sc0 7 rfl .nil))) ?_
  refine swl_nn ?_
  refine swp_sr ?_
  refine s_pu (pu_bld (qs := []) rfl) ?_
  refine s_ef (ef_box rfl rfl) ?_
  intro b49
  refine s_as rfl ?_
  refine swl_sub _ (sc0 0 rfl (sc0 3 rfl (sc0 7 rfl (sc0 9 rfl .nil)))) ?_
  refine swl_nn ?_
  refine swp_sr ?_
  refine s_ef (ef_fn (rnewd_spec 16777216) rfl rfl sp0) ?_
  rintro v51 L1 hnw
  obtain ⟨pr, rfl, rfl⟩ : ∃ q, v51 = .tuple #[pv q, .int .i64 0] ∧ L1 = [RDA q (newD qM)] := by
    rcases hnw with ⟨h, _⟩ | ⟨_, q, h1, h2⟩
    · exact absurd (show newOk 16777216 from ⟨by decide, by decide⟩) h
    · exact ⟨q, h1, h2⟩
  clear hnw
  refine swl_app ?_
  refine s_mv rfl ?_
  first | refine s_pu (pu_extractL rfl) ?_ | refine s_pu (pu_extract rfl rfl) ?_
  first | refine s_pu (pu_extractL rfl) ?_ | refine s_pu (pu_extract rfl rfl) ?_
  refine s_as rfl ?_
  refine s_as rfl ?_
  refine swl_sub _ (sc0 0 rfl (sc0 3 rfl (sc0 7 rfl (sc0 9 rfl (sc0 10 rfl .nil))))) ?_
  refine swl_nn ?_
  refine swp_sr ?_
  refine s_mv rfl ?_
  refine s_mv rfl ?_
  first | refine s_pu (pu_nilCheck rfl) ?_ | refine s_pu (pu_nilCheck_fn rfl) ?_ | refine s_pu (pu_nilCheck_if rfl) ?_
  first | refine s_pu (pu_fieldAddr0 rfl) ?_ | refine s_pu (pu_fieldAddr rfl) ?_
  refine s_ef0 (ef_store rfl rfl rfl) ?_
  refine swl_sub _ (sc0 0 rfl (sc0 3 rfl (sc0 7 rfl (sc0 9 rfl (sc0 10 rfl .nil))))) ?_
  refine swl_nn ?_
  refine swp_sr ?_
  refine s_mv rfl ?_
  refine s_ef (ef_fn (rcreate_spec pr (newD qM) hn0 ⟨by decide, by decide⟩ logN) rfl rfl sp0) ?_
  rintro v59 L1 ⟨rfl, rfl⟩
  rw [dN_create]
  dsimp only
  refine swl_app ?_
  refine swl_sub _ (sc0 0 rfl (sc0 3 rfl (sc0 7 rfl (sc0 9 rfl .nil)))) ?_
  refine swl_nn ?_
  refine swp_seq ?_
  refine swp_sr ?_
  refine s_mv rfl ?_
  refine swl_sub _ (sc0 0 rfl (sc0 3 rfl (sc0 7 rfl (sc0 9 rfl (sc0 60 rfl .nil))))) ?_
  refine swl_nn ?_
  refine swp_block ?_
  obtain ⟨w, hw⟩ : ∃ x, x = b49 := ⟨_, rfl⟩
  rw [← hw]
  clear hw b49
  refine swp_ent (own_nil_ent (e := 22) (n := 1)) ?_
  refine swp_ent (own_nil_ent (e := 25) (n := 2)) ?_
  refine swp_loop (ι := Nat) (fun i env L => ∃ (S : St2) (B : List UInt8) (W V : SW) (μ2 : PH), Sub env [(0, v0), (3, pv b3), (7, pv p), (9, pv w), (60, .int .i64 (i : Nat))] ∧ Ent L [blk b3 25 [.slice cA c.1.length cc, .int .i64 c.2], FSA pd (lg qM B), stH p W, ttA W, ccA W, RDA pr (dN qM B), rsH w V, ttA V, ccA V, ro μ2] ∧ i ≤ 3 ∧ Le μ μ2 ∧ MS S B (2 * i) ∧ At μ2 pd S W ∧ At μ2 pr S V ∧ (lg qM B).Ok ∧ (dN qM B).Ok) (fun i => 3 - i) 0 ⟨([], []), [], W0, newSW pr, μ0, ⟨rfl, rfl, rfl, rfl, rfl, trivial⟩, by show Ent _ [blk b3 25 [.slice cA c.1.length cc, .int .i64 c.2], FSA pd (lg qM []), stH p W0, ttA W0, ccA W0, RDA pr (dN qM []), blk w 39 [pv pr, .slice none 0 0, .slice none 0 0, .bool false], own 22 1 (.slice none 0 0) 0 [], own 25 2 (.slice none 0 0) 0 [], ro μ0]; exact Split.ent' sp0, Nat.zero_le _, l0, MS.nil, hA0, ⟨newSW_ok _ _, rfl, rfl, rfl⟩, ho0, hd0⟩ ?_
  clear hn0 ho0 hd0 hA0 l0
  rintro i env L ⟨S, B, W, V, μ2, hsub, hE, hi, hle, hm, hA, hB, hoks, hokw⟩
  refine swp_sub _ hsub ?_
  refine swp_ent hE ?_
  clear hsub hE env L
  refine swp_sr ?_
  refine s_pu (pu_lss rfl rfl) ?_
  refine swl_sub _ (sc0 0 rfl (sc0 3 rfl (sc0 7 rfl (sc0 9 rfl (sc0 60 rfl (sc0 61 rfl .nil)))))) ?_
  refine swl_nn ?_
  refine swp_seq ?_
  refine swp_cond (b := _) rfl (fun h61 => ?_) (fun h61 => ?_)
  · skip   -- 61 T
    have h61' : i < 3 := by have := of_decide_eq_true h61; omega
    refine swp_skip ?_
    refine then_n ?_
    refine swp_seq ?_
    refine swp_block ?_
    refine swp_sr ?_
    refine s_mv rfl ?_
    refine s_as rfl ?_
    refine swl_sub _ (sc0 0 rfl (sc0 3 rfl (sc0 7 rfl (sc0 9 rfl (sc0 12 rfl (sc0 60 rfl .nil)))))) ?_
    refine swl_nn ?_
    refine swp_sr ?_
    refine s_mv rfl ?_
    refine s_mv rfl ?_
    refine s_pu (pu_add_as ((i + 1 : Nat) : Int) rfl rfl om0 om0 om0) ?_
    refine s_pu (pu_conv_as rfl (IntWalk.u32_in _ ⟨by omega, by omega⟩)) ?_
    refine s_pu (pu_bld (qs := [(0, _), (1, _)]) rfl) ?_
    refine s_ef (ef_bldS (qs := [(0, _)]) rfl rfl rfl) ?_
    intro b68
    refine swl_share (b := b68) (μ := μ2) sp0 fun μ3 l3 k3 => ?_
    have r3 := row_of_blk (n := 2) (l := 1) (cs := ens [(⟨#[112]⟩, ((i + 1 : Nat) : Int))]) k3 (by rfl) (by decide)
    refine s_ef (ef_fn (ms_addT μ3 p W pd S B (2 * i) (hA.le l3) hm om0 hoks (.slice (some ⟨b68, 0, none⟩) 1 1) [(⟨#[112]⟩, ((i + 1 : Nat) : Int))] r3 (u32_lit i om0)) rfl rfl sp0) ?_
    rintro v69 L1 ⟨W1, n1, xs1, nv1, j1, hx1, hoks1, rfl, rfl⟩
    refine swl_app ?_
    refine swl_share_own (μ := μ3) (v := nv1) (e := 47) (n := 2) sp0 fun μ4 l4 r4 => ?_
    have hA1 := hx1.at_ hA (l3.trans l4) r4
    have hm1 := hm.tree [(⟨#[112]⟩, ((i + 1 : Nat) : Int))]
    refine swl_sub _ (sc0 0 rfl (sc0 3 rfl (sc0 7 rfl (sc0 9 rfl (sc0 12 rfl (sc0 60 rfl .nil)))))) ?_
    refine swl_nn ?_
    refine swp_sr ?_
    refine s_mv rfl ?_
    refine s_mv rfl ?_
    refine s_pu (pu_bld (qs := [(1, _)]) rfl) ?_
    refine s_ef (ef_fn (ms_addC μ4 p W1 pd _ _ (2 * i + 1) hA1 hm1 om0 hoks1 (.slice none 0 0) ([], ((i : Nat) : Int)) (Row.nil _ _)) rfl rfl sp0) ?_
    rintro v73 L1 ⟨W2, n2, xs2, nv2, j2, hx2, hoks2, rfl, rfl⟩
    refine swl_app ?_
    refine swl_share_own (μ := μ4) (v := nv2) (e := 3) (n := 1) sp0 fun μ5 l5 r5 => ?_
    have hA2 := hx2.at_ hA1 l5 r5
    have hm2 := hm1.com ([], ((i : Nat) : Int))
    refine swl_sub _ (sc0 0 rfl (sc0 3 rfl (sc0 7 rfl (sc0 9 rfl (sc0 12 rfl (sc0 60 rfl .nil)))))) ?_
    refine swl_nn ?_
    refine swp_sr ?_
    refine s_mv rfl ?_
    refine s_mv rfl ?_
    refine s_pu (pu_add_as ((i + 1 : Nat) : Int) rfl rfl om0 om0 om0) ?_
    refine s_pu (pu_conv_as rfl (IntWalk.u32_in _ ⟨by omega, by omega⟩)) ?_
    refine s_pu (pu_bld (qs := [(0, _), (1, _)]) rfl) ?_
    refine s_ef (ef_bldS (qs := [(0, _)]) rfl rfl rfl) ?_
    intro b79
    refine swl_share (b := b79) (μ := μ5) sp0 fun μ6 l6 k6 => ?_
    have r6 := row_of_blk (n := 2) (l := 1) (cs := ens [(⟨#[112]⟩, ((i + 1 : Nat) : Int))]) k6 (by rfl) (by decide)
    refine s_ef (ef_fn (mw_addT μ6 w V pr S B (2 * i) (hB.le (l3.trans (l4.trans (l5.trans l6)))) hm om0 hokw (.slice (some ⟨b79, 0, none⟩) 1 1) [(⟨#[112]⟩, ((i + 1 : Nat) : Int))] r6 (u32_lit i om0)) rfl rfl sp0) ?_
    rintro v80 L1 ⟨V1, μ7, j3, l7, hB1, hokw1, rfl, rfl⟩
    refine swl_app ?_
    refine swl_sub _ (sc0 0 rfl (sc0 3 rfl (sc0 7 rfl (sc0 9 rfl (sc0 12 rfl (sc0 60 rfl .nil)))))) ?_
    refine swl_nn ?_
    refine swp_region ?_
    refine s_mv rfl ?_
    refine s_mv rfl ?_
    refine s_pu (pu_bld (qs := [(1, _)]) rfl) ?_
    refine s_ef (ef_fn (mw_addC μ7 w V1 pr _ _ (2 * i + 1) hB1 hm1 om0 hokw1 (.slice none 0 0) ([], ((i : Nat) : Int)) (Row.nil _ _)) rfl rfl sp0) ?_
    rintro v84 L1 ⟨V2, μ8, j4, l8, hB2, hokw2, rfl, rfl⟩
    refine swl_app ?_
    refine swl_sub _ (sc0 0 rfl (sc0 3 rfl (sc0 7 rfl (sc0 9 rfl (sc0 60 rfl .nil))))) ?_
    refine swl_nil ?_
    refine block_n ?_
    refine then_n ?_
    refine swp_region ?_
    refine s_pu (pu_add_as ((i + 1 : Nat) : Int) rfl rfl om0 om0 om0) ?_
    refine s_mv rfl ?_
    refine swl_sub _ (sc0 0 rfl (sc0 3 rfl (sc0 7 rfl (sc0 9 rfl (sc0 60 rfl .nil))))) ?_
    refine swl_nil ?_
    exact then_n ⟨i + 1, ⟨_, _, W2, V2, μ8, ⟨rfl, rfl, rfl, rfl, rfl, trivial⟩, Split.ent' sp0, h61', hle.trans (l3.trans (l4.trans (l5.trans (l6.trans (l7.trans l8))))), hm2.mono om0, hA2.le (l6.trans (l7.trans l8)), hB2, hoks2, hokw2⟩, by omega⟩
  · skip   -- 61 F
    have h61' : i = 3 := by have := of_decide_eq_false h61; omega
    subst h61'
    have hrow1 := hrow0.le hle
    have hrc1 := hrc0.le hle
    refine swp_exit ?_
    refine then_x ?_
    refine then_x ?_
    refine block_hit rfl ?_
    refine then_n ?_
    refine swp_sr ?_
    refine s_mv rfl ?_
    refine s_pu (pu_len_row hrow1 rfl) ?_
    refine s_pu (pu_add_as ((t.length + 2 : Nat) : Int) rfl rfl om0 om0 om0) ?_
    refine s_ef (ef_make0 (e := 47) (n := 2) rfl rfl om0 om0 (by simp only [maxLen]; omega)) ?_
    rintro v89
    skip
    refine s_mv rfl ?_
    refine s_ef (ef_append_ro hrow1 rfl rfl sp0 (ens_one t) (by simp only [maxLen]; omega) om0) ?_
    rintro v91 -
    rw [Nat.zero_add, List.nil_append]
    refine s_as rfl ?_
    refine swl_sub _ (sc0 0 rfl (sc0 3 rfl (sc0 7 rfl (sc0 9 rfl (sc0 13 rfl .nil))))) ?_
    refine swl_nn ?_
    refine swp_seq ?_
    refine swp_draw [1, 6] ([blk b3 25 [.slice cA c.1.length cc, .int .i64 c.2]]) ([own 47 2 v91 t.length (ens t), FSA pd (lg qM B), stH p W, ttA W, ccA W, RDA pr (dN qM B), rsH w V, ttA V, ccA V, ro μ2]) (Split.ent sp0) kr0 ?_
    first | refine d_pu 0 rfl (pu_fieldAddr0 rfl) kr0 kr0 kr0 ?_ | refine d_pu 0 rfl (pu_fieldAddr rfl) kr0 kr0 kr0 ?_
    refine d_rd 1 rfl (rd_load rfl rfl) rfl kr0 kr0 kr0 ?_
    refine d_pu 2 rfl (pu_len rfl) kr0 kr0 kr0 ?_
    refine d_pu 3 rfl (pu_add_as ((c.1.length + 2 : Nat) : Int) rfl rfl om0 om0 om0) kr0 kr0 kr0 ?_
    first | refine d_pu 5 rfl (pu_fieldAddr0 rfl) kr0 kr0 kr0 ?_ | refine d_pu 5 rfl (pu_fieldAddr rfl) kr0 kr0 kr0 ?_
    refine d_rd 6 rfl (rd_load rfl rfl) rfl kr0 kr0 kr0 ?_
    refine d_eft 4 rfl kr0 (ef_make0 (e := 3) (n := 1) rfl rfl om0 om0 (by simp only [maxLen]; omega)) ?_
    rintro v96
    refine ⟨_, Split.ent sp0, ?_⟩
    first | refine d_fint 7 rfl kr0 kr0 (ef_append_ro hrc1 rfl rfl sp0 (icsk_one _) (by simp only [maxLen]; omega) om0) ?_ | refine d_finf 7 rfl kr0 kr0 (ef_append_ro hrc1 rfl rfl sp0 (icsk_one _) (by simp only [maxLen]; omega) om0) ?_
    rintro v99 -
    rw [Nat.zero_add, List.nil_append]
    refine d_pu 8 rfl (pu_assign rfl) kr0 kr0 kr0 ?_
    refine d_sub _ (sc0 0 rfl (sc0 3 rfl (sc0 7 rfl (sc0 9 rfl (sc0 13 rfl (sc0 14 rfl .nil)))))) ?_
    first | refine d_nilt kr0 ?_ | refine d_nilf kr0 ?_
    refine then_n ?_
    refine swp_seq ?_
    refine swp_fact (fun m h => own_shape (e := 47) (n := 2) (v := v91) (l := t.length) (xs := ens t) tk0 h) fun hs91 => ?_
    refine swp_fact (fun m h => own_shape (e := 3) (n := 1) (v := v99) (l := c.1.length) (xs := c.1.flatMap (icsk .i64)) tk0 h) fun hs99 => ?_
    obtain ⟨mA, mc, rfl⟩ := shape_slice hs91
    obtain ⟨lA, lc, rfl⟩ := shape_slice hs99
    refine swp_region ?_
    refine s_mv rfl ?_
    refine s_mv rfl ?_
    refine swl_lend_own (v := .slice mA t.length mc) (μ := μ2) sp0 fun μ3 l3 rm back => ?_
    refine s_ef (ef_fn (ms_addT μ3 p W pd S B 6 (hA.le l3) hm om0 hoks (.slice mA t.length mc) t rm hu) rfl rfl sp0) ?_
    rintro v103 L1 ⟨W1, n1, xs1, nv1, j1, hx1, hoks1, rfl, rfl⟩
    refine swl_app ?_
    obtain ⟨μ4, l4, hb⟩ := back μ3 (Le.refl _)
    refine swl_ent ((Split.ent' (K := [ro μ3, own 47 2 nv1 n1 xs1, FSA pd (lg qM (adM S B t).1), stH p W1, ttA W1, ccA W1, RDA pr (dN qM B), rsH w V, ttA V, ccA V, own 3 1 (.slice lA c.1.length lc) c.1.length (c.1.flatMap (icsk .i64)), blk b3 25 [.slice cA c.1.length cc, .int .i64 c.2]]) sp0).trans (hb _)) ?_
    refine swl_share_own (μ := μ4) (v := nv1) (e := 47) (n := 2) sp0 fun μ5 l5 r5 => ?_
    have hA1 := hx1.at_ hA (l4.trans l5) r5
    have hm1 := hm.tree t
    refine s_mv rfl ?_
    first | refine s_pu (pu_extractL rfl) ?_ | refine s_pu (pu_extract rfl rfl) ?_
    first | refine s_pu (pu_extractL rfl) ?_ | refine s_pu (pu_extract rfl rfl) ?_
    refine s_as rfl ?_
    refine s_as rfl ?_
    refine swl_sub _ (sc0 0 rfl (sc0 3 rfl (sc0 7 rfl (sc0 9 rfl (sc0 13 rfl (sc0 14 rfl (sc0 16 rfl .nil))))))) ?_
    refine swl_nn ?_
    refine swp_sr ?_
    refine s_mv rfl ?_
    refine s_mv rfl ?_
    refine s_ef (ef_fn (mw_addT μ5 w V pr S B 6 (hB.le (l4.trans l5)) hm om0 hokw v0 t (hrow1.le (l4.trans l5)) hu) rfl rfl sp0) ?_
    rintro v109 L1 ⟨V1, μ6, j2, l6, hB1, hokw1, rfl, rfl⟩
    refine swl_app ?_
    refine s_mv rfl ?_
    first | refine s_pu (pu_extractL rfl) ?_ | refine s_pu (pu_extract rfl rfl) ?_
    first | refine s_pu (pu_extractL rfl) ?_ | refine s_pu (pu_extract rfl rfl) ?_
    refine s_as rfl ?_
    refine s_as rfl ?_
    refine swl_sub _ (sc0 0 rfl (sc0 3 rfl (sc0 7 rfl (sc0 9 rfl (sc0 13 rfl (sc0 14 rfl (sc0 16 rfl (sc0 18 rfl .nil)))))))) ?_
    refine swl_nn ?_
    refine swp_sr ?_
    refine s_mv rfl ?_
    refine s_mv rfl ?_
    first | refine s_pu (pu_fieldAddr0 rfl) ?_ | refine s_pu (pu_fieldAddr rfl) ?_
    refine s_rd (rd_load rfl rfl) ?_
    refine s_pu (pu_bld (qs := [(0, _), (1, _)]) rfl) ?_
    refine swl_lend_own (v := .slice lA c.1.length lc) (μ := μ6) sp0 fun μ7 l7 rl back => ?_
    refine s_ef (ef_fn (ms_addC μ7 p W1 pd _ _ 7 (hA1.le (l6.trans l7)) hm1 om0 hoks1 (.slice lA c.1.length lc) c rl) rfl rfl sp0) ?_
    rintro v118 L1 ⟨W2, n2, xs2, nv2, j3, hx2, hoks2, rfl, rfl⟩
    refine swl_app ?_
    obtain ⟨μ8, l8, hb⟩ := back μ7 (Le.refl _)
    refine swl_ent ((Split.ent' (K := [ro μ7, own 3 1 nv2 n2 xs2, FSA pd (lg qM (acM (adM S B t).2.1 (adM S B t).1 c).1), stH p W2, ttA W2, ccA W2, RDA pr (dN qM (adM S B t).1), rsH w V1, ttA V1, ccA V1, own 47 2 (.slice mA t.length mc) t.length (ens t), blk b3 25 [.slice cA c.1.length cc, .int .i64 c.2]]) sp0).trans (hb _)) ?_
    refine swl_share_own (μ := μ8) (v := nv2) (e := 3) (n := 1) sp0 fun μ9 l9 r9 => ?_
    have hA2 := hx2.at_ (hA1.le l6) (l8.trans l9) r9
    have hm2 := hm1.com c
    refine s_mv rfl ?_
    first | refine s_pu (pu_extractL rfl) ?_ | refine s_pu (pu_extract rfl rfl) ?_
    first | refine s_pu (pu_extractL rfl) ?_ | refine s_pu (pu_extract rfl rfl) ?_
    refine s_as rfl ?_
    refine s_as rfl ?_
    refine swl_sub _ (sc0 0 rfl (sc0 3 rfl (sc0 7 rfl (sc0 9 rfl (sc0 13 rfl (sc0 14 rfl (sc0 16 rfl (sc0 18 rfl (sc0 20 rfl .nil))))))))) ?_
    refine swl_nn ?_
    refine swp_sr ?_
    refine s_mv rfl ?_
    first | refine s_rd (rd_loadW rfl rfl) ?_ | refine s_rd (rd_loadX rfl rfl rfl) ?_
    refine s_ef (ef_fn (mw_addC μ9 w V1 pr _ _ 7 (hB1.le (l8.trans l9)) hm1 om0 hokw1 (.slice cA c.1.length cc) c (hrc1.le (l4.trans (l5.trans (l6.trans (l8.trans l9)))))) rfl rfl sp0) ?_
    rintro v124 L1 ⟨V2, μ10, j4, l10, hB2, hokw2, rfl, rfl⟩
    refine swl_app ?_
    refine s_mv rfl ?_
    first | refine s_pu (pu_extractL rfl) ?_ | refine s_pu (pu_extract rfl rfl) ?_
    first | refine s_pu (pu_extractL rfl) ?_ | refine s_pu (pu_extract rfl rfl) ?_
    refine s_as rfl ?_
    refine s_as rfl ?_
    refine swl_sub _ (sc0 0 rfl (sc0 3 rfl (sc0 7 rfl (sc0 9 rfl (sc0 13 rfl (sc0 14 rfl (sc0 16 rfl (sc0 18 rfl (sc0 20 rfl (sc0 22 rfl .nil)))))))))) ?_
    refine swl_nn ?_
    refine swp_seq ?_
    refine swp_seq ?_
    have h210 : Le μ2 μ10 := l4.trans (l5.trans (l6.trans (l8.trans (l9.trans l10))))
    replace hA2 := hA2.le l10
    clear hx1 hx2 hb back
    generalize acM (adM S B t).2.1 (adM S B t).1 c = y2 at *
    generalize (adM S B t).2.2 = e1 at *
    refine swp_region ?_
    refine s_mv rfl ?_
    refine s_mv rfl ?_
    refine s_pu (pu_neq rfl rfl) ?_
    refine s_mv rfl ?_
    refine s_split 130 rfl (fun h130 => by simp at h130) (fun h130 => ?_)
    refine s_on rfl rfl ?_
    refine s_mv rfl ?_
    refine s_on rfl rfl ?_
    refine s_mv rfl ?_
    refine s_on rfl rfl ?_
    refine s_pu (pu_neq rfl rfl) ?_
    first | refine s_pu (pu_pick_t rfl rfl) ?_ | refine s_pu (pu_pick_f rfl rfl) ?_
    refine s_mv rfl ?_
    refine s_split 135 rfl (fun h135 => by simp at h135) (fun h135 => ?_)
    refine s_on rfl rfl ?_
    refine s_mv rfl ?_
    refine s_on rfl rfl ?_
    refine s_mv rfl ?_
    refine swl_lend_own (v := .slice mA t.length mc) (μ := μ10) sp0 fun μ11 l11 rm2 back => ?_
    refine s_on rfl rfl ?_
    refine s_ef (ef_fn (same_spec μ11 (.slice mA t.length mc) v0 t t rm2 (hrow1.le (h210.trans l11))) rfl rfl sp0) ?_
    rintro v138 L1 ⟨rfl, rfl⟩
    refine swl_app ?_
    obtain ⟨μ12, l12, hb⟩ := back μ11 (Le.refl _)
    refine swl_ent ((Split.ent' (K := [ro μ11, FSA pd (lg qM y2.1), stH p W2, ttA W2, ccA W2, RDA pr (dN qM y2.1), rsH w V2, ttA V2, ccA V2, own 3 1 (.slice lA c.1.length lc) c.1.length (c.1.flatMap (icsk .i64)), blk b3 25 [.slice cA c.1.length cc, .int .i64 c.2]]) sp0).trans (hb _)) ?_
    refine s_on rfl rfl ?_
    refine s_pu (pu_not rfl) ?_
    first | refine s_pu (pu_pick_t rfl rfl) ?_ | refine s_pu (pu_pick_f rfl rfl) ?_
    refine s_mv rfl ?_
    refine s_split 141 rfl (fun h141 => by simp at h141) (fun h141 => ?_)
    refine s_on rfl rfl ?_
    refine s_mv rfl ?_
    refine s_on rfl rfl ?_
    first | refine s_pu (pu_fieldAddr0 rfl) ?_ | refine s_pu (pu_fieldAddr rfl) ?_
    refine s_on rfl rfl ?_
    refine s_rd (rd_load rfl rfl) ?_
    refine s_on rfl rfl ?_
    refine s_pu (pu_bld (qs := [(0, _), (1, _)]) rfl) ?_
    refine s_on rfl rfl ?_
    first | refine s_rd (rd_loadW rfl rfl) ?_ | refine s_rd (rd_loadX rfl rfl rfl) ?_
    refine swl_lend_own (v := .slice lA c.1.length lc) (μ := μ12) sp0 fun μ13 l13 rl2 back2 => ?_
    refine s_on rfl rfl ?_
    refine s_ef (ef_fn (samec_spec μ13 (.slice lA c.1.length lc) (.slice cA c.1.length cc) c c rl2 (hrc1.le (h210.trans (l12.trans l13)))) rfl rfl sp0) ?_
    rintro v147 L1 ⟨rfl, rfl⟩
    refine swl_app ?_
    obtain ⟨μ14, l14, hb2⟩ := back2 μ13 (Le.refl _)
    refine swl_ent ((Split.ent' (K := [ro μ13, FSA pd (lg qM y2.1), stH p W2, ttA W2, ccA W2, RDA pr (dN qM y2.1), rsH w V2, ttA V2, ccA V2, own 47 2 (.slice mA t.length mc) t.length (ens t)]) sp0).trans (hb2 _)) ?_
    refine s_on rfl rfl ?_
    refine s_pu (pu_not rfl) ?_
    first | refine s_pu (pu_pick_t rfl rfl) ?_ | refine s_pu (pu_pick_f rfl rfl) ?_
    refine swl_sub _ (sc0 7 rfl (sc0 9 rfl (sc0 13 rfl (sc0 14 rfl (sc0 149 rfl .nil))))) ?_
    refine swl_nn ?_
    refine swp_cond (b := _) rfl (fun h149 => by simp at h149) (fun h149 => ?_)
    refine swp_skip ?_
    refine then_n ?_
    refine swp_seq ?_
    refine swp_seq ?_
    have h2 : Le μ μ14 := hle.trans (h210.trans (l12.trans l14))
    replace hA2 := hA2.le (l12.trans l14)
    replace hB2 := hB2.le (l12.trans l14)
    have hsm := hm2.d
    clear hb hb2 back back2 l13 l11 rm2 rl2
    refine swp_region ?_
    refine s_mv rfl ?_
    refine s_pu (pu_len rfl) ?_
    refine s_mv rfl ?_
    refine swl_sub _ (sc0 7 rfl (sc0 9 rfl (sc0 13 rfl (sc0 14 rfl (sc0 151 rfl (sc0 152 rfl .nil)))))) ?_
    refine swl_nn ?_
    refine swp_block ?_
    refine swp_loop (ι := Nat) (fun i env L => ∃ ys : List Value, ys.length = t.length * 2 ∧ Sub env [(7, pv p), (9, pv w), (13, .slice mA t.length mc), (14, .slice lA c.1.length lc), (151, .int .i64 (t.length : Nat)), (152, .int .i64 (i : Nat))] ∧ Ent L [own 47 2 (.slice mA t.length mc) t.length ys, own 3 1 (.slice lA c.1.length lc) c.1.length (c.1.flatMap (icsk .i64)), FSA pd (lg qM y2.1), stH p W2, ttA W2, ccA W2, RDA pr (dN qM y2.1), rsH w V2, ttA V2, ccA V2, ro μ14] ∧ i ≤ t.length) (fun i => t.length - i) 0 ⟨ens t, flat_length (f := enc1) (k := 2) (fun _ => rfl) _, ⟨rfl, rfl, rfl, rfl, rfl, rfl, trivial⟩, Split.ent' sp0, Nat.zero_le _⟩ ?_
    rintro i env L ⟨ys, hys, hsub, hE, hi2⟩
    refine swp_sub _ hsub ?_
    refine swp_ent hE ?_
    clear hsub hE env L
    refine swp_sr ?_
    refine s_pu (pu_lss rfl rfl) ?_
    refine swl_sub _ (sc0 7 rfl (sc0 9 rfl (sc0 13 rfl (sc0 14 rfl (sc0 151 rfl (sc0 152 rfl (sc0 153 rfl .nil))))))) ?_
    refine swl_nn ?_
    refine swp_seq ?_
    refine swp_cond (b := _) rfl (fun h153 => ?_) (fun h153 => ?_)
    · skip   -- 153 T
      have h153' : i < t.length := by have := of_decide_eq_true h153; omega
      obtain ⟨mb, rfl⟩ := shape_some hs91 om0
      refine swp_skip ?_
      refine then_n ?_
      refine swp_seq ?_
      refine swp_block ?_
      refine swp_sr ?_
      refine s_mv rfl ?_
      refine s_as rfl ?_
      refine swl_sub _ (sc0 7 rfl (sc0 9 rfl (sc0 13 rfl (sc0 14 rfl (sc0 23 rfl (sc0 151 rfl (sc0 152 rfl .nil))))))) ?_
      refine swl_nn ?_
      refine swp_region ?_
      refine s_mv rfl ?_
      refine s_mv rfl ?_
      refine s_pu (pu_bld (qs := [(0, _), (1, _)]) rfl) ?_
      refine s_pu (pu_indexAddr (0 + i * 2) rfl rfl om0 om0 (by rw [Int.toNat_natCast])) ?_
      refine s_ef0 (ef_store_ownA (vs := enc1 (⟨#[115, 112, 111, 105, 108, 116]⟩, 9)) rfl rfl sp0 (by show 0 + i * 2 + 2 ≤ _; omega) rfl rfl) ?_
      refine swl_sub _ (sc0 7 rfl (sc0 9 rfl (sc0 13 rfl (sc0 14 rfl (sc0 151 rfl (sc0 152 rfl .nil)))))) ?_
      refine swl_nil ?_
      refine block_n ?_
      refine then_n ?_
      refine swp_region ?_
      refine s_pu (pu_add_as ((i + 1 : Nat) : Int) rfl rfl om0 om0 om0) ?_
      refine s_mv rfl ?_
      refine swl_sub _ (sc0 7 rfl (sc0 9 rfl (sc0 13 rfl (sc0 14 rfl (sc0 151 rfl (sc0 152 rfl .nil)))))) ?_
      refine swl_nil ?_
      exact then_n ⟨i + 1, ⟨over ys (enc1 (⟨#[115, 112, 111, 105, 108, 116]⟩, 9)) (0 + i * 2), by rw [over_len (by show 0 + i * 2 + 2 ≤ _; omega)]; exact hys, ⟨rfl, rfl, rfl, rfl, rfl, rfl, trivial⟩, Split.ent' sp0, h153'⟩, by omega⟩
    · skip   -- 153 F
      refine swp_exit ?_
      refine then_x ?_
      refine then_x ?_
      refine block_hit rfl ?_
      refine then_n ?_
      refine swp_seq ?_
      refine swp_sr ?_
      refine s_mv rfl ?_
      refine s_pu (pu_len rfl) ?_
      refine s_mv rfl ?_
      refine swl_sub _ (sc0 7 rfl (sc0 9 rfl (sc0 14 rfl (sc0 161 rfl (sc0 162 rfl .nil))))) ?_
      refine swl_nn ?_
      refine swp_block ?_
      refine swp_loop (ι := Nat) (fun i env L => ∃ ys : List Value, ys.length = c.1.length * 1 ∧ Sub env [(7, pv p), (9, pv w), (14, .slice lA c.1.length lc), (161, .int .i64 (c.1.length : Nat)), (162, .int .i64 (i : Nat))] ∧ Ent L [own 3 1 (.slice lA c.1.length lc) c.1.length ys, FSA pd (lg qM y2.1), stH p W2, ttA W2, ccA W2, RDA pr (dN qM y2.1), rsH w V2, ttA V2, ccA V2, ro μ14] ∧ i ≤ c.1.length) (fun i => c.1.length - i) 0 ⟨c.1.flatMap (icsk .i64), flat_length (f := icsk .i64) (k := 1) (fun _ => rfl) _, ⟨rfl, rfl, rfl, rfl, rfl, trivial⟩, Split.ent' sp0, Nat.zero_le _⟩ ?_
      rintro i env L ⟨ys, hys, hsub, hE, hi2⟩
      refine swp_sub _ hsub ?_
      refine swp_ent hE ?_
      clear hsub hE env L
      refine swp_sr ?_
      refine s_pu (pu_lss rfl rfl) ?_
      refine swl_sub _ (sc0 7 rfl (sc0 9 rfl (sc0 14 rfl (sc0 161 rfl (sc0 162 rfl (sc0 163 rfl .nil)))))) ?_
      refine swl_nn ?_
      refine swp_seq ?_
      refine swp_cond (b := _) rfl (fun h163 => ?_) (fun h163 => ?_)
      · skip   -- 163 T
        have h163' : i < c.1.length := by have := of_decide_eq_true h163; omega
        obtain ⟨lb, rfl⟩ := shape_some hs99 om0
        refine swp_skip ?_
        refine then_n ?_
        refine swp_seq ?_
        refine swp_block ?_
        refine swp_sr ?_
        refine s_mv rfl ?_
        refine s_as rfl ?_
        refine swl_sub _ (sc0 7 rfl (sc0 9 rfl (sc0 14 rfl (sc0 24 rfl (sc0 161 rfl (sc0 162 rfl .nil)))))) ?_
        refine swl_nn ?_
        refine swp_region ?_
        refine s_mv rfl ?_
        refine s_mv rfl ?_
        refine s_pu (pu_indexAddr (0 + i * 1) rfl rfl om0 om0 (by rw [Int.toNat_natCast])) ?_
        refine s_ef0 (ef_store_own rfl rfl sp0 om0 rfl) ?_
        refine swl_sub _ (sc0 7 rfl (sc0 9 rfl (sc0 14 rfl (sc0 161 rfl (sc0 162 rfl .nil))))) ?_
        refine swl_nil ?_
        refine block_n ?_
        refine then_n ?_
        refine swp_region ?_
        refine s_pu (pu_add_as ((i + 1 : Nat) : Int) rfl rfl om0 om0 om0) ?_
        refine s_mv rfl ?_
        refine swl_sub _ (sc0 7 rfl (sc0 9 rfl (sc0 14 rfl (sc0 161 rfl (sc0 162 rfl .nil))))) ?_
        refine swl_nil ?_
        exact then_n ⟨i + 1, ⟨ys.set (0 + i * 1) (.int .i64 (-5)), by rw [List.length_set]; exact hys, ⟨rfl, rfl, rfl, rfl, rfl, trivial⟩, Split.ent' sp0, h163'⟩, by omega⟩
      · skip   -- 163 F
        refine swp_exit ?_
        refine then_x ?_
        refine then_x ?_
        refine block_hit rfl ?_
        refine then_n ?_
        refine swp_seq ?_
        refine swp_sr ?_
        refine s_mv rfl ?_
        refine swl_sub _ (sc0 7 rfl (sc0 9 rfl (sc0 169 rfl .nil))) ?_
        refine swl_nn ?_
        refine swp_block ?_
        refine swp_loop (ι := Nat) (fun i env L => ∃ μ2 : PH, Sub env [(7, pv p), (9, pv w), (169, .int .i64 (i : Nat))] ∧ Ent L [FSA pd (lg qM y2.1), stH p W2, ttA W2, ccA W2, RDA pr (dN qM y2.1), rsH w V2, ttA V2, ccA V2, ro μ2] ∧ i ≤ 2 ∧ Le μ14 μ2) (fun i => 2 - i) 0 ⟨μ14, ⟨rfl, rfl, rfl, trivial⟩, Split.ent' sp0, Nat.zero_le _, Le.refl _⟩ ?_
        rintro i3 env L ⟨μ15, hsub, hE, hi3, h15⟩
        refine swp_sub _ hsub ?_
        refine swp_ent hE ?_
        clear hsub hE env L
        have hSm : W2.Small := SmallS.w (by rw [hA2.2.2.1]; exact hsm)
        refine swp_sr ?_
        refine s_pu (pu_lss rfl rfl) ?_
        refine swl_sub _ (sc0 7 rfl (sc0 9 rfl (sc0 169 rfl (sc0 170 rfl .nil)))) ?_
        refine swl_nn ?_
        refine swp_seq ?_
        refine swp_cond (b := _) rfl (fun h170 => ?_) (fun h170 => ?_)
        · skip   -- 170 T
          have h170' : i3 < 2 := by have := of_decide_eq_true h170; omega
          refine swp_skip ?_
          refine then_n ?_
          refine swp_seq ?_
          refine swp_block ?_
          refine swp_seq ?_
          refine swp_sr ?_
          refine s_mv rfl ?_
          refine s_mv rfl ?_
          refine s_ef (ef_fn (ml_same μ15 p w pd pr W2 V2 y2.2.1 (hA2.le h15) (hB2.le h15) hsm) rfl rfl sp0) ?_
          rintro v173 L1 ⟨μ16, l16, rfl, rfl⟩
          refine swl_app ?_
          refine s_pu (pu_not rfl) ?_
          refine swl_sub _ (sc0 7 rfl (sc0 9 rfl (sc0 169 rfl (sc0 174 rfl .nil)))) ?_
          refine swl_nn ?_
          refine swp_cond (b := _) rfl (fun h174 => by cases h174) (fun h174 => ?_)
          refine swp_skip ?_
          refine then_n ?_
          refine swp_sr ?_
          refine s_mv rfl ?_
          refine s_ef (ef_fn (graphO_spec p W2 μ16 (hA2.1.le (h15.trans l16)) hSm.2) rfl rfl sp0) ?_
          rintro v176 L1 ⟨G, hG, rfl⟩
          refine swl_app ?_
          refine s_as rfl ?_
          refine swl_sub _ (sc0 7 rfl (sc0 9 rfl (sc0 25 rfl (sc0 169 rfl .nil)))) ?_
          refine swl_nn ?_
          refine swp_seq ?_
          refine swp_seq ?_
          refine swp_fact (fun m h => own_shape (e := 23) (n := 1) (v := v176) (l := G.length) (xs := G.flatMap gcs) tk0 h) fun hsG => ?_
          obtain ⟨gA, gc, rfl⟩ := shape_slice hsG
          have hGl : ∀ x ∈ G, x.2.length ≤ 1048576 := fun x hx => by
            have h1 : x.2 ∈ nums G := List.mem_map.2 ⟨x, hx, rfl⟩
            rw [hG] at h1
            obtain ⟨y, hy, hy2⟩ := List.mem_map.1 h1
            rw [← hy2]
            rw [hA2.2.2.1] at hy
            exact hsm.2 y hy
          have hGm : G.length ≤ 65536 := by
            have h1 := congrArg List.length hG
            unfold nums parS SW.pl at h1
            simp only [List.length_map] at h1
            have := hA2.1.cl
            omega
          clear hG
          refine swp_region ?_
          refine s_mv rfl ?_
          refine s_pu (pu_len rfl) ?_
          refine s_mv rfl ?_
          refine swl_sub _ (sc0 7 rfl (sc0 9 rfl (sc0 25 rfl (sc0 169 rfl (sc0 177 rfl (sc0 178 rfl (sc0 179 rfl .nil))))))) ?_
          refine swl_nn ?_
          refine swp_block ?_
          refine swp_loop (ι := Nat) (fun i env L => ∃ cs : List Value, cs.length = G.length ∧ (∀ j x, i ≤ j → G[j]? = some x → cs[j]? = some x.1) ∧ Sub env [(7, pv p), (9, pv w), (25, .slice gA G.length gc), (169, .int .i64 (i3 : Nat)), (177, .slice gA G.length gc), (178, .int .i64 (G.length : Nat)), (179, .int .i64 (i : Nat))] ∧ Ent L [own 23 1 (.slice gA G.length gc) G.length cs, rowsA (G.drop i), FSA pd (lg qM y2.1), stH p W2, ttA W2, ccA W2, RDA pr (dN qM y2.1), rsH w V2, ttA V2, ccA V2, ro μ16] ∧ i ≤ G.length) (fun i => G.length - i) 0 ⟨G.flatMap gcs, by rw [flat_length (f := gcs) (k := 1) (fun _ => rfl) _, Nat.mul_one], fun j x _ hx => ?_, ⟨rfl, rfl, rfl, rfl, rfl, rfl, rfl, trivial⟩, Split.ent' (K := [own 23 1 (.slice gA G.length gc) G.length (G.flatMap gcs), rowsA G, FSA pd (lg qM y2.1), stH p W2, ttA W2, ccA W2, RDA pr (dN qM y2.1), rsH w V2, ttA V2, ccA V2, ro μ16]) sp0, Nat.zero_le _⟩ ?_
          · have := flat_at (f := gcs) (n := 1) (fun _ => rfl) hx 0 x.1 rfl
            simpa using this
          rintro i env L ⟨cs, hcs, hcj, hsub, hE, hi4⟩
          refine swp_sub _ hsub ?_
          refine swp_ent hE ?_
          clear hsub hE env L
          refine swp_sr ?_
          refine s_pu (pu_lss rfl rfl) ?_
          refine swl_sub _ (sc0 7 rfl (sc0 9 rfl (sc0 25 rfl (sc0 169 rfl (sc0 177 rfl (sc0 178 rfl (sc0 179 rfl (sc0 180 rfl .nil)))))))) ?_
          refine swl_nn ?_
          refine swp_seq ?_
          refine swp_cond (b := _) rfl (fun h180 => ?_) (fun h180 => ?_)
          · skip   -- 180 T
            have h180' : i < G.length := by have := of_decide_eq_true h180; omega
            obtain ⟨x, hx⟩ : ∃ x, G[i]? = some x := ⟨_, List.getElem?_eq_getElem h180'⟩
            have hcx := hcj i x (Nat.le_refl _) hx
            have hxl := hGl x (List.mem_of_getElem? hx)
            have hdr : G.drop i = x :: G.drop (i + 1) := by
              rw [List.drop_eq_getElem_cons h180']
              congr 1
              exact (List.getElem?_eq_some_iff.1 hx).2
            rw [hdr]
            refine swp_ent ((Split.ent' (K := [rowsA (x :: G.drop (i + 1)), own 23 1 (.slice gA G.length gc) G.length cs, FSA pd (lg qM y2.1), stH p W2, ttA W2, ccA W2, RDA pr (dN qM y2.1), rsH w V2, ttA V2, ccA V2, ro μ16]) sp0).trans rows_take) ?_
            obtain ⟨gb, rfl⟩ := shape_some hsG om0
            refine swp_fact (fun m h => own_shape (e := 3) (n := 1) (v := x.1) (l := x.2.length) (xs := x.2.flatMap (icsk .i64)) tk0 h) fun hsx => ?_
            obtain ⟨xv, ws⟩ := x
            dsimp only at hcx hxl hsx ⊢
            obtain ⟨xA, xc, rfl⟩ := shape_slice hsx
            refine swp_skip ?_
            refine then_n ?_
            refine swp_seq ?_
            refine swp_block ?_
            refine swp_sr ?_
            refine s_mv rfl ?_
            refine s_pu (pu_indexAddr (0 + i * 1) rfl rfl om0 om0 (by rw [Int.toNat_natCast])) ?_
            refine s_rd (rd_of_ld rfl (by rw [Nat.zero_add, Nat.mul_one]; exact ld_ownN (e := 23) (n := 1) tk0 hcx)) ?_
            refine s_as rfl ?_
            refine s_as rfl ?_
            refine swl_sub _ (sc0 7 rfl (sc0 9 rfl (sc0 25 rfl (sc0 26 rfl (sc0 27 rfl (sc0 169 rfl (sc0 177 rfl (sc0 178 rfl (sc0 179 rfl .nil))))))))) ?_
            refine swl_nn ?_
            refine swp_seq ?_
            refine swp_sr ?_
            refine s_mv rfl ?_
            refine s_pu (pu_len rfl) ?_
            refine s_mv rfl ?_
            refine swl_sub _ (sc0 7 rfl (sc0 9 rfl (sc0 25 rfl (sc0 26 rfl (sc0 27 rfl (sc0 169 rfl (sc0 177 rfl (sc0 178 rfl (sc0 179 rfl (sc0 185 rfl (sc0 186 rfl .nil))))))))))) ?_
            refine swl_nn ?_
            refine swp_block ?_
            refine swp_loop (ι := Nat) (fun k env L => ∃ ys : List Value, ys.length = ws.length * 1 ∧ Sub env [(7, pv p), (9, pv w), (25, .slice (some ⟨gb, 0, none⟩) G.length gc), (26, .int .i64 (i : Nat)), (27, .slice xA ws.length xc), (169, .int .i64 (i3 : Nat)), (177, .slice (some ⟨gb, 0, none⟩) G.length gc), (178, .int .i64 (G.length : Nat)), (179, .int .i64 (i : Nat)), (185, .int .i64 (ws.length : Nat)), (186, .int .i64 (k : Nat))] ∧ Ent L [own 3 1 (.slice xA ws.length xc) ws.length ys, own 23 1 (.slice (some ⟨gb, 0, none⟩) G.length gc) G.length cs, rowsA (G.drop (i + 1)), FSA pd (lg qM y2.1), stH p W2, ttA W2, ccA W2, RDA pr (dN qM y2.1), rsH w V2, ttA V2, ccA V2, ro μ16] ∧ k ≤ ws.length) (fun k => ws.length - k) 0 ⟨ws.flatMap (icsk .i64), flat_length (f := icsk .i64) (k := 1) (fun _ => rfl) _, ⟨rfl, rfl, rfl, rfl, rfl, rfl, rfl, rfl, rfl, rfl, rfl, trivial⟩, Split.ent' sp0, Nat.zero_le _⟩ ?_
            rintro k env L ⟨ys, hys, hsub, hE, hk⟩
            refine swp_sub _ hsub ?_
            refine swp_ent hE ?_
            clear hsub hE env L
            refine swp_sr ?_
            refine s_pu (pu_lss rfl rfl) ?_
            refine swl_sub _ (sc0 7 rfl (sc0 9 rfl (sc0 25 rfl (sc0 26 rfl (sc0 27 rfl (sc0 169 rfl (sc0 177 rfl (sc0 178 rfl (sc0 179 rfl (sc0 185 rfl (sc0 186 rfl (sc0 187 rfl .nil)))))))))))) ?_
            refine swl_nn ?_
            refine swp_seq ?_
            refine swp_cond (b := _) rfl (fun h187 => ?_) (fun h187 => ?_)
            · skip   -- 187 T
              have h187' : k < ws.length := by have := of_decide_eq_true h187; omega
              obtain ⟨xb, rfl⟩ := shape_some hsx om0
              refine swp_skip ?_
              refine then_n ?_
              refine swp_seq ?_
              refine swp_block ?_
              refine swp_sr ?_
              refine s_mv rfl ?_
              refine s_as rfl ?_
              refine swl_sub _ (sc0 7 rfl (sc0 9 rfl (sc0 25 rfl (sc0 26 rfl (sc0 27 rfl (sc0 28 rfl (sc0 169 rfl (sc0 177 rfl (sc0 178 rfl (sc0 179 rfl (sc0 185 rfl (sc0 186 rfl .nil)))))))))))) ?_
              refine swl_nn ?_
              refine swp_region ?_
              refine s_mv rfl ?_
              refine s_mv rfl ?_
              refine s_pu (pu_indexAddr (0 + k * 1) rfl rfl om0 om0 (by rw [Int.toNat_natCast])) ?_
              refine s_ef0 (ef_store_own rfl rfl sp0 om0 rfl) ?_
              refine swl_sub _ (sc0 7 rfl (sc0 9 rfl (sc0 25 rfl (sc0 26 rfl (sc0 27 rfl (sc0 169 rfl (sc0 177 rfl (sc0 178 rfl (sc0 179 rfl (sc0 185 rfl (sc0 186 rfl .nil))))))))))) ?_
              refine swl_nil ?_
              refine block_n ?_
              refine then_n ?_
              refine swp_region ?_
              refine s_pu (pu_add_as ((k + 1 : Nat) : Int) rfl rfl om0 om0 om0) ?_
              refine s_mv rfl ?_
              refine swl_sub _ (sc0 7 rfl (sc0 9 rfl (sc0 25 rfl (sc0 26 rfl (sc0 27 rfl (sc0 169 rfl (sc0 177 rfl (sc0 178 rfl (sc0 179 rfl (sc0 185 rfl (sc0 186 rfl .nil))))))))))) ?_
              refine swl_nil ?_
              exact then_n ⟨k + 1, ⟨ys.set (0 + k * 1) (.int .i64 (-6)), by rw [List.length_set]; exact hys, ⟨rfl, rfl, rfl, rfl, rfl, rfl, rfl, rfl, rfl, rfl, rfl, trivial⟩, Split.ent' sp0, h187'⟩, by omega⟩
            · skip   -- 187 F
              refine swp_exit ?_
              refine then_x ?_
              refine then_x ?_
              refine block_hit rfl ?_
              refine then_n ?_
              refine swp_region ?_
              refine s_mv rfl ?_
              refine s_mv rfl ?_
              refine s_mv rfl ?_
              refine s_ef (ef_bldS (qs := [(0, _)]) rfl rfl rfl) ?_
              intro b196
              refine s_ef (ef_append_lit (l := ws.length) (m := 1) rfl rfl sp0 (by simp only [maxLen]; omega) om0) ?_
              rintro v197 hv197
              obtain ⟨nb, nc, rfl⟩ := hv197 (by decide)
              refine s_pu (pu_indexAddr (0 + i * 1) rfl rfl om0 om0 (by rw [Int.toNat_natCast])) ?_
              refine s_ef0 (ef_store_own rfl rfl sp0 om0 rfl) ?_
              refine swl_sub _ (sc0 7 rfl (sc0 9 rfl (sc0 25 rfl (sc0 169 rfl (sc0 177 rfl (sc0 178 rfl (sc0 179 rfl .nil))))))) ?_
              refine swl_nil ?_
              refine block_n ?_
              refine then_n ?_
              refine swp_region ?_
              refine s_pu (pu_add_as ((i + 1 : Nat) : Int) rfl rfl om0 om0 om0) ?_
              refine s_mv rfl ?_
              refine swl_sub _ (sc0 7 rfl (sc0 9 rfl (sc0 25 rfl (sc0 169 rfl (sc0 177 rfl (sc0 178 rfl (sc0 179 rfl .nil))))))) ?_
              refine swl_nil ?_
              refine then_n ⟨i + 1, ⟨cs.set (0 + i * 1) (.slice (some ⟨nb, 0, none⟩) (ws.length + 1) nc), by rw [List.length_set]; exact hcs, fun j y hj hy => ?_, ⟨rfl, rfl, rfl, rfl, rfl, rfl, rfl, trivial⟩, Split.ent' sp0, h180'⟩, by omega⟩
              rw [List.getElem?_set_ne om0]
              exact hcj j y om0 hy
          · skip   -- 180 F
            refine swp_exit ?_
            refine then_x ?_
            refine then_x ?_
            refine block_hit rfl ?_
            refine then_n ?_
            refine swp_seq ?_
            refine swp_sr ?_
            refine s_mv rfl ?_
            refine s_ef (ef_fn (trees_spec p W2 μ16 (hA2.1.le (h15.trans l16))) rfl rfl sp0) ?_
            rintro v201 L1 ⟨rfl, rfl⟩
            refine swl_app ?_
            refine s_mv rfl ?_
            refine swl_sub _ (sc0 7 rfl (sc0 9 rfl (sc0 169 rfl (sc0 201 rfl (sc0 202 rfl .nil))))) ?_
            refine swl_nn ?_
            refine swp_block ?_
            refine swp_loop (ι := Nat) (fun i env L => Sub env [(7, pv p), (9, pv w), (169, .int .i64 (i3 : Nat)), (201, .int .i64 (W2.T.length : Nat)), (202, .int .i64 (i : Nat))] ∧ Ent L [FSA pd (lg qM y2.1), stH p W2, ttA W2, ccA W2, RDA pr (dN qM y2.1), rsH w V2, ttA V2, ccA V2, ro μ16] ∧ i ≤ W2.T.length) (fun i => W2.T.length - i) 0 ⟨⟨rfl, rfl, rfl, rfl, rfl, trivial⟩, Split.ent' sp0, Nat.zero_le _⟩ ?_
            rintro i env L ⟨hsub, hE, hi5⟩
            refine swp_sub _ hsub ?_
            refine swp_ent hE ?_
            clear hsub hE env L
            have hTl := hA2.1.tl
            refine swp_sr ?_
            refine s_pu (pu_lss rfl rfl) ?_
            refine swl_sub _ (sc0 7 rfl (sc0 9 rfl (sc0 169 rfl (sc0 201 rfl (sc0 202 rfl (sc0 203 rfl .nil)))))) ?_
            refine swl_nn ?_
            refine swp_seq ?_
            refine swp_cond (b := _) rfl (fun h203 => ?_) (fun h203 => ?_)
            · skip   -- 203 T
              have h203' : i < W2.T.length := by have := of_decide_eq_true h203; omega
              refine swp_skip ?_
              refine then_n ?_
              refine swp_seq ?_
              refine swp_block ?_
              refine swp_sr ?_
              refine s_mv rfl ?_
              refine s_as rfl ?_
              refine swl_sub _ (sc0 7 rfl (sc0 9 rfl (sc0 29 rfl (sc0 169 rfl (sc0 201 rfl (sc0 202 rfl .nil)))))) ?_
              refine swl_nn ?_
              refine swp_sr ?_
              refine s_mv rfl ?_
              refine s_mv rfl ?_
              refine s_ef (ef_fn (tree_spec p W2 μ16 (hA2.1.le (h15.trans l16)) hSm.1 ((i : Nat) : Int)) rfl rfl sp0) ?_
              rintro v208 L1 ⟨A3, c3, rfl, rfl⟩
              refine swl_app ?_
              refine s_mv rfl ?_
              first | refine s_pu (pu_extractL rfl) ?_ | refine s_pu (pu_extract rfl rfl) ?_
              first | refine s_pu (pu_extractL rfl) ?_ | refine s_pu (pu_extract rfl rfl) ?_
              refine s_as rfl ?_
              refine s_as rfl ?_
              refine swl_sub _ (sc0 7 rfl (sc0 9 rfl (sc0 30 rfl (sc0 169 rfl (sc0 201 rfl (sc0 202 rfl .nil)))))) ?_
              refine swl_nn ?_
              refine swp_seq ?_
              refine swp_seq ?_
              have htal : (treeAt W2.pl.1 ((i : Nat) : Int)).1.length ≤ 1048576 := treeAt_small (fun t ht => by rw [hA2.2.2.1] at ht; exact hsm.1 t ht) _
              generalize treeAt W2.pl.1 ((i : Nat) : Int) = ta at *
              refine swp_fact (fun m h => own_shape (e := 47) (n := 2) (v := .slice A3 ta.1.length c3) (l := ta.1.length) (xs := ens ta.1) tk0 h) fun hsx => ?_
              refine swp_region ?_
              refine s_mv rfl ?_
              refine s_pu (pu_len rfl) ?_
              refine s_mv rfl ?_
              refine swl_sub _ (sc0 7 rfl (sc0 9 rfl (sc0 30 rfl (sc0 169 rfl (sc0 201 rfl (sc0 202 rfl (sc0 212 rfl (sc0 213 rfl .nil)))))))) ?_
              refine swl_nn ?_
              refine swp_block ?_
              refine swp_loop (ι := Nat) (fun k env L => ∃ ys : List Value, ys.length = ta.1.length * 2 ∧ Sub env [(7, pv p), (9, pv w), (30, .slice A3 ta.1.length c3), (169, .int .i64 (i3 : Nat)), (201, .int .i64 (W2.T.length : Nat)), (202, .int .i64 (i : Nat)), (212, .int .i64 (ta.1.length : Nat)), (213, .int .i64 (k : Nat))] ∧ Ent L [own 47 2 (.slice A3 ta.1.length c3) ta.1.length ys, FSA pd (lg qM y2.1), stH p W2, ttA W2, ccA W2, RDA pr (dN qM y2.1), rsH w V2, ttA V2, ccA V2, ro μ16] ∧ k ≤ ta.1.length) (fun k => ta.1.length - k) 0 ⟨ens ta.1, flat_length (f := enc1) (k := 2) (fun _ => rfl) _, ⟨rfl, rfl, rfl, rfl, rfl, rfl, rfl, rfl, trivial⟩, Split.ent' sp0, Nat.zero_le _⟩ ?_
              rintro k env L ⟨ys, hys, hsub, hE, hk⟩
              refine swp_sub _ hsub ?_
              refine swp_ent hE ?_
              clear hsub hE env L
              refine swp_sr ?_
              refine s_pu (pu_lss rfl rfl) ?_
              refine swl_sub _ (sc0 7 rfl (sc0 9 rfl (sc0 30 rfl (sc0 169 rfl (sc0 201 rfl (sc0 202 rfl (sc0 212 rfl (sc0 213 rfl (sc0 214 rfl .nil))))))))) ?_
              refine swl_nn ?_
              refine swp_seq ?_
              refine swp_cond (b := _) rfl (fun h214 => ?_) (fun h214 => ?_)
              · skip   -- 214 T
                have h214' : k < ta.1.length := by have := of_decide_eq_true h214; omega
                obtain ⟨xb, rfl⟩ := shape_some hsx om0
                refine swp_skip ?_
                refine then_n ?_
                refine swp_seq ?_
                refine swp_block ?_
                refine swp_sr ?_
                refine s_mv rfl ?_
                refine s_as rfl ?_
                refine swl_sub _ (sc0 7 rfl (sc0 9 rfl (sc0 30 rfl (sc0 32 rfl (sc0 169 rfl (sc0 201 rfl (sc0 202 rfl (sc0 212 rfl (sc0 213 rfl .nil))))))))) ?_
                refine swl_nn ?_
                refine swp_region ?_
                refine s_mv rfl ?_
                refine s_mv rfl ?_
                refine s_pu (pu_indexAddr (0 + k * 2) rfl rfl om0 om0 (by rw [Int.toNat_natCast])) ?_
                first | refine s_pu (pu_fieldAddr0 rfl) ?_ | refine s_pu (pu_fieldAddr rfl) ?_
                refine s_ef0 (ef_store_own rfl rfl sp0 (by show 0 + k * 2 + 1 < _; omega) rfl) ?_
                refine swl_sub _ (sc0 7 rfl (sc0 9 rfl (sc0 30 rfl (sc0 169 rfl (sc0 201 rfl (sc0 202 rfl (sc0 212 rfl (sc0 213 rfl .nil)))))))) ?_
                refine swl_nil ?_
                refine block_n ?_
                refine then_n ?_
                refine swp_region ?_
                refine s_pu (pu_add_as ((k + 1 : Nat) : Int) rfl rfl om0 om0 om0) ?_
                refine s_mv rfl ?_
                refine swl_sub _ (sc0 7 rfl (sc0 9 rfl (sc0 30 rfl (sc0 169 rfl (sc0 201 rfl (sc0 202 rfl (sc0 212 rfl (sc0 213 rfl .nil)))))))) ?_
                refine swl_nil ?_
                exact then_n ⟨k + 1, ⟨ys.set (0 + k * 2 + 1) (.int .u32 77), by rw [List.length_set]; exact hys, ⟨rfl, rfl, rfl, rfl, rfl, rfl, rfl, rfl, trivial⟩, Split.ent' sp0, h214'⟩, by omega⟩
              · skip   -- 214 F
                refine swp_exit ?_
                refine then_x ?_
                refine then_x ?_
                refine block_hit rfl ?_
                refine then_n ?_
                refine swp_region ?_
                refine s_mv rfl ?_
                refine s_pu (pu_bld (qs := [(0, _)]) rfl) ?_
                refine s_ef (ef_bldS (qs := [(0, _)]) rfl rfl rfl) ?_
                intro b223
                refine s_ef (ef_append_lit (l := ta.1.length) (m := 1) rfl rfl sp0 (by simp only [maxLen]; omega) om0) ?_
                rintro v224 -
                skip
                refine swl_sub _ (sc0 7 rfl (sc0 9 rfl (sc0 169 rfl (sc0 201 rfl (sc0 202 rfl .nil))))) ?_
                refine swl_nil ?_
                refine block_n ?_
                refine then_n ?_
                refine swp_region ?_
                refine s_pu (pu_add_as ((i + 1 : Nat) : Int) rfl rfl om0 om0 om0) ?_
                refine s_mv rfl ?_
                refine swl_sub _ (sc0 7 rfl (sc0 9 rfl (sc0 169 rfl (sc0 201 rfl (sc0 202 rfl .nil))))) ?_
                refine swl_nil ?_
                exact then_n ⟨i + 1, ⟨⟨rfl, rfl, rfl, rfl, rfl, trivial⟩, Split.ent' sp0, h203'⟩, by omega⟩
            · skip   -- 203 F
              refine swp_exit ?_
              refine then_x ?_
              refine then_x ?_
              refine block_hit rfl ?_
              refine then_n ?_
              refine swp_sr ?_
              refine s_mv rfl ?_
              refine s_ef (ef_fn (coms_spec p W2 μ16 (hA2.1.le (h15.trans l16))) rfl rfl sp0) ?_
              rintro v227 L1 ⟨rfl, rfl⟩
              refine swl_app ?_
              refine s_mv rfl ?_
              refine swl_sub _ (sc0 7 rfl (sc0 9 rfl (sc0 169 rfl (sc0 227 rfl (sc0 228 rfl .nil))))) ?_
              refine swl_nn ?_
              refine swp_block ?_
              refine swp_loop (ι := Nat) (fun i env L => Sub env [(7, pv p), (9, pv w), (169, .int .i64 (i3 : Nat)), (227, .int .i64 (W2.C.length : Nat)), (228, .int .i64 (i : Nat))] ∧ Ent L [FSA pd (lg qM y2.1), stH p W2, ttA W2, ccA W2, RDA pr (dN qM y2.1), rsH w V2, ttA V2, ccA V2, ro μ16] ∧ i ≤ W2.C.length) (fun i => W2.C.length - i) 0 ⟨⟨rfl, rfl, rfl, rfl, rfl, trivial⟩, Split.ent' sp0, Nat.zero_le _⟩ ?_
              rintro i env L ⟨hsub, hE, hi6⟩
              refine swp_sub _ hsub ?_
              refine swp_ent hE ?_
              clear hsub hE env L
              have hCl := hA2.1.cl
              refine swp_sr ?_
              refine s_pu (pu_lss rfl rfl) ?_
              refine swl_sub _ (sc0 7 rfl (sc0 9 rfl (sc0 169 rfl (sc0 227 rfl (sc0 228 rfl (sc0 229 rfl .nil)))))) ?_
              refine swl_nn ?_
              refine swp_seq ?_
              refine swp_cond (b := _) rfl (fun h229 => ?_) (fun h229 => ?_)
              · skip   -- 229 T
                have h229' : i < W2.C.length := by have := of_decide_eq_true h229; omega
                refine swp_skip ?_
                refine then_n ?_
                refine swp_seq ?_
                refine swp_block ?_
                refine swp_sr ?_
                refine s_mv rfl ?_
                refine s_as rfl ?_
                refine swl_sub _ (sc0 7 rfl (sc0 9 rfl (sc0 33 rfl (sc0 169 rfl (sc0 227 rfl (sc0 228 rfl .nil)))))) ?_
                refine swl_nn ?_
                refine swp_sr ?_
                refine s_mv rfl ?_
                refine s_mv rfl ?_
                refine s_ef (ef_fn (commit_spec p W2 μ16 (hA2.1.le (h15.trans l16)) hSm.2 ((i : Nat) : Int)) rfl rfl sp0) ?_
                rintro v234 L1 ⟨A3, c3, rfl, rfl⟩
                refine swl_app ?_
                refine s_mv rfl ?_
                first | refine s_pu (pu_extractL rfl) ?_ | refine s_pu (pu_extract rfl rfl) ?_
                first | refine s_pu (pu_extractL rfl) ?_ | refine s_pu (pu_extract rfl rfl) ?_
                refine s_ef (ef_alloc) ?_
                intro b34
                refine s_ef0 (ef_storeA rfl rfl rfl rfl) ?_
                refine s_as rfl ?_
                refine swl_sub _ (sc0 7 rfl (sc0 9 rfl (sc0 34 rfl (sc0 169 rfl (sc0 227 rfl (sc0 228 rfl .nil)))))) ?_
                refine swl_nn ?_
                refine swp_seq ?_
                refine swp_seq ?_
                have hcal : (comAt W2.pl.2 ((i : Nat) : Int)).1.1.length ≤ 1048576 := comAt_small (fun t ht => by rw [hA2.2.2.1] at ht; exact hsm.2 t ht) _
                generalize comAt W2.pl.2 ((i : Nat) : Int) = ca at *
                refine swp_fact (fun m h => own_shape (e := 3) (n := 1) (v := .slice A3 ca.1.1.length c3) (l := ca.1.1.length) (xs := ca.1.1.flatMap (icsk .i64)) tk0 h) fun hsx => ?_
                refine swp_region ?_
                first | refine s_pu (pu_fieldAddr0 rfl) ?_ | refine s_pu (pu_fieldAddr rfl) ?_
                refine s_rd (rd_load rfl rfl) ?_
                refine s_pu (pu_len rfl) ?_
                refine s_mv rfl ?_
                refine swl_sub _ (sc0 7 rfl (sc0 9 rfl (sc0 34 rfl (sc0 169 rfl (sc0 227 rfl (sc0 228 rfl (sc0 239 rfl (sc0 240 rfl .nil)))))))) ?_
                refine swl_nn ?_
                refine swp_block ?_
                refine swp_loop (ι := Nat) (fun k env L => ∃ ys : List Value, ys.length = ca.1.1.length * 1 ∧ Sub env [(7, pv p), (9, pv w), (34, pv b34), (169, .int .i64 (i3 : Nat)), (227, .int .i64 (W2.C.length : Nat)), (228, .int .i64 (i : Nat)), (239, .int .i64 (ca.1.1.length : Nat)), (240, .int .i64 (k : Nat))] ∧ Ent L [blk b34 25 [.slice A3 ca.1.1.length c3, .int .i64 ca.1.2], own 3 1 (.slice A3 ca.1.1.length c3) ca.1.1.length ys, FSA pd (lg qM y2.1), stH p W2, ttA W2, ccA W2, RDA pr (dN qM y2.1), rsH w V2, ttA V2, ccA V2, ro μ16] ∧ k ≤ ca.1.1.length) (fun k => ca.1.1.length - k) 0 ⟨ca.1.1.flatMap (icsk .i64), flat_length (f := icsk .i64) (k := 1) (fun _ => rfl) _, ⟨rfl, rfl, rfl, rfl, rfl, rfl, rfl, rfl, trivial⟩, Split.ent' sp0, Nat.zero_le _⟩ ?_
                rintro k env L ⟨ys, hys, hsub, hE, hk⟩
                refine swp_sub _ hsub ?_
                refine swp_ent hE ?_
                clear hsub hE env L
                refine swp_sr ?_
                refine s_pu (pu_lss rfl rfl) ?_
                refine swl_sub _ (sc0 7 rfl (sc0 9 rfl (sc0 34 rfl (sc0 169 rfl (sc0 227 rfl (sc0 228 rfl (sc0 239 rfl (sc0 240 rfl (sc0 241 rfl .nil))))))))) ?_
                refine swl_nn ?_
                refine swp_seq ?_
                refine swp_cond (b := _) rfl (fun h241 => ?_) (fun h241 => ?_)
                · skip   -- 241 T
                  have h241' : k < ca.1.1.length := by have := of_decide_eq_true h241; omega
                  obtain ⟨xb, rfl⟩ := shape_some hsx om0
                  refine swp_skip ?_
                  refine then_n ?_
                  refine swp_seq ?_
                  refine swp_block ?_
                  refine swp_sr ?_
                  refine s_mv rfl ?_
                  refine s_as rfl ?_
                  refine swl_sub _ (sc0 7 rfl (sc0 9 rfl (sc0 34 rfl (sc0 36 rfl (sc0 169 rfl (sc0 227 rfl (sc0 228 rfl (sc0 239 rfl (sc0 240 rfl .nil))))))))) ?_
                  refine swl_nn ?_
                  refine swp_region ?_
                  first | refine s_pu (pu_fieldAddr0 rfl) ?_ | refine s_pu (pu_fieldAddr rfl) ?_
                  refine s_rd (rd_load rfl rfl) ?_
                  refine s_mv rfl ?_
                  refine s_pu (pu_indexAddr (0 + k * 1) rfl rfl om0 om0 (by rw [Int.toNat_natCast])) ?_
                  refine s_ef0 (ef_store_own rfl rfl sp0 om0 rfl) ?_
                  refine swl_sub _ (sc0 7 rfl (sc0 9 rfl (sc0 34 rfl (sc0 169 rfl (sc0 227 rfl (sc0 228 rfl (sc0 239 rfl (sc0 240 rfl .nil)))))))) ?_
                  refine swl_nil ?_
                  refine block_n ?_
                  refine then_n ?_
                  refine swp_region ?_
                  refine s_pu (pu_add_as ((k + 1 : Nat) : Int) rfl rfl om0 om0 om0) ?_
                  refine s_mv rfl ?_
                  refine swl_sub _ (sc0 7 rfl (sc0 9 rfl (sc0 34 rfl (sc0 169 rfl (sc0 227 rfl (sc0 228 rfl (sc0 239 rfl (sc0 240 rfl .nil)))))))) ?_
                  refine swl_nil ?_
                  exact then_n ⟨k + 1, ⟨ys.set (0 + k * 1) (.int .i64 (-8)), by rw [List.length_set]; exact hys, ⟨rfl, rfl, rfl, rfl, rfl, rfl, rfl, rfl, trivial⟩, Split.ent' sp0, h241'⟩, by omega⟩
                · skip   -- 241 F
                  refine swp_exit ?_
                  refine then_x ?_
                  refine then_x ?_
                  refine block_hit rfl ?_
                  refine then_n ?_
                  refine swp_region ?_
                  first | refine s_pu (pu_fieldAddr0 rfl) ?_ | refine s_pu (pu_fieldAddr rfl) ?_
                  refine s_rd (rd_load rfl rfl) ?_
                  refine s_ef (ef_bldS (qs := [(0, _)]) rfl rfl rfl) ?_
                  intro b250
                  refine s_ef (ef_append_lit (l := ca.1.1.length) (m := 1) rfl rfl sp0 (by simp only [maxLen]; omega) om0) ?_
                  rintro v251 -
                  skip
                  refine swl_sub _ (sc0 7 rfl (sc0 9 rfl (sc0 169 rfl (sc0 227 rfl (sc0 228 rfl .nil))))) ?_
                  refine swl_nil ?_
                  refine block_n ?_
                  refine then_n ?_
                  refine swp_region ?_
                  refine s_pu (pu_add_as ((i + 1 : Nat) : Int) rfl rfl om0 om0 om0) ?_
                  refine s_mv rfl ?_
                  refine swl_sub _ (sc0 7 rfl (sc0 9 rfl (sc0 169 rfl (sc0 227 rfl (sc0 228 rfl .nil))))) ?_
                  refine swl_nil ?_
                  exact then_n ⟨i + 1, ⟨⟨rfl, rfl, rfl, rfl, rfl, trivial⟩, Split.ent' sp0, h229'⟩, by omega⟩
              · skip   -- 229 F
                refine swp_exit ?_
                refine then_x ?_
                refine then_x ?_
                refine block_hit rfl ?_
                refine block_n ?_
                refine then_n ?_
                refine swp_region ?_
                refine s_pu (pu_add_as ((i3 + 1 : Nat) : Int) rfl rfl om0 om0 om0) ?_
                refine s_mv rfl ?_
                refine swl_sub _ (sc0 7 rfl (sc0 9 rfl (sc0 169 rfl .nil))) ?_
                refine swl_nil ?_
                exact then_n ⟨i3 + 1, ⟨μ16, ⟨rfl, rfl, rfl, trivial⟩, Split.ent' sp0, h170', h15.trans l16⟩, by omega⟩
        · skip   -- 170 F
          refine swp_exit ?_
          refine then_x ?_
          refine then_x ?_
          refine block_hit rfl ?_
          refine then_n ?_
          refine swp_sr ?_
          refine s_mv rfl ?_
          refine s_mv rfl ?_
          refine s_ef (ef_fn (ml_same μ15 p w pd pr W2 V2 y2.2.1 (hA2.le h15) (hB2.le h15) hsm) rfl rfl sp0) ?_
          rintro v256 L1 ⟨μ16, l16, rfl, rfl⟩
          refine swl_app ?_
          refine s_as rfl ?_
          refine swl_sub _ (sc0 4 rfl .nil) ?_
          refine swl_nn ?_
          refine swp_ret ?_
          exact done_retE [ro μ16] (.tmp rfl .nil) ⟨rfl, μ16, [], h2.trans (h15.trans l16), rfl⟩ (Split.ent' sp0)
end SX
