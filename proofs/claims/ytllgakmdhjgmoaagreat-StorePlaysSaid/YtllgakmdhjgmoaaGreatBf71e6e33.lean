/- A part of the proof: walks of the program's functions, and the rules by which they go. -/
import Derived.Test.YtllgakmdhjgmoaaGreatBacdc1f78
import Derived.Test.YtllgakmdhjgmoaaGreatB87cbf4bb
import Derived.Test.YtllgakmdhjgmoaaGreatB33d03443
import Derived.Test.YtllgakmdhjgmoaaGreatB9dc86581
namespace SX
open Go Go.Proofs
/-- trees and parents of which a copy may be made -/
def SW.Small (W : SW) : Prop := (∀ x ∈ W.T, x.2.length ≤ 1048576) ∧ ∀ x ∈ W.C, x.2.1.length ≤ 1048576
theorem trees_eq {a b : List (List En)} (hl : a.length = b.length) (h : ∀ j : Nat, j < a.length + 2 → treeAt a ((j : Int) - 1) = treeAt b ((j : Int) - 1)) : a = b := by
  apply List.ext_getElem? 
  intro k
  by_cases hk : k < a.length
  · obtain ⟨x, hx⟩ : ∃ x, a[k]? = some x := ⟨_, List.getElem?_eq_getElem hk⟩
    obtain ⟨y, hy⟩ : ∃ y, b[k]? = some y := ⟨_, List.getElem?_eq_getElem om0⟩
    have := h (k + 1) om0
    rw [show (((k + 1 : Nat) : Int) - 1) = (k : Nat) by omega, treeAt_at hx, treeAt_at hy] at this
    rw [hx, hy, (Prod.mk.inj this).1]
  · rw [List.getElem?_eq_none om0, List.getElem?_eq_none om0]
theorem coms_eq {a b : List Cm} (hl : a.length = b.length) (h : ∀ j : Nat, j < a.length + 2 → comAt a ((j : Int) - 1) = comAt b ((j : Int) - 1)) : a = b := by
  apply List.ext_getElem? 
  intro k
  by_cases hk : k < a.length
  · obtain ⟨x, hx⟩ : ∃ x, a[k]? = some x := ⟨_, List.getElem?_eq_getElem hk⟩
    obtain ⟨y, hy⟩ : ∃ y, b[k]? = some y := ⟨_, List.getElem?_eq_getElem om0⟩
    have := h (k + 1) om0
    rw [show (((k + 1 : Nat) : Int) - 1) = (k : Nat) by omega, comAt_at hx, comAt_at hy] at this
    rw [hx, hy, (Prod.mk.inj this).1]
  · rw [List.getElem?_eq_none om0, List.getElem?_eq_none om0]
def sameW (a b : SW) : Bool := decide (a.pl = b.pl ∧ a.dead = b.dead)
theorem sameW_no {a b : SW} (h : ¬ (a.pl = b.pl ∧ a.dead = b.dead)) : Value.bool (sameW a b) = .bool false := by unfold sameW; rw [decide_eq_false h]
theorem pl_len1 (W : SW) : W.pl.1.length = W.T.length := List.length_map _
theorem pl_len2 (W : SW) : W.pl.2.length = W.C.length := List.length_map _
set_option maxHeartbeats 8000000 in
theorem lsame_spec (μ : PH) (p w : Nat) (Wa Wb : SW) (hA : Wa.Ok μ) (hB : Wb.Ok μ) (sA : Wa.Small) (sB : Wb.Small) : Spec Tryz.prog 18 [pv p, pv w] [stH p Wa, ttA Wa, ccA Wa, rsH w Wb, ttA Wb, ccA Wb, ro μ]
  (fun r L => ∃ μ', Le μ μ' ∧ r = .bool (sameW Wa Wb) ∧ L = [stH p Wa, ttA Wa, ccA Wa, rsH w Wb, ttA Wb, ccA Wb, ro μ']) := by
 have hB0 := hB
 have h1a := pl_len1 Wa
 have h2a := pl_len2 Wa
 have h1b := pl_len1 Wb
 have h2b := pl_len2 Wb
 obtain ⟨⟨A1, c1, e1⟩, ⟨A2, c2, e2⟩, htr, hcr, hT, hC⟩ := hB
 obtain ⟨q, tv, cv, T, C, dead⟩ := Wb
 dsimp only at e1 e2 htr hcr hT hC h1b h2b
 subst e1 e2
 have hTa := hA.tl
 have hCa := hA.cl
 refine Spec.of 110 Tryz.func18 rfl rfl rfl ?_
 refine swp_seq ?_
 refine swp_region ?_
 refine s_pu (pu_assign rfl) ?_
 refine swl_sub _ (sc0 0 rfl (sc0 1 rfl .nil)) ?_
 refine swl_nil ?_
 refine then_n ?_
 refine swp_seq ?_
 refine swp_seq ?_
 refine swp_draw [5, 14, 24] ([rsH w ⟨q, .slice A1 T.length c1, .slice A2 C.length c2, T, C, dead⟩]) ([stH p Wa, ttA Wa, ccA Wa, ttA ⟨q, .slice A1 T.length c1, .slice A2 C.length c2, T, C, dead⟩, ccA ⟨q, .slice A1 T.length c1, .slice A2 C.length c2, T, C, dead⟩, ro μ]) (Split.ent sp0) kr0 ?_
 refine d_pu 0 rfl (pu_move rfl) kr0 kr0 kr0 ?_
 refine d_pu 2 rfl (pu_move rfl) kr0 kr0 kr0 ?_
 refine d_pu 3 rfl (pu_nilCheck rfl) kr0 kr0 kr0 ?_
 refine d_pu 4 rfl (pu_fieldAddr0 rfl) kr0 kr0 kr0 ?_
 refine d_rd 5 rfl (rd_load rfl rfl) rfl kr0 kr0 kr0 ?_
 refine d_pu 6 rfl (pu_len rfl) kr0 kr0 kr0 ?_
 refine d_eft 1 rfl kr0 (ef_fn (trees_spec p Wa μ hA) rfl rfl sp0) ?_
 rintro v16 L1 ⟨rfl, rfl⟩
 refine ⟨_, ent_appC (Split.ent sp0), ?_⟩
 refine d_pu 7 rfl (pu_neq rfl rfl) kr0 kr0 kr0 ?_
 refine d_pu 8 rfl (pu_move rfl) kr0 kr0 kr0 ?_
 refine d_split 23 rfl (fun h23 => ?_) (fun h23 => ?_)
 ·skip
  have hn : ¬ Wa.T.length = T.length := fun e => by rw [e] at h23; simp at h23
  refine d_off 9 rfl rfl rfl rfl kr0 kr0 kr0 ?_
  refine d_off 10 rfl rfl rfl rfl kr0 kr0 kr0 ?_
  refine d_off 11 rfl rfl rfl rfl kr0 kr0 kr0 ?_
  refine d_off 12 rfl rfl rfl rfl kr0 kr0 kr0 ?_
  refine d_off 13 rfl rfl rfl rfl kr0 kr0 kr0 ?_
  refine d_off 14 rfl rfl rfl rfl kr0 kr0 kr0 ?_
  refine d_off 15 rfl rfl rfl rfl kr0 kr0 kr0 ?_
  refine d_off 16 rfl rfl rfl rfl kr0 kr0 kr0 ?_
  refine d_pu 17 rfl (pu_pick_t rfl rfl) kr0 kr0 kr0 ?_
  refine d_pu 18 rfl (pu_move rfl) kr0 kr0 kr0 ?_
  refine d_split 33 rfl (fun h33 => ?_) (fun h33 => by cases h33)
  refine d_off 19 rfl rfl rfl rfl kr0 kr0 kr0 ?_
  refine d_off 20 rfl rfl rfl rfl kr0 kr0 kr0 ?_
  refine d_off 21 rfl rfl rfl rfl kr0 kr0 kr0 ?_
  refine d_off 22 rfl rfl rfl rfl kr0 kr0 kr0 ?_
  refine d_off 23 rfl rfl rfl rfl kr0 kr0 kr0 ?_
  refine d_off 24 rfl rfl rfl rfl kr0 kr0 kr0 ?_
  refine d_off 25 rfl rfl rfl rfl kr0 kr0 kr0 ?_
  refine d_pu 26 rfl (pu_pick_t rfl rfl) kr0 kr0 kr0 ?_
  refine d_pu 27 rfl (pu_move rfl) kr0 kr0 kr0 ?_
  refine d_split 42 rfl (fun h42 => ?_) (fun h42 => by cases h42)
  refine d_off 28 rfl rfl rfl rfl kr0 kr0 kr0 ?_
  refine d_off 29 rfl rfl rfl rfl kr0 kr0 kr0 ?_
  refine d_off 30 rfl rfl rfl rfl kr0 kr0 kr0 ?_
  refine d_off 31 rfl rfl rfl rfl kr0 kr0 kr0 ?_
  refine d_off 32 rfl rfl rfl rfl kr0 kr0 kr0 ?_
  refine d_off 33 rfl rfl rfl rfl kr0 kr0 kr0 ?_
  refine d_pu 34 rfl (pu_pick_t rfl rfl) kr0 kr0 kr0 ?_
  refine d_sub _ (sc0 0 rfl (sc0 1 rfl (sc0 49 rfl .nil))) ?_
  refine d_nilt kr0 ?_
  refine then_n ?_
  refine swp_cond (b := _) rfl (fun h49 => ?_) (fun h49 => by cases h49)
  refine swp_seq ?_
  refine swp_region ?_
  refine s_pu (pu_assign rfl) ?_
  refine swl_sub _ (sc0 4 rfl .nil) ?_
  refine swl_nil ?_
  refine then_n ?_
  refine swp_ret ?_
  refine then_r ?_
  exact done_ret [stH p Wa, ttA Wa, ccA Wa, rsH w ⟨q, .slice A1 T.length c1, .slice A2 C.length c2, T, C, dead⟩, ttA ⟨q, .slice A1 T.length c1, .slice A2 C.length c2, T, C, dead⟩, ccA ⟨q, .slice A1 T.length c1, .slice A2 C.length c2, T, C, dead⟩, ro μ] (.tmp rfl .nil) ⟨μ, Le.refl _, (sameW_no fun k => hn (by rw [← h1a, ← h1b, k.1])).symm, rfl⟩ sp0
 ·skip
  have hnT : Wa.T.length = T.length := by
   have : ((Wa.T.length : Nat) : Int) = (T.length : Nat) := by simpa using h23
   omega
  refine d_pu_on 9 rfl rfl rfl (pu_move rfl) kr0 kr0 kr0 ?_
  refine d_pu_on 11 rfl rfl rfl (pu_move rfl) kr0 kr0 kr0 ?_
  refine d_pu_on 12 rfl rfl rfl (pu_nilCheck rfl) kr0 kr0 kr0 ?_
  refine d_pu_on 13 rfl rfl rfl (pu_fieldAddr0 rfl) kr0 kr0 kr0 ?_
  refine d_rd_on 14 rfl rfl rfl (rd_load rfl rfl) rfl kr0 kr0 kr0 ?_
  refine d_pu_on 15 rfl rfl rfl (pu_len rfl) kr0 kr0 kr0 ?_
  refine d_amb [10] kr0 rfl ?_
  refine dA_ef 10 rfl (GOn.some rfl rfl) (ef_fn (coms_spec p Wa μ hA) rfl rfl sp0) ?_
  rintro v25 L1 ⟨rfl, rfl⟩
  refine ⟨_, ent_appC (Split.ent sp0), ?_⟩
  refine d_pu_on 16 rfl rfl rfl (pu_neq rfl rfl) kr0 kr0 kr0 ?_
  refine d_pu 17 rfl (pu_pick_f rfl rfl) kr0 kr0 kr0 ?_
  refine d_pu 18 rfl (pu_move rfl) kr0 kr0 kr0 ?_
  refine d_split 33 rfl (fun h33 => ?_) (fun h33 => ?_)
  ·skip
   have hn : ¬ Wa.C.length = C.length := fun e => by rw [e] at h33; simp at h33
   refine d_off 19 rfl rfl rfl rfl kr0 kr0 kr0 ?_
   refine d_off 20 rfl rfl rfl rfl kr0 kr0 kr0 ?_
   refine d_off 21 rfl rfl rfl rfl kr0 kr0 kr0 ?_
   refine d_off 22 rfl rfl rfl rfl kr0 kr0 kr0 ?_
   refine d_off 23 rfl rfl rfl rfl kr0 kr0 kr0 ?_
   refine d_off 24 rfl rfl rfl rfl kr0 kr0 kr0 ?_
   refine d_off 25 rfl rfl rfl rfl kr0 kr0 kr0 ?_
   refine d_pu 26 rfl (pu_pick_t rfl rfl) kr0 kr0 kr0 ?_
   refine d_pu 27 rfl (pu_move rfl) kr0 kr0 kr0 ?_
   refine d_split 42 rfl (fun h42 => ?_) (fun h42 => by cases h42)
   refine d_off 28 rfl rfl rfl rfl kr0 kr0 kr0 ?_
   refine d_off 29 rfl rfl rfl rfl kr0 kr0 kr0 ?_
   refine d_off 30 rfl rfl rfl rfl kr0 kr0 kr0 ?_
   refine d_off 31 rfl rfl rfl rfl kr0 kr0 kr0 ?_
   refine d_off 32 rfl rfl rfl rfl kr0 kr0 kr0 ?_
   refine d_off 33 rfl rfl rfl rfl kr0 kr0 kr0 ?_
   refine d_pu 34 rfl (pu_pick_t rfl rfl) kr0 kr0 kr0 ?_
   refine d_sub _ (sc0 0 rfl (sc0 1 rfl (sc0 49 rfl .nil))) ?_
   refine d_nilt kr0 ?_
   refine then_n ?_
   refine swp_cond (b := _) rfl (fun h49 => ?_) (fun h49 => by cases h49)
   refine swp_seq ?_
   refine swp_region ?_
   refine s_pu (pu_assign rfl) ?_
   refine swl_sub _ (sc0 4 rfl .nil) ?_
   refine swl_nil ?_
   refine then_n ?_
   refine swp_ret ?_
   refine then_r ?_
   exact done_ret [stH p Wa, ttA Wa, ccA Wa, rsH w ⟨q, .slice A1 T.length c1, .slice A2 C.length c2, T, C, dead⟩, ttA ⟨q, .slice A1 T.length c1, .slice A2 C.length c2, T, C, dead⟩, ccA ⟨q, .slice A1 T.length c1, .slice A2 C.length c2, T, C, dead⟩, ro μ] (.tmp rfl .nil) ⟨μ, Le.refl _, (sameW_no fun k => hn (by rw [← h2a, ← h2b, k.1])).symm, rfl⟩ sp0
  ·skip
   have hnC : Wa.C.length = C.length := by
    have : ((Wa.C.length : Nat) : Int) = (C.length : Nat) := by simpa using h33
    omega
   refine d_pu_on 19 rfl rfl rfl (pu_move rfl) kr0 kr0 kr0 ?_
   refine d_pu_on 21 rfl rfl rfl (pu_move rfl) kr0 kr0 kr0 ?_
   refine d_pu_on 22 rfl rfl rfl (pu_nilCheck rfl) kr0 kr0 kr0 ?_
   refine d_pu_on 23 rfl rfl rfl (pu_fieldAddr0 rfl) kr0 kr0 kr0 ?_
   refine d_rd_on 24 rfl rfl rfl (rd_load rfl rfl) rfl kr0 kr0 kr0 ?_
   refine d_amb [20] kr0 rfl ?_
   refine dA_ef 20 rfl (GOn.some rfl rfl) (ef_fn (dead_spec p Wa) rfl rfl sp0) ?_
   rintro v35 L1 ⟨rfl, rfl⟩
   refine ⟨_, ent_appC (Split.ent sp0), ?_⟩
   refine d_pu_on 25 rfl rfl rfl (pu_bool_ne rfl rfl) kr0 kr0 kr0 ?_
   refine d_pu 26 rfl (pu_pick_f rfl rfl) kr0 kr0 kr0 ?_
   refine d_pu 27 rfl (pu_move rfl) kr0 kr0 kr0 ?_
   refine d_split 42 rfl (fun h42 => ?_) (fun h42 => ?_)
   ·skip
    have hn : ¬ Wa.dead = dead := fun e => by rw [e] at h42; simp at h42
    refine d_off 28 rfl rfl rfl rfl kr0 kr0 kr0 ?_
    refine d_off 29 rfl rfl rfl rfl kr0 kr0 kr0 ?_
    refine d_off 30 rfl rfl rfl rfl kr0 kr0 kr0 ?_
    refine d_off 31 rfl rfl rfl rfl kr0 kr0 kr0 ?_
    refine d_off 32 rfl rfl rfl rfl kr0 kr0 kr0 ?_
    refine d_off 33 rfl rfl rfl rfl kr0 kr0 kr0 ?_
    refine d_pu 34 rfl (pu_pick_t rfl rfl) kr0 kr0 kr0 ?_
    refine d_sub _ (sc0 0 rfl (sc0 1 rfl (sc0 49 rfl .nil))) ?_
    refine d_nilt kr0 ?_
    refine then_n ?_
    refine swp_cond (b := _) rfl (fun h49 => ?_) (fun h49 => by cases h49)
    refine swp_seq ?_
    refine swp_region ?_
    refine s_pu (pu_assign rfl) ?_
    refine swl_sub _ (sc0 4 rfl .nil) ?_
    refine swl_nil ?_
    refine then_n ?_
    refine swp_ret ?_
    refine then_r ?_
    exact done_ret [stH p Wa, ttA Wa, ccA Wa, rsH w ⟨q, .slice A1 T.length c1, .slice A2 C.length c2, T, C, dead⟩, ttA ⟨q, .slice A1 T.length c1, .slice A2 C.length c2, T, C, dead⟩, ccA ⟨q, .slice A1 T.length c1, .slice A2 C.length c2, T, C, dead⟩, ro μ] (.tmp rfl .nil) ⟨μ, Le.refl _, (sameW_no fun k => hn k.2).symm, rfl⟩ sp0
   ·skip
    have hnd : Wa.dead = dead := by
     cases ha : Wa.dead <;> cases hb : dead <;> rw [ha, hb] at h42 <;> first | rfl | simp at h42
    refine d_pu_on 28 rfl rfl rfl (pu_move rfl) kr0 kr0 kr0 ?_
    refine d_pu_on 30 rfl rfl rfl (pu_move rfl) kr0 kr0 kr0 ?_
    refine d_amb [29] kr0 rfl ?_
    refine dA_fint 29 rfl (GOn.some rfl rfl) kr0 (ef_fn (graph_spec p Wa μ hA sA.2) rfl rfl sp0) ?_
    rintro v44 L1 ⟨μ1, Ga, l1, hGa, hna, rfl⟩
    refine swd_app ?_
    refine d_amb [31] kr0 rfl ?_
    refine dA_finf 31 rfl (GOn.some rfl rfl) kr0 (ef_fn (rgraph_spec w ⟨q, .slice A1 T.length c1, .slice A2 C.length c2, T, C, dead⟩ μ1 (hB0.le l1) sB.2) rfl rfl sp0) ?_
    rintro v46 L2 ⟨μ2, Gb, l2, hGb, hnb, rfl⟩
    refine swd_app ?_
    refine d_amb [32] kr0 rfl ?_
    refine dA_finf 32 rfl (GOn.some rfl rfl) kr0 (ef_fn (sameg_spec μ2 v44 v46 Ga Gb (hGa.le l2) hGb) rfl rfl sp0) ?_
    rintro v47 L3 ⟨rfl, rfl⟩
    refine swd_app ?_
    refine d_pu_on 33 rfl rfl rfl (pu_not rfl) kr0 kr0 kr0 ?_
    refine d_pu 34 rfl (pu_pick_f rfl rfl) kr0 kr0 kr0 ?_
    refine d_sub _ (sc0 0 rfl (sc0 1 rfl (sc0 49 rfl .nil))) ?_
    refine d_nilf kr0 ?_
    refine then_n ?_
    refine swp_cond (b := _) rfl (fun h49 => ?_) (fun h49 => ?_)
    ·skip
     refine swp_seq ?_
     refine swp_region ?_
     refine s_pu (pu_assign rfl) ?_
     refine swl_sub _ (sc0 4 rfl .nil) ?_
     refine swl_nil ?_
     refine then_n ?_
     refine swp_ret ?_
     refine then_r ?_
     have hn : ¬ nums Ga = nums Gb := by simpa using h49
     exact done_ret [stH p Wa, ttA Wa, ccA Wa, rsH w ⟨q, .slice A1 T.length c1, .slice A2 C.length c2, T, C, dead⟩, ttA ⟨q, .slice A1 T.length c1, .slice A2 C.length c2, T, C, dead⟩, ccA ⟨q, .slice A1 T.length c1, .slice A2 C.length c2, T, C, dead⟩, ro μ2] (.tmp rfl .nil) ⟨μ2, l1.trans l2, (sameW_no fun k => hn (by rw [hna, hnb, k.1])).symm, rfl⟩ sp0
    ·skip
     refine swp_skip ?_
     refine then_n ?_
     refine swp_seq ?_
     refine swp_seq ?_
     refine swp_region ?_
     refine s_pu (pu_assign rfl) ?_
     refine swl_sub _ (sc0 0 rfl (sc0 1 rfl (sc0 5 rfl .nil))) ?_
     refine swl_nil ?_
     refine then_n ?_
     refine swp_block ?_
     refine swp_loop (ι := Nat × PH) (fun x env L => Sub env [(0, pv p), (1, pv w), (5, .int .i64 ((x.1 : Int) - 1))] ∧ Ent L [stH p Wa, ttA Wa, ccA Wa, rsH w ⟨q, .slice A1 T.length c1, .slice A2 C.length c2, T, C, dead⟩, ttA ⟨q, .slice A1 T.length c1, .slice A2 C.length c2, T, C, dead⟩, ccA ⟨q, .slice A1 T.length c1, .slice A2 C.length c2, T, C, dead⟩, ro x.2] ∧ Le μ x.2 ∧ x.1 ≤ T.length + 2 ∧ ∀ j : Nat, j < x.1 → treeAt Wa.pl.1 ((j : Int) - 1) = treeAt (SW.pl ⟨q, .slice A1 T.length c1, .slice A2 C.length c2, T, C, dead⟩).1 ((j : Int) - 1)) (fun x => T.length + 2 - x.1) (0, μ2) ⟨⟨rfl, rfl, rfl, trivial⟩, Split.ent' sp0, l1.trans l2, Nat.zero_le _, fun j hj => by omega⟩ ?_
     clear hGa hGb hna hnb l1 l2
     rintro ⟨k, μk⟩ env L ⟨hsub, hE, hle, hk, hlo⟩
     dsimp only at hsub hE hle hk hlo
     refine swp_sub _ hsub ?_
     refine swp_ent hE ?_
     clear hsub hE env L
     dsimp only
     refine swp_seq ?_
     refine swp_seq ?_
     refine swp_region ?_
     refine s_pu (pu_move rfl) ?_
     refine s_pu (pu_move rfl) ?_
     refine s_pu (pu_nilCheck rfl) ?_
     refine s_pu (pu_fieldAddr0 rfl) ?_
     refine s_rd (rd_load rfl rfl) ?_
     refine s_pu (pu_len rfl) ?_
     refine s_pu (pu_leq rfl rfl) ?_
     refine swl_sub _ (sc0 0 rfl (sc0 1 rfl (sc0 5 rfl (sc0 56 rfl .nil)))) ?_
     refine swl_nil ?_
     refine then_n ?_
     refine swp_cond (b := _) rfl (fun h56 => ?_) (fun h56 => ?_)
     ·skip
      have h56' : k < T.length + 2 := by have := of_decide_eq_true h56; omega
      refine swp_skip ?_
      refine then_n ?_
      refine swp_seq ?_
      refine swp_block ?_
      refine swp_seq ?_
      refine swp_region ?_
      refine s_pu (pu_move rfl) ?_
      refine s_pu (pu_move rfl) ?_
      refine s_ef (ef_fn (tree_spec p Wa μk (hA.le hle) sA.1 ((k : Int) - 1)) rfl rfl sp0) ?_
      rintro v62 L1 ⟨A3, c3, rfl, rfl⟩
      refine swl_app ?_
      refine s_pu (pu_move rfl) ?_
      refine s_pu (pu_extractL rfl) ?_
      refine s_pu (pu_extractL rfl) ?_
      refine s_pu (pu_assign rfl) ?_
      refine s_pu (pu_assign rfl) ?_
      refine swl_sub _ (sc0 0 rfl (sc0 1 rfl (sc0 5 rfl (sc0 6 rfl (sc0 7 rfl .nil))))) ?_
      refine swl_nil ?_
      refine then_n ?_
      refine swp_seq ?_
      refine swp_region ?_
      refine s_pu (pu_move rfl) ?_
      refine s_pu (pu_move rfl) ?_
      refine s_ef (ef_fn (rtree_spec w ⟨q, .slice A1 T.length c1, .slice A2 C.length c2, T, C, dead⟩ μk (hB0.le hle) ((k : Int) - 1)) rfl rfl sp0) ?_
      rintro v68 L1 ⟨v8, rfl, hrb, rfl⟩
      refine swl_app ?_
      refine s_pu (pu_move rfl) ?_
      refine s_pu (pu_extractL rfl) ?_
      refine s_pu (pu_extractL rfl) ?_
      refine s_pu (pu_assign rfl) ?_
      refine s_pu (pu_assign rfl) ?_
      refine swl_sub _ (sc0 0 rfl (sc0 1 rfl (sc0 5 rfl (sc0 6 rfl (sc0 7 rfl (sc0 8 rfl (sc0 9 rfl .nil))))))) ?_
      refine swl_nil ?_
      refine then_n ?_
      refine swp_seq ?_
      generalize hta : treeAt Wa.pl.1 ((k : Int) - 1) = ta at *
      generalize htb : treeAt (SW.pl ⟨q, .slice A1 T.length c1, .slice A2 C.length c2, T, C, dead⟩).1 ((k : Int) - 1) = tb at *
      refine swp_share_own (μ := μk) (v := .slice A3 ta.1.length c3) (e := 47) (n := 2) sp0 fun μ' hl' hra => ?_
      refine swp_region ?_
      refine s_pu (pu_move rfl) ?_
      refine s_pu (pu_move rfl) ?_
      refine s_pu (pu_neq rfl rfl) ?_
      refine s_pu (pu_move rfl) ?_
      refine s_split 74 rfl (fun h74 => ?_) (fun h74 => ?_)
      ·skip
       refine s_off rfl rfl rfl ?_
       refine s_off rfl rfl rfl ?_
       refine s_off rfl rfl rfl ?_
       refine s_off rfl rfl rfl ?_
       refine s_pu (pu_pick_t rfl rfl) ?_
       refine swl_sub _ (sc0 0 rfl (sc0 1 rfl (sc0 5 rfl (sc0 79 rfl .nil)))) ?_
       refine swl_nil ?_
       refine then_n ?_
       refine swp_cond (b := _) rfl (fun h79 => ?_) (fun h79 => by cases h79)
       refine swp_seq ?_
       refine swp_region ?_
       refine s_pu (pu_assign rfl) ?_
       refine swl_sub _ (sc0 4 rfl .nil) ?_
       refine swl_nil ?_
       refine then_n ?_
       refine swp_ret ?_
       refine block_r ?_
       refine then_r ?_
       refine then_r ?_
       refine block_r ?_
       refine then_r ?_
       have hn : ¬ ta.2 = tb.2 := by simpa using h74
       exact done_ret [stH p Wa, ttA Wa, ccA Wa, rsH w ⟨q, .slice A1 T.length c1, .slice A2 C.length c2, T, C, dead⟩, ttA ⟨q, .slice A1 T.length c1, .slice A2 C.length c2, T, C, dead⟩, ccA ⟨q, .slice A1 T.length c1, .slice A2 C.length c2, T, C, dead⟩, ro μ'] (.tmp rfl .nil) ⟨μ', hle.trans hl', (sameW_no fun k => hn (by rw [← hta, ← htb, k.1])).symm, rfl⟩ sp0
      ·skip
       refine s_on rfl rfl ?_
       refine s_pu (pu_move rfl) ?_
       refine s_on rfl rfl ?_
       refine s_pu (pu_move rfl) ?_
       refine s_on rfl rfl ?_
       refine s_ef (ef_fn (same_spec μ' (.slice A3 ta.1.length c3) v8 ta.1 tb.1 hra (hrb.le hl')) rfl rfl sp0) ?_
       rintro v77 L1 ⟨rfl, rfl⟩
       refine swl_app ?_
       refine s_on rfl rfl ?_
       refine s_pu (pu_not rfl) ?_
       refine s_pu (pu_pick_f rfl rfl) ?_
       refine swl_sub _ (sc0 0 rfl (sc0 1 rfl (sc0 5 rfl (sc0 79 rfl .nil)))) ?_
       refine swl_nil ?_
       refine then_n ?_
       refine swp_cond (b := _) rfl (fun h79 => ?_) (fun h79 => ?_)
       ·skip
        refine swp_seq ?_
        refine swp_region ?_
        refine s_pu (pu_assign rfl) ?_
        refine swl_sub _ (sc0 4 rfl .nil) ?_
        refine swl_nil ?_
        refine then_n ?_
        refine swp_ret ?_
        refine block_r ?_
        refine then_r ?_
        refine then_r ?_
        refine block_r ?_
        refine then_r ?_
        have hn : ¬ ta.1 = tb.1 := by simpa using h79
        exact done_ret [stH p Wa, ttA Wa, ccA Wa, rsH w ⟨q, .slice A1 T.length c1, .slice A2 C.length c2, T, C, dead⟩, ttA ⟨q, .slice A1 T.length c1, .slice A2 C.length c2, T, C, dead⟩, ccA ⟨q, .slice A1 T.length c1, .slice A2 C.length c2, T, C, dead⟩, ro μ'] (.tmp rfl .nil) ⟨μ', hle.trans hl', (sameW_no fun k => hn (by rw [← hta, ← htb, k.1])).symm, rfl⟩ sp0
       ·skip
        refine swp_skip ?_
        refine block_n ?_
        refine then_n ?_
        refine swp_region ?_
        refine s_pu (pu_move rfl) ?_
        refine s_pu (pu_add_as (((k + 1 : Nat) : Int) - 1) rfl rfl om0 om0 om0) ?_
        refine s_pu (pu_assign rfl) ?_
        refine swl_sub _ (sc0 0 rfl (sc0 1 rfl (sc0 5 rfl .nil))) ?_
        refine swl_nil ?_
        have q2 : ta.2 = tb.2 := by simpa using h74
        have q1 : ta.1 = tb.1 := by simpa using h79
        refine then_n ⟨(k + 1, μ'), ⟨⟨rfl, rfl, rfl, trivial⟩, Split.ent' sp0, hle.trans hl', h56', fun j hj => ?_⟩, by show T.length + 2 - (k + 1) < T.length + 2 - k; omega⟩
        by_cases e : j = k
        ·subst e; rw [hta, htb]; exact Prod.ext q1 q2
        ·exact hlo j om0
     ·skip
      have h56' := of_decide_eq_false h56
      obtain rfl : k = T.length + 2 := by omega
      have hpT : Wa.pl.1 = (SW.pl ⟨q, .slice A1 T.length c1, .slice A2 C.length c2, T, C, dead⟩).1 := trees_eq (by rw [h1a, h1b, hnT]) (fun j hj => hlo j (by rw [h1a] at hj; omega))
      clear hlo hk h56 h56'
      refine swp_exit ?_
      refine then_x ?_
      refine then_x ?_
      refine block_hit rfl ?_
      refine then_n ?_
      refine swp_seq ?_
      refine swp_seq ?_
      refine swp_region ?_
      refine s_pu (pu_assign rfl) ?_
      refine swl_sub _ (sc0 0 rfl (sc0 1 rfl (sc0 10 rfl .nil))) ?_
      refine swl_nil ?_
      refine then_n ?_
      refine swp_block ?_
      refine swp_loop (ι := Nat × PH) (fun x env L => Sub env [(0, pv p), (1, pv w), (10, .int .i64 ((x.1 : Int) - 1))] ∧ Ent L [stH p Wa, ttA Wa, ccA Wa, rsH w ⟨q, .slice A1 T.length c1, .slice A2 C.length c2, T, C, dead⟩, ttA ⟨q, .slice A1 T.length c1, .slice A2 C.length c2, T, C, dead⟩, ccA ⟨q, .slice A1 T.length c1, .slice A2 C.length c2, T, C, dead⟩, ro x.2] ∧ Le μ x.2 ∧ x.1 ≤ C.length + 2 ∧ ∀ j : Nat, j < x.1 → comAt Wa.pl.2 ((j : Int) - 1) = comAt (SW.pl ⟨q, .slice A1 T.length c1, .slice A2 C.length c2, T, C, dead⟩).2 ((j : Int) - 1)) (fun x => C.length + 2 - x.1) (0, μk) ⟨⟨rfl, rfl, rfl, trivial⟩, Split.ent' sp0, hle, Nat.zero_le _, fun j hj => by omega⟩ ?_
      clear hle μk
      rintro ⟨k, μk⟩ env L ⟨hsub, hE, hle, hk, hlo⟩
      dsimp only at hsub hE hle hk hlo
      refine swp_sub _ hsub ?_
      refine swp_ent hE ?_
      clear hsub hE env L
      dsimp only
      refine swp_seq ?_
      refine swp_seq ?_
      refine swp_region ?_
      refine s_pu (pu_move rfl) ?_
      refine s_pu (pu_move rfl) ?_
      refine s_pu (pu_nilCheck rfl) ?_
      refine s_pu (pu_fieldAddr0 rfl) ?_
      refine s_rd (rd_load rfl rfl) ?_
      refine s_pu (pu_len rfl) ?_
      refine s_pu (pu_leq rfl rfl) ?_
      refine swl_sub _ (sc0 0 rfl (sc0 1 rfl (sc0 10 rfl (sc0 86 rfl .nil)))) ?_
      refine swl_nil ?_
      refine then_n ?_
      refine swp_cond (b := _) rfl (fun h86 => ?_) (fun h86 => ?_)
      ·skip
       have h86' : k < C.length + 2 := by have := of_decide_eq_true h86; omega
       refine swp_skip ?_
       refine then_n ?_
       refine swp_seq ?_
       refine swp_block ?_
       refine swp_seq ?_
       refine swp_region ?_
       refine s_pu (pu_move rfl) ?_
       refine s_pu (pu_move rfl) ?_
       refine s_ef (ef_fn (commit_spec p Wa μk (hA.le hle) sA.2 ((k : Int) - 1)) rfl rfl sp0) ?_
       rintro v92 L1 ⟨A3, c3, rfl, rfl⟩
       refine swl_app ?_
       refine s_pu (pu_move rfl) ?_
       refine s_pu (pu_extractL rfl) ?_
       refine s_pu (pu_extractL rfl) ?_
       refine s_ef (ef_alloc) ?_
       intro b11
       refine s_ef0 (ef_storeA rfl rfl rfl rfl) ?_
       refine s_pu (pu_assign rfl) ?_
       refine swl_sub _ (sc0 0 rfl (sc0 1 rfl (sc0 10 rfl (sc0 11 rfl (sc0 12 rfl .nil))))) ?_
       refine swl_nil ?_
       refine then_n ?_
       refine swp_seq ?_
       refine swp_region ?_
       refine s_pu (pu_move rfl) ?_
       refine s_pu (pu_move rfl) ?_
       refine s_ef (ef_fn (rcommit_spec w ⟨q, .slice A1 T.length c1, .slice A2 C.length c2, T, C, dead⟩ μk (hB0.le hle) ((k : Int) - 1)) rfl rfl sp0) ?_
       rintro v98 L1 ⟨v8, rfl, hrb, rfl⟩
       obtain ⟨A4, c4, rfl⟩ := hrb.sl
       refine swl_app ?_
       refine s_pu (pu_move rfl) ?_
       refine s_pu (pu_extractL rfl) ?_
       refine s_pu (pu_extractL rfl) ?_
       refine s_ef (ef_alloc) ?_
       intro b13
       refine s_ef0 (ef_storeA rfl rfl rfl rfl) ?_
       refine s_pu (pu_assign rfl) ?_
       refine swl_sub _ (sc0 0 rfl (sc0 1 rfl (sc0 10 rfl (sc0 11 rfl (sc0 12 rfl (sc0 13 rfl (sc0 14 rfl .nil))))))) ?_
       refine swl_nil ?_
       refine then_n ?_
       refine swp_seq ?_
       generalize hta : comAt Wa.pl.2 ((k : Int) - 1) = ta at *
       generalize htb : comAt (SW.pl ⟨q, .slice A1 T.length c1, .slice A2 C.length c2, T, C, dead⟩).2 ((k : Int) - 1) = tb at *
       refine swp_share_own (μ := μk) (v := .slice A3 ta.1.1.length c3) (e := 3) (n := 1) sp0 fun μ' hl' hra => ?_
       refine swp_region ?_
       refine s_pu (pu_move rfl) ?_
       refine s_pu (pu_move rfl) ?_
       refine s_pu (pu_neq rfl rfl) ?_
       refine s_pu (pu_move rfl) ?_
       refine s_split 104 rfl (fun h104 => ?_) (fun h104 => ?_)
       ·skip
        refine s_off rfl rfl rfl ?_
        refine s_off rfl rfl rfl ?_
        refine s_off rfl rfl rfl ?_
        refine s_off rfl rfl rfl ?_
        refine s_pu (pu_pick_t rfl rfl) ?_
        refine swl_sub _ (sc0 0 rfl (sc0 1 rfl (sc0 10 rfl (sc0 109 rfl .nil)))) ?_
        refine swl_nil ?_
        refine then_n ?_
        refine swp_cond (b := _) rfl (fun h109 => ?_) (fun h109 => by cases h109)
        refine swp_seq ?_
        refine swp_region ?_
        refine s_pu (pu_assign rfl) ?_
        refine swl_sub _ (sc0 4 rfl .nil) ?_
        refine swl_nil ?_
        refine then_n ?_
        refine swp_ret ?_
        refine block_r ?_
        refine then_r ?_
        refine then_r ?_
        refine block_r ?_
        refine then_r ?_
        have hn : ¬ ta.2 = tb.2 := by simpa using h104
        exact done_ret [stH p Wa, ttA Wa, ccA Wa, rsH w ⟨q, .slice A1 T.length c1, .slice A2 C.length c2, T, C, dead⟩, ttA ⟨q, .slice A1 T.length c1, .slice A2 C.length c2, T, C, dead⟩, ccA ⟨q, .slice A1 T.length c1, .slice A2 C.length c2, T, C, dead⟩, ro μ'] (.tmp rfl .nil) ⟨μ', hle.trans hl', (sameW_no fun k => hn (by rw [← hta, ← htb, k.1])).symm, rfl⟩ sp0
       ·skip
        refine s_on rfl rfl ?_
        refine s_rd (rd_loadW rfl rfl) ?_
        refine s_on rfl rfl ?_
        refine s_rd (rd_loadW rfl rfl) ?_
        refine s_on rfl rfl ?_
        refine s_ef (ef_fn (samec_spec μ' (.slice A3 ta.1.1.length c3) (.slice A4 tb.1.1.length c4) ta.1 tb.1 hra (hrb.le hl')) rfl rfl sp0) ?_
        rintro v107 L1 ⟨rfl, rfl⟩
        refine swl_app ?_
        refine s_on rfl rfl ?_
        refine s_pu (pu_not rfl) ?_
        refine s_pu (pu_pick_f rfl rfl) ?_
        refine swl_sub _ (sc0 0 rfl (sc0 1 rfl (sc0 10 rfl (sc0 109 rfl .nil)))) ?_
        refine swl_nil ?_
        refine then_n ?_
        refine swp_cond (b := _) rfl (fun h109 => ?_) (fun h109 => ?_)
        ·skip
         refine swp_seq ?_
         refine swp_region ?_
         refine s_pu (pu_assign rfl) ?_
         refine swl_sub _ (sc0 4 rfl .nil) ?_
         refine swl_nil ?_
         refine then_n ?_
         refine swp_ret ?_
         refine block_r ?_
         refine then_r ?_
         refine then_r ?_
         refine block_r ?_
         refine then_r ?_
         have hn : ¬ ta.1 = tb.1 := by simpa using h109
         exact done_ret [stH p Wa, ttA Wa, ccA Wa, rsH w ⟨q, .slice A1 T.length c1, .slice A2 C.length c2, T, C, dead⟩, ttA ⟨q, .slice A1 T.length c1, .slice A2 C.length c2, T, C, dead⟩, ccA ⟨q, .slice A1 T.length c1, .slice A2 C.length c2, T, C, dead⟩, ro μ'] (.tmp rfl .nil) ⟨μ', hle.trans hl', (sameW_no fun k => hn (by rw [← hta, ← htb, k.1])).symm, rfl⟩ sp0
        ·skip
         refine swp_skip ?_
         refine block_n ?_
         refine then_n ?_
         refine swp_region ?_
         refine s_pu (pu_move rfl) ?_
         refine s_pu (pu_add_as (((k + 1 : Nat) : Int) - 1) rfl rfl om0 om0 om0) ?_
         refine s_pu (pu_assign rfl) ?_
         refine swl_sub _ (sc0 0 rfl (sc0 1 rfl (sc0 10 rfl .nil))) ?_
         refine swl_nil ?_
         have q2 : ta.2 = tb.2 := by simpa using h104
         have q1 : ta.1 = tb.1 := by simpa using h109
         refine then_n ⟨(k + 1, μ'), ⟨⟨rfl, rfl, rfl, trivial⟩, Split.ent' sp0, hle.trans hl', h86', fun j hj => ?_⟩, by show C.length + 2 - (k + 1) < C.length + 2 - k; omega⟩
         by_cases e : j = k
         ·subst e; rw [hta, htb]; exact Prod.ext q1 q2
         ·exact hlo j om0
      ·skip
       have h86' := of_decide_eq_false h86
       obtain rfl : k = C.length + 2 := by omega
       have hpC : Wa.pl.2 = (SW.pl ⟨q, .slice A1 T.length c1, .slice A2 C.length c2, T, C, dead⟩).2 := coms_eq (by rw [h2a, h2b, hnC]) (fun j hj => hlo j (by rw [h2a] at hj; omega))
       refine swp_exit ?_
       refine then_x ?_
       refine then_x ?_
       refine block_hit rfl ?_
       refine then_n ?_
       refine swp_seq ?_
       refine swp_region ?_
       refine s_pu (pu_assign rfl) ?_
       refine swl_sub _ (sc0 4 rfl .nil) ?_
       refine swl_nil ?_
       refine then_n ?_
       refine swp_ret ?_
       have hy : sameW Wa ⟨q, .slice A1 T.length c1, .slice A2 C.length c2, T, C, dead⟩ = true := by unfold sameW; exact decide_eq_true ⟨Prod.ext hpT hpC, hnd⟩
       exact done_ret [stH p Wa, ttA Wa, ccA Wa, rsH w ⟨q, .slice A1 T.length c1, .slice A2 C.length c2, T, C, dead⟩, ttA ⟨q, .slice A1 T.length c1, .slice A2 C.length c2, T, C, dead⟩, ccA ⟨q, .slice A1 T.length c1, .slice A2 C.length c2, T, C, dead⟩, ro μk] (.tmp rfl .nil) ⟨μk, hle, congrArg Value.bool hy.symm, rfl⟩ sp0
end SX
namespace SX
open Go Go.Proofs
/-- a disk with a log alone -/
abbrev lg (q : Int) (B : List UInt8) : Dk := one1 q logN ⟨B, B.length⟩ 0 false
theorem lg_write {q : Int} {B : List UInt8} {f : Fm} (h : (B.length : Int) + ((f.2.length + 9 : Nat) : Int) ≤ q) : writeD (lg q B) f = (lg q (B ++ encFm f), 0) := by
  have e : appendD (lg q B) logN (encFm f) = (one1 q logN ⟨B ++ encFm f, B.length⟩ 0 false, 0) := by
    rw [one_append (by show (B.length : Int) + (encFm f).length ≤ q; rw [encFm_len]; exact h)]; rfl
  unfold writeD
  rw [e, if_neg (fun k => k rfl)]
  rw [one_sync]
theorem lg_open (q : Int) : openD (newD q) = (lg q [], 0) := by
  have e1 : readD (newD q) logN = ([], 6) := rfl
  have e2 : createD (newD q) logN = (⟨q, [⟨[], 0⟩], [(logN, 0)], [], [⟨nos, logN, 0⟩], 0, false⟩, 0) := by kernel_rfl
  have e3 : freshD (newD q) = (lg q [], 0) := by
    unfold freshD
    rw [e2, if_neg (fun k => k rfl)]
    rfl
  unfold openD
  rw [e1, if_pos rfl]
  exact e3
theorem lg_openS (q : Int) : openS (newD q) = ([], []) := by
  have e1 : readD (newD q) logN = ([], 6) := rfl
  unfold openS
  rw [e1]
  rfl
theorem lg_addT {q : Int} {B : List UInt8} {s : St2} {t : List En} (h0 : encErr t = 0) (hn : s.1.length < 65536) (h : (B.length : Int) + (((encT t).length + 9 : Nat) : Int) ≤ q) :
    addT ⟨lg q B, s, false⟩ t = ((⟨lg q (B ++ encFm (1, encT t)), (s.1 ++ [t], s.2), false⟩ : PSt), ((s.1.length : Nat) : Int), (0 : Int)) := by
  have hw := lg_write (f := (1, encT t)) h
  unfold addT
  rw [addR_ok (x := ⟨lg q B, s, false⟩) rfl h0 hn (by rw [hw])]
  rw [hw]
theorem lg_addC {q : Int} {B : List UInt8} {s : St2} {c : Cm} (h0 : checkC c = 0) (h1 : knownS s.1.length s.2.length c = true) (hn : s.2.length < 65536) (h : (B.length : Int) + (((encC' c).length + 9 : Nat) : Int) ≤ q) :
    addC ⟨lg q B, s, false⟩ c = ((⟨lg q (B ++ encFm (2, encC' c)), (s.1, s.2 ++ [c]), false⟩ : PSt), ((s.2.length : Nat) : Int), (0 : Int)) := by
  have hw := lg_write (f := (2, encC' c)) h
  unfold addC
  rw [addR_ok (x := ⟨lg q B, s, false⟩) rfl (by rw [if_neg (not_not_intro h0), if_neg (by rw [h1]; decide)]) hn (by rw [hw])]
  rw [hw]
theorem settle_ok {d : Dk} (hd : d.Ok) (n len : Nat) : (settleD d n len).1.Ok := by
  rw [settle_two]
  split
  · exact settle2_ok hd n len
  · exact syncNamesD_ok (settle2_ok hd n len)
theorem fresh_ok {d : Dk} (hd : d.Ok) : (freshD d).1.Ok := by
  unfold freshD
  split
  · exact createD_ok hd _
  · exact syncNamesD_ok (createD_ok hd _)
theorem open_ok {d : Dk} (hd : d.Ok) : (openD d).1.Ok := by
  unfold openD
  split
  · exact fresh_ok hd
  · split
    · exact hd
    · exact settle_ok hd _ _
theorem addR_okD {x : PSt} {e0 : Int} {n : Nat} {f : Fm} {s' : St2} (h : x.d.Ok) : (addR x e0 n f s').1.d.Ok := by
  unfold addR
  repeat' split
  · exact h
  · exact h
  · exact h
  · exact writeD_ok h f
  · exact writeD_ok h f
theorem addT_ok {x : PSt} (h : x.d.Ok) (t : List En) : (addT x t).1.d.Ok := addR_okD h
theorem addC_ok {x : PSt} (h : x.d.Ok) (c : Cm) : (addC x c).1.d.Ok := addR_okD h
abbrev ta1 : List En := [(⟨#[97]⟩, 1)]
theorem ta1_err : encErr ta1 = 0 := by decide
theorem ta1_len : (encT ta1).length ≤ 300 := by
  have := encEs_len [] ta1 (fun e he => (check_paths (t := ta1) (by decide) e he).1)
  unfold encT
  rw [List.length_append, numB_len]
  have h1 : ta1.length = 1 := rfl
  omega
theorem encC_fit (c : Cm) (h : c.1.length ≤ 1) : (encC' c).length ≤ 9 := by
  unfold encC'
  simp only [List.length_append, numB_len, encPs_len]
  omega
theorem u32_ta1 : U32s ta1 := fun e he => by
  obtain rfl : e = (⟨#[97]⟩, 1) := by simpa using he
  exact ⟨by decide, by decide⟩
set_option maxHeartbeats 8000000 in
theorem opens_spec : Spec Tryz.prog 7 [] [] (fun r L => r = .bool true ∧ L = []) := by
 have hn0 : (newD 1000).Ok := newD_ok (by decide)
 have ho0 : (lg 1000 []).Ok := by have := open_ok hn0; rwa [lg_open] at this
 have hl1 := ta1_len
 have a1 := lg_addT (q := 1000) (B := []) (s := ([], [])) ta1_err (by decide) (by have := ta1_len; show (0 : Int) + _ ≤ 1000; omega)
 have b1 := encFm_len (1, encT ta1)
 generalize hB1 : ([] : List UInt8) ++ encFm (1, encT ta1) = B1 at a1
 have b1' : B1.length ≤ 309 := by rw [← hB1, List.nil_append, b1]; show (encT ta1).length + 9 ≤ 309; omega
 have ho1 : (lg 1000 B1).Ok := by have := addT_ok (x := ⟨lg 1000 [], ([], []), false⟩) ho0 ta1; rwa [a1] at this
 have a2 := lg_addC (q := 1000) (B := B1) (s := ([ta1], [])) (c := ([], 0)) (by decide) (by decide) (by decide) (by have := encC_fit ([], 0) (by decide); omega)
 generalize hB2 : B1 ++ encFm (2, encC' ([], 0)) = B2 at a2
 have b2' : B2.length ≤ 327 := by rw [← hB2, List.length_append, encFm_len]; have := encC_fit ([], 0) (by decide); show B1.length + ((encC' ([], 0)).length + 9) ≤ 327; omega
 have ho2 : (lg 1000 B2).Ok := by have := addC_ok (x := ⟨lg 1000 B1, ([ta1], []), false⟩) ho1 ([], 0); rwa [a2] at this
 have a3 := lg_addC (q := 1000) (B := B2) (s := ([ta1], [([], 0)])) (c := ([0], 0)) (by decide) (by decide) (by decide) (by have := encC_fit ([0], 0) (by decide); omega)
 generalize hB3 : B2 ++ encFm (2, encC' ([0], 0)) = B3 at a3
 have ho3 : (lg 1000 B3).Ok := by have := addC_ok (x := ⟨lg 1000 B2, ([ta1], [([], 0)]), false⟩) ho2 ([0], 0); rwa [a3] at this
 have a4 : addC ⟨lg 1000 B3, ([ta1], [([], 0), ([0], 0)]), false⟩ ([2], 0) = ((⟨lg 1000 B3, ([ta1], [([], 0), ([0], 0)]), false⟩ : PSt), (0 : Int), (9 : Int)) := by
  unfold addC
  exact addR_err rfl (by show (if checkC (([2], 0) : Cm) ≠ 0 then checkC (([2], 0) : Cm) else if knownS 1 2 (([2], 0) : Cm) = false then 9 else 0) ≠ 0; decide)
 refine Spec.of 90 Tryz.func7 rfl rfl rfl ?_
 refine swp_ent ent_roZ ?_
 generalize (fun _ => none : PH) = μ
 refine swp_seq ?_
 refine swp_region ?_
 refine s_pu (pu_assign rfl) ?_
 refine swl_sub _ .nil ?_
 refine swl_nil ?_
 refine then_n ?_
 refine swp_seq ?_
 refine swp_region ?_
 refine s_ef (ef_fn (new_spec 1000) rfl rfl sp0) ?_
 rintro v13 L1 hnw
 obtain ⟨q, rfl, rfl⟩ : ∃ q, v13 = .tuple #[pv q, .int .i64 0] ∧ L1 = [FSA q (newD 1000)] := by
  rcases hnw with ⟨h, _⟩ | ⟨_, q, h1, h2⟩
  ·exact absurd (show newOk 1000 from ⟨by decide, by decide⟩) h
  ·exact ⟨q, h1, h2⟩
 refine swl_app ?_
 refine s_pu (pu_move rfl) ?_
 refine s_pu (pu_extractL rfl) ?_
 refine s_pu (pu_extractL rfl) ?_
 refine s_pu (pu_assign rfl) ?_
 refine s_pu (pu_assign rfl) ?_
 refine swl_sub _ (sc0 1 rfl .nil) ?_
 refine swl_nil ?_
 refine then_n ?_
 refine swp_seq ?_
 refine swp_region ?_
 refine s_pu (pu_move rfl) ?_
 refine s_ef (ef_fn (open_spec μ q (newD 1000) hn0 ⟨by decide, by decide⟩) rfl rfl sp0) ?_
 rintro v18 L1 ⟨p, W0, μ0, e, hq, rfl, rfl⟩
 obtain ⟨l0, hW0, hq0, hd0, he, hpl⟩ := hq
 rw [lg_open] at he
 have he' : e = 0 := he
 subst he'
 have hpl0 : W0.pl = ([], []) := by rw [hpl rfl, lg_openS]
 rw [if_pos rfl, lg_open, ← hq0]
 refine swl_app ?_
 refine s_pu (pu_move rfl) ?_
 refine s_pu (pu_extractL rfl) ?_
 refine s_pu (pu_extractL rfl) ?_
 refine s_pu (pu_assign rfl) ?_
 refine s_pu (pu_assign rfl) ?_
 refine swl_sub _ (sc0 3 rfl (sc0 4 rfl .nil)) ?_
 refine swl_nil ?_
 refine then_n ?_
 refine swp_seq ?_
 refine swp_seq ?_
 refine swp_region ?_
 refine s_pu (pu_move rfl) ?_
 refine s_pu (pu_ptr_eq_nil rfl rfl) ?_
 refine s_pu (pu_move rfl) ?_
 refine s_split 23 rfl (fun h23 => by cases h23) (fun h23 => ?_)
 refine s_on rfl rfl ?_
 refine s_pu (pu_move rfl) ?_
 refine s_on rfl rfl ?_
 refine s_pu (pu_neq rfl rfl) ?_
 refine s_pu (pu_pick_f rfl rfl) ?_
 refine swl_sub _ (sc0 3 rfl (sc0 26 rfl .nil)) ?_
 refine swl_nil ?_
 refine then_n ?_
 refine swp_cond (b := _) rfl (fun h26 => by cases h26) (fun h26 => ?_)
 refine swp_skip ?_
 refine then_n ?_
 refine swp_seq ?_
 refine swp_region ?_
 refine s_pu (pu_move rfl) ?_
 refine s_pu (pu_bld (qs := [(0, _), (1, _)]) rfl) ?_
 refine s_ef (ef_bldS (qs := [(0, _)]) rfl rfl rfl) ?_
 intro b30
 refine swl_share (b := b30) (μ := μ0) sp0 fun μ1 l1 k1 => ?_
 have r1 := row_of_blk (n := 2) (l := 1) (cs := ens ta1) k1 (by rfl) (by decide)
 refine s_ef (ef_fn (addtree_spec μ1 p W0 (hW0.le l1) (lg 1000 []) ho0 (.slice (some ⟨b30, 0, none⟩) 1 1) ta1 r1 u32_ta1) rfl rfl sp0) ?_
 rintro v31 L1 ⟨W1, μ2, hq1, rfl⟩
 rw [hpl0, hd0, a1] at hq1
 rw [hpl0, hd0, a1]
 obtain ⟨l2, hW1, hqq1, hp1, hd1, rfl⟩ := hq1
 refine swl_app ?_
 replace hp1 : W1.pl = (([ta1], []) : St2) := hp1
 replace hd1 : W1.dead = false := hd1
 refine s_pu (pu_move rfl) ?_
 refine s_pu (pu_extractL rfl) ?_
 refine s_pu (pu_extractL rfl) ?_
 refine s_pu (pu_assign rfl) ?_
 refine s_pu (pu_assign rfl) ?_
 refine swl_sub _ (sc0 3 rfl (sc0 4 rfl (sc0 5 rfl .nil))) ?_
 refine swl_nil ?_
 refine then_n ?_
 refine swp_seq ?_
 refine swp_region ?_
 refine s_pu (pu_move rfl) ?_
 refine s_pu (pu_bld (qs := []) rfl) ?_
 refine s_ef (ef_fn (addcommit_spec μ2 p W1 hW1 (lg 1000 B1) ho1 (.slice none 0 0) ([], 0) (Row.nil _ _)) rfl rfl sp0) ?_
 rintro v37 L1 ⟨W2, μ3, hq2, rfl⟩
 rw [hp1, hd1, a2] at hq2
 rw [hp1, hd1, a2]
 obtain ⟨l3, hW2, hqq2, hp2, hd2, rfl⟩ := hq2
 refine swl_app ?_
 replace hp2 : W2.pl = (([ta1], [([], 0)]) : St2) := hp2
 replace hd2 : W2.dead = false := hd2
 refine s_pu (pu_move rfl) ?_
 refine s_pu (pu_extractL rfl) ?_
 refine s_pu (pu_extractL rfl) ?_
 refine s_pu (pu_assign rfl) ?_
 refine s_pu (pu_assign rfl) ?_
 refine swl_sub _ (sc0 3 rfl (sc0 4 rfl (sc0 5 rfl (sc0 6 rfl (sc0 7 rfl .nil))))) ?_
 refine swl_nil ?_
 refine then_n ?_
 refine swp_seq ?_
 refine swp_region ?_
 refine s_pu (pu_move rfl) ?_
 refine s_ef (ef_bldS (qs := [(0, _)]) rfl rfl rfl) ?_
 intro b42
 refine s_pu (pu_bld (qs := [(0, _)]) rfl) ?_
 refine swl_share (b := b42) (μ := μ3) sp0 fun μ4 l4 k4 => ?_
 have r4 := row_of_blk (n := 1) (l := 1) (cs := ([0] : List Int).flatMap (icsk .i64)) k4 (by rfl) (by decide)
 refine s_ef (ef_fn (addcommit_spec μ4 p W2 (hW2.le l4) (lg 1000 B2) ho2 (.slice (some ⟨b42, 0, none⟩) 1 1) ([0], 0) r4) rfl rfl sp0) ?_
 rintro v44 L1 ⟨W3, μ5, hq3, rfl⟩
 rw [hp2, hd2, a3] at hq3
 rw [hp2, hd2, a3]
 obtain ⟨l5, hW3, hqq3, hp3, hd3, rfl⟩ := hq3
 refine swl_app ?_
 replace hp3 : W3.pl = (([ta1], [([], 0), ([0], 0)]) : St2) := hp3
 replace hd3 : W3.dead = false := hd3
 refine s_pu (pu_move rfl) ?_
 refine s_pu (pu_extractL rfl) ?_
 refine s_pu (pu_extractL rfl) ?_
 refine s_pu (pu_assign rfl) ?_
 refine s_pu (pu_assign rfl) ?_
 refine swl_sub _ (sc0 3 rfl (sc0 4 rfl (sc0 5 rfl (sc0 6 rfl (sc0 7 rfl (sc0 8 rfl (sc0 9 rfl .nil))))))) ?_
 refine swl_nil ?_
 refine then_n ?_
 refine swp_seq ?_
 refine swp_region ?_
 refine s_pu (pu_move rfl) ?_
 refine s_ef (ef_bldS (qs := [(0, _)]) rfl rfl rfl) ?_
 intro b49
 refine s_pu (pu_bld (qs := [(0, _)]) rfl) ?_
 refine swl_share (b := b49) (μ := μ5) sp0 fun μ6 l6 k6 => ?_
 have r6 := row_of_blk (n := 1) (l := 1) (cs := ([2] : List Int).flatMap (icsk .i64)) k6 (by rfl) (by decide)
 refine s_ef (ef_fn (addcommit_spec μ6 p W3 (hW3.le l6) (lg 1000 B3) ho3 (.slice (some ⟨b49, 0, none⟩) 1 1) ([2], 0) r6) rfl rfl sp0) ?_
 rintro v51 L1 ⟨W4, μ7, hq4, rfl⟩
 rw [hp3, hd3] at hq4
 rw [a4] at hq4
 obtain ⟨l7, hW4, hqq4, hp4, hd4, rfl⟩ := hq4
 refine swl_app ?_
 replace hp4 : W4.pl = (([ta1], [([], 0), ([0], 0)]) : St2) := hp4
 have hC4 : W4.C.length = 2 := by rw [← pl_len2, hp4]; rfl
 have hT4 : W4.T.length = 1 := by rw [← pl_len1, hp4]; rfl
 refine s_pu (pu_move rfl) ?_
 refine s_pu (pu_extractL rfl) ?_
 refine s_pu (pu_extractL rfl) ?_
 refine s_pu (pu_assign rfl) ?_
 refine s_pu (pu_assign rfl) ?_
 refine swl_sub _ (sc0 3 rfl (sc0 4 rfl (sc0 5 rfl (sc0 6 rfl (sc0 7 rfl (sc0 8 rfl (sc0 9 rfl (sc0 11 rfl .nil)))))))) ?_
 refine swl_nil ?_
 refine then_n ?_
 refine swp_seq ?_
 refine swp_region ?_
 refine s_pu (pu_move rfl) ?_
 refine s_pu (pu_eql rfl rfl) ?_
 refine s_pu (pu_move rfl) ?_
 refine s_split 56 rfl (fun h56 => ?_) (fun h56 => by cases h56)
 refine s_on rfl rfl ?_
 refine s_pu (pu_move rfl) ?_
 refine s_on rfl rfl ?_
 refine s_pu (pu_eql rfl rfl) ?_
 refine s_pu (pu_pick_t rfl rfl) ?_
 refine s_pu (pu_move rfl) ?_
 refine s_split 60 rfl (fun h60 => ?_) (fun h60 => by cases h60)
 refine s_on rfl rfl ?_
 refine s_pu (pu_move rfl) ?_
 refine s_on rfl rfl ?_
 refine s_pu (pu_eql rfl rfl) ?_
 refine s_pu (pu_pick_t rfl rfl) ?_
 refine s_pu (pu_move rfl) ?_
 refine s_split 64 rfl (fun h64 => ?_) (fun h64 => by cases h64)
 refine s_on rfl rfl ?_
 refine s_pu (pu_move rfl) ?_
 refine s_on rfl rfl ?_
 refine s_pu (pu_eql rfl rfl) ?_
 refine s_pu (pu_pick_t rfl rfl) ?_
 refine s_pu (pu_move rfl) ?_
 refine s_split 68 rfl (fun h68 => ?_) (fun h68 => by cases h68)
 refine s_on rfl rfl ?_
 refine s_pu (pu_move rfl) ?_
 refine s_on rfl rfl ?_
 refine s_pu (pu_eql rfl rfl) ?_
 refine s_pu (pu_pick_t rfl rfl) ?_
 refine s_pu (pu_move rfl) ?_
 refine s_split 72 rfl (fun h72 => ?_) (fun h72 => by cases h72)
 refine s_on rfl rfl ?_
 refine s_pu (pu_move rfl) ?_
 refine s_on rfl rfl ?_
 refine s_pu (pu_eql rfl rfl) ?_
 refine s_pu (pu_pick_t rfl rfl) ?_
 refine s_pu (pu_move rfl) ?_
 refine s_split 76 rfl (fun h76 => ?_) (fun h76 => by cases h76)
 refine s_on rfl rfl ?_
 refine s_pu (pu_move rfl) ?_
 refine s_on rfl rfl ?_
 refine s_pu (pu_eql rfl rfl) ?_
 refine s_pu (pu_pick_t rfl rfl) ?_
 refine s_pu (pu_move rfl) ?_
 refine s_split 80 rfl (fun h80 => ?_) (fun h80 => by cases h80)
 refine s_on rfl rfl ?_
 refine s_pu (pu_move rfl) ?_
 refine s_on rfl rfl ?_
 refine s_ef (ef_fn (coms_spec p W4 μ7 hW4) rfl rfl sp0) ?_
 rintro v82 L1 ⟨rfl, rfl⟩
 refine swl_app ?_
 refine s_on rfl rfl ?_
 refine s_pu (pu_eql rfl rfl) ?_
 refine s_pu (pu_pick_t rfl rfl) ?_
 refine s_pu (pu_move rfl) ?_
 refine s_split 85 rfl (fun h85 => ?_) (fun h85 => by rw [hC4] at h85; cases h85)
 refine s_on rfl rfl ?_
 refine s_pu (pu_move rfl) ?_
 refine s_on rfl rfl ?_
 refine s_ef (ef_fn (trees_spec p W4 μ7 hW4) rfl rfl sp0) ?_
 rintro v87 L1 ⟨rfl, rfl⟩
 refine swl_app ?_
 refine s_on rfl rfl ?_
 refine s_pu (pu_eql rfl rfl) ?_
 refine s_pu (pu_pick_t rfl rfl) ?_
 refine s_pu (pu_assign rfl) ?_
 refine swl_sub _ (sc0 0 rfl .nil) ?_
 refine swl_nil ?_
 refine then_n ?_
 refine swp_ret ?_
 exact done_ret [] (.tmp rfl .nil) ⟨by rw [hT4]; rfl, rfl⟩ sp0
end SX
namespace SX
open Go Go.Proofs
end SX
namespace SX
open Go Go.Proofs
/-- the files behind a crash, as far as i names are done -/
def filesK (d : Dk) (ns : List Nm) (keep : List Int) (i : Nat) : List Fl := (List.range d.files.length).map fun k => if (ns.take i).any (fun x => decide (x.2 = k)) = true then cutF keep k (d.fl k) else ⟨[], 0⟩
theorem filesK_len (d : Dk) (ns : List Nm) (keep : List Int) (i : Nat) : (filesK d ns keep i).length = d.files.length := by unfold filesK; simp
theorem filesK_zero (d : Dk) (ns : List Nm) (keep : List Int) : (filesK d ns keep 0).flatMap rF1 = (List.replicate d.files.length ()).flatMap fun _ => [.string ⟨#[]⟩, .int .i64 0] := by
  have e : filesK d ns keep 0 = List.replicate d.files.length ⟨[], 0⟩ := by
    unfold filesK
    rw [List.eq_replicate_iff]
    refine ⟨by simp, fun f hf => ?_⟩
    obtain ⟨k, _, rfl⟩ := List.mem_map.1 hf
    simp
  rw [e]
  generalize d.files.length = n
  induction n with
  | zero => rfl
  | succ n ih => rw [List.replicate_succ, List.replicate_succ, List.flatMap_cons, List.flatMap_cons, ih]; rfl
theorem filesK_succ {d : Dk} {ns : List Nm} {keep : List Int} {i : Nat} {y : Nm} (h : ns[i]? = some y) : filesK d ns keep (i + 1) = (filesK d ns keep i).set y.2 (cutF keep y.2 (d.fl y.2)) := by
  apply List.ext_getElem?
  intro k
  by_cases hk : k < d.files.length
  · have e1 : (filesK d ns keep (i + 1))[k]? = some (if (ns.take (i + 1)).any (fun x => decide (x.2 = k)) = true then cutF keep k (d.fl k) else ⟨[], 0⟩) := by
      unfold filesK; rw [List.getElem?_map, List.getElem?_range hk]; rfl
    have e2 : (filesK d ns keep i)[k]? = some (if (ns.take i).any (fun x => decide (x.2 = k)) = true then cutF keep k (d.fl k) else ⟨[], 0⟩) := by
      unfold filesK; rw [List.getElem?_map, List.getElem?_range hk]; rfl
    rw [e1]
    have e3 : (ns.take (i + 1)).any (fun x => decide (x.2 = k)) = ((ns.take i).any (fun x => decide (x.2 = k)) || decide (y.2 = k)) := by
      rw [List.take_add_one, h, List.any_append]; simp
    rw [e3]
    by_cases e : y.2 = k
    · subst e
      rw [List.getElem?_set_self (by rw [filesK_len]; exact hk), if_pos (by simp)]
    · rw [List.getElem?_set_ne e, e2, show decide (y.2 = k) = false from decide_eq_false e, Bool.or_false]
  · rw [List.getElem?_eq_none (by rw [filesK_len]; omega), List.getElem?_eq_none (by rw [List.length_set, filesK_len]; omega)]
theorem filesK_all (d : Dk) (n : Int) (keep : List Int) : filesK d (namesAt d n) keep (namesAt d n).length = (crashD d n keep).files := by
  unfold filesK crashD
  rw [List.take_length]
theorem chg_nos {n : Nat} {l : List Nm} (h : NmOk n l) : chgN l ⟨nos, nos, 0⟩ = l := by
  unfold chgN
  rw [if_pos (strEq_refl _), List.append_nil]
  refine List.filter_eq_self.2 fun y hy => ?_
  unfold keepN
  rw [goodN_ne (h.good y hy).1]; rfl
set_option maxHeartbeats 8000000 in
theorem rcrash_spec (μ : PH) (p : Nat) (d : Dk) (hd : d.Ok) (hw : Few d) (n : Int) (kv : Value) (keep : List Int) (hk : Row μ kv 1 keep.length (keep.flatMap (icsk .i64))) :
  Spec Tryz.prog 62 [pv p, .agg #[.int .i64 n, kv]] [RDA p d, ro μ] (fun _ L => L = [RDA p (crashD d n keep), ro μ]) := by
 refine RDA.open' fun ⟨fv, sv, av, wv⟩ => ?_
 have hff := hw.1
 have hpp := hw.2
 have hal : d.safe.length ≤ 64 := hd.hist 0
 obtain ⟨KK, hKK⟩ : ∃ K, K = min (max n 0).toNat d.pend.length := ⟨_, rfl⟩
 refine Spec.of 124 Tryz.func62 rfl rfl rfl ?_
 refine swp_seq ?_
 refine swp_region ?_
 refine s_ef (ef_box rfl rfl) ?_
 intro b3
 refine swl_sub _ (sc0 0 rfl (sc0 3 rfl .nil)) ?_
 refine swl_nil ?_
 refine then_n ?_
 refine swp_seq ?_
 refine swp_region ?_
 refine s_pu (pu_move rfl) ?_
 refine s_pu (pu_nilCheck rfl) ?_
 refine s_pu (pu_fieldAddr0 rfl) ?_
 refine s_rd (rd_load rfl rfl) ?_
 refine s_pu (pu_bld (qs := []) rfl) ?_
 refine s_ef (ef_fn (changed_spec av d.safe om0 ⟨nos, nos, 0⟩) rfl rfl sp0) ?_
 rintro v16 L1 ⟨_, rfl⟩
 rw [chg_nos hd.safe]
 refine swl_app ?_
 refine s_pu (pu_assign rfl) ?_
 refine swl_sub _ (sc0 0 rfl (sc0 3 rfl (sc0 4 rfl .nil))) ?_
 refine swl_nil ?_
 refine then_n ?_
 refine swp_cut (fun env L => ∃ u, Sub env [(0, pv p), (3, pv b3), (4, u)] ∧ Ent L [own 138 2 u (namesAt d n).length ((namesAt d n).flatMap rN1), blk p 92 (rdC d.quota fv sv av wv d.falls d.off), own 96 2 fv d.files.length (d.files.flatMap rF1), blk b3 63 [.int .i64 n, kv], ro μ]) ?_ ?_
 ·skip
  refine swp_seq ?_
  refine swp_region ?_
  refine s_pu (pu_assign rfl) ?_
  refine swl_sub _ (sc0 0 rfl (sc0 3 rfl (sc0 4 rfl (sc0 5 rfl .nil)))) ?_
  refine swl_nil ?_
  refine then_n ?_
  refine swp_block ?_
  refine swp_loop (ι := Nat) (fun i env L => ∃ u, Sub env [(0, pv p), (3, pv b3), (4, u), (5, .int .i64 (i : Nat))] ∧ Ent L [own 99 3 wv d.pend.length (d.pend.flatMap rC1), own 138 2 u (namesK d i).length ((namesK d i).flatMap rN1), blk p 92 (rdC d.quota fv sv av wv d.falls d.off), own 96 2 fv d.files.length (d.files.flatMap rF1), own 138 2 sv d.seen.length (d.seen.flatMap rN1), blk b3 63 [.int .i64 n, kv], ro μ] ∧ i ≤ KK) (fun i => KK - i) 0 ⟨v16, ⟨rfl, rfl, rfl, rfl, trivial⟩, (show Ent _ [own 99 3 wv d.pend.length (d.pend.flatMap rC1), own 138 2 v16 d.safe.length (d.safe.flatMap rN1), blk p 92 (rdC d.quota fv sv av wv d.falls d.off), own 96 2 fv d.files.length (d.files.flatMap rF1), own 138 2 sv d.seen.length (d.seen.flatMap rN1), blk b3 63 [.int .i64 n, kv], ro μ] from Split.ent' sp0), Nat.zero_le _⟩ ?_
  rintro i env L ⟨u, hsub, hE, hi⟩
  refine swp_sub _ hsub ?_
  refine swp_ent hE ?_
  clear hsub hE env L
  refine swp_fact (fun m h => own_form h) fun hform => ?_
  have hnl : (namesK d i).length ≤ 64 := hd.hist i
  refine swp_seq ?_
  refine swp_seq ?_
  refine swp_region ?_
  refine s_pu (pu_move rfl) ?_
  refine s_pu (pu_move rfl) ?_
  refine s_pu (pu_nilCheck rfl) ?_
  refine s_pu (pu_fieldAddr0 rfl) ?_
  refine s_rd (rd_load rfl rfl) ?_
  refine s_pu (pu_len_own hform rfl) ?_
  refine s_pu (pu_lss rfl rfl) ?_
  refine s_pu (pu_move rfl) ?_
  refine s_split 24 rfl (fun h24 => ?_) (fun h24 => ?_)
  ·skip
   refine s_on rfl rfl ?_
   refine s_pu (pu_move rfl) ?_
   refine s_on rfl rfl ?_
   refine s_pu (pu_fieldAddr0 rfl) ?_
   refine s_on rfl rfl ?_
   refine s_rd (rd_load rfl rfl) ?_
   refine s_on rfl rfl ?_
   refine s_pu (pu_lss rfl rfl) ?_
   refine s_pu (pu_pick_t rfl rfl) ?_
   refine swl_sub _ (sc0 0 rfl (sc0 3 rfl (sc0 4 rfl (sc0 5 rfl (sc0 29 rfl .nil))))) ?_
   refine swl_nil ?_
   refine then_n ?_
   refine swp_cond (b := _) rfl (fun h29 => ?_) (fun h29 => ?_)
   ·skip
    have h24' := of_decide_eq_true h24
    have h29' := of_decide_eq_true h29
    have hip : i < d.pend.length := by omega
    have hik : i < KK := by omega
    refine swp_fact (fun m h => own_pos h om0) fun ⟨b, c, hwv, hlc, hcm⟩ => ?_
    subst hwv
    obtain ⟨cg, hcg⟩ : ∃ q, d.pend[i]? = some q := ⟨_, List.getElem?_eq_getElem hip⟩
    have hat := flat_at (f := rC1) (n := 3) (fun _ => rfl) hcg
    refine swp_skip ?_
    refine then_n ?_
    refine swp_seq ?_
    refine swp_block ?_
    refine swp_region ?_
    refine s_pu (pu_move rfl) ?_
    refine s_pu (pu_move rfl) ?_
    refine s_pu (pu_nilCheck rfl) ?_
    refine s_pu (pu_fieldAddr0 rfl) ?_
    refine s_rd (rd_load rfl rfl) ?_
    refine s_pu (pu_move rfl) ?_
    refine s_pu (pu_indexAddr (0 + i * 3) rfl rfl om0 om0 (by rw [Int.toNat_natCast])) ?_
    refine s_rd (rd_ownA (vs := rC1 cg) rfl tk0 rfl (fun j v hj => by rw [Nat.zero_add]; exact hat j v hj)) ?_
    refine s_ef (ef_fn (changed_spec u (namesK d i) om0 cg) rfl rfl sp0) ?_
    rintro v40 L1 ⟨_, rfl⟩
    refine swl_app ?_
    refine s_pu (pu_assign rfl) ?_
    refine swl_sub _ (sc0 0 rfl (sc0 3 rfl (sc0 4 rfl (sc0 5 rfl .nil)))) ?_
    refine swl_nil ?_
    refine block_n ?_
    refine then_n ?_
    refine swp_region ?_
    refine s_pu (pu_move rfl) ?_
    refine s_pu (pu_add_as ((i + 1 : Nat) : Int) rfl rfl om0 om0 om0) ?_
    refine s_pu (pu_assign rfl) ?_
    refine swl_sub _ (sc0 0 rfl (sc0 3 rfl (sc0 4 rfl (sc0 5 rfl .nil)))) ?_
    refine swl_nil ?_
    refine then_n ⟨i + 1, ⟨v40, ⟨rfl, rfl, rfl, rfl, trivial⟩, ?_, hik⟩, by omega⟩
    rw [namesK_step hcg]
    exact Split.ent' sp0
   ·skip
    refine swp_exit ?_
    refine then_x ?_
    refine then_x ?_
    refine block_hit rfl ?_
    have hik : i = KK := by
     have h1 : d.pend.length ≤ i ∨ n ≤ i := by
      first
       | (have h29' := of_decide_eq_false h29; exact .inr om0)
       | (have h24' := of_decide_eq_false h24; exact .inl om0)
     omega
    have hns : namesK d i = namesAt d n := by rw [hik, hKK]; rfl
    rw [hns]
    exact then_n ⟨u, ⟨rfl, rfl, rfl, trivial⟩, Split.ent' sp0⟩
  ·skip
   refine s_off rfl rfl rfl ?_
   refine s_off rfl rfl rfl ?_
   refine s_off rfl rfl rfl ?_
   refine s_off rfl rfl rfl ?_
   refine s_pu (pu_pick_f rfl rfl) ?_
   refine swl_sub _ (sc0 0 rfl (sc0 3 rfl (sc0 4 rfl (sc0 5 rfl (sc0 29 rfl .nil))))) ?_
   refine swl_nil ?_
   refine then_n ?_
   refine swp_cond (b := _) rfl (fun h29 => by cases h29) (fun h29 => ?_)
   refine swp_exit ?_
   refine then_x ?_
   refine then_x ?_
   refine block_hit rfl ?_
   have hik : i = KK := by
    have h1 : d.pend.length ≤ i ∨ n ≤ i := by
     first
      | (have h29' := of_decide_eq_false h29; exact .inr om0)
      | (have h24' := of_decide_eq_false h24; exact .inl om0)
    omega
   have hns : namesK d i = namesAt d n := by rw [hik, hKK]; rfl
   rw [hns]
   exact then_n ⟨u, ⟨rfl, rfl, rfl, trivial⟩, Split.ent' sp0⟩
 rintro env L ⟨u, hsub, hE⟩
 refine swp_sub _ hsub ?_
 refine swp_ent hE ?_
 clear hsub hE env L
 have hnl : (namesAt d n).length ≤ 64 := hd.hist _
 have hno : NmOk d.files.length (namesAt d n) := by rw [namesAt_eq]; exact namesK_ok hd _
 have hfin := filesK_all d n keep
 have hz0 := filesK_zero d (namesAt d n) keep
 refine swp_fact (fun m h => own_cap2 h) fun ⟨A1, c1, hu, hlc1, hcm1, hA1, hA2⟩ => ?_
 simp only [maxLen] at hcm1
 subst hu
 refine swp_ent (Split.ent' (K := [own 96 2 fv d.files.length (d.files.flatMap rF1), own 138 2 (.slice A1 (namesAt d n).length c1) (namesAt d n).length ((namesAt d n).flatMap rN1), blk p 92 (rdC d.quota fv sv av wv d.falls d.off), blk b3 63 [.int .i64 n, kv], ro μ]) sp0) ?_
 refine swp_fact (fun m h => own_form h) fun hfform => ?_
 refine swp_seq ?_
 refine swp_region ?_
 refine s_pu (pu_move rfl) ?_
 refine s_pu (pu_nilCheck rfl) ?_
 refine s_pu (pu_fieldAddr0 rfl) ?_
 refine s_rd (rd_load rfl rfl) ?_
 refine s_pu (pu_len_own hfform rfl) ?_
 refine s_ef (ef_makeN d.files.length rfl rfl rfl om0 (by simp only [maxLen]; omega)) ?_
 rintro b46
 skip
 refine s_pu (pu_assign rfl) ?_
 refine swl_sub _ (sc0 0 rfl (sc0 3 rfl (sc0 4 rfl (sc0 6 rfl .nil)))) ?_
 refine swl_nil ?_
 refine then_n ?_
 refine swp_seq ?_
 refine swp_seq ?_
 refine swp_region ?_
 refine s_pu (pu_assign rfl) ?_
 refine swl_sub _ (sc0 0 rfl (sc0 3 rfl (sc0 4 rfl (sc0 6 rfl (sc0 7 rfl .nil))))) ?_
 refine swl_nil ?_
 refine then_n ?_
 refine swp_block ?_
 rw [← hz0]
 refine swp_ent (Split.ent' (K := [own 96 2 (.slice (some ⟨b46, 0, none⟩) d.files.length d.files.length) d.files.length ((filesK d (namesAt d n) keep 0).flatMap rF1), own 96 2 fv d.files.length (d.files.flatMap rF1), own 138 2 (.slice A1 (namesAt d n).length c1) (namesAt d n).length ((namesAt d n).flatMap rN1), blk p 92 (rdC d.quota fv sv av wv d.falls d.off), blk b3 63 [.int .i64 n, kv], ro μ]) sp0) ?_
 refine swp_loop (ι := Nat) (fun i env L => Sub env [(0, pv p), (3, pv b3), (4, .slice A1 (namesAt d n).length c1), (6, .slice (some ⟨b46, 0, none⟩) d.files.length d.files.length), (7, .int .i64 (i : Nat))] ∧ Ent L [own 96 2 fv d.files.length (d.files.flatMap rF1), own 96 2 (.slice (some ⟨b46, 0, none⟩) d.files.length d.files.length) d.files.length ((filesK d (namesAt d n) keep i).flatMap rF1), own 138 2 (.slice A1 (namesAt d n).length c1) (namesAt d n).length ((namesAt d n).flatMap rN1), blk p 92 (rdC d.quota fv sv av wv d.falls d.off), blk b3 63 [.int .i64 n, kv], ro μ] ∧ i ≤ (namesAt d n).length) (fun i => (namesAt d n).length - i) 0 ⟨⟨rfl, rfl, rfl, rfl, rfl, trivial⟩, Split.ent' sp0, Nat.zero_le _⟩ ?_
 rintro i env L ⟨hsub, hE, hi⟩
 refine swp_sub _ hsub ?_
 refine swp_ent hE ?_
 clear hsub hE env L
 refine swp_seq ?_
 refine swp_seq ?_
 refine swp_region ?_
 refine s_pu (pu_move rfl) ?_
 refine s_pu (pu_move rfl) ?_
 refine s_pu (pu_len rfl) ?_
 refine s_pu (pu_lss rfl rfl) ?_
 refine swl_sub _ (sc0 0 rfl (sc0 3 rfl (sc0 4 rfl (sc0 6 rfl (sc0 7 rfl (sc0 50 rfl .nil)))))) ?_
 refine swl_nil ?_
 refine then_n ?_
 refine swp_cond (b := _) rfl (fun h50 => ?_) (fun h50 => ?_)
 ·skip
  have h50' : i < (namesAt d n).length := by have := of_decide_eq_true h50; omega
  obtain ⟨a, ha⟩ : ∃ a, A1 = some a := by cases A1 with | none => have := hA1 rfl; omega | some a => exact ⟨a, rfl⟩
  obtain ⟨b, rfl⟩ := hA2 a ha
  subst ha
  obtain ⟨y, hy⟩ : ∃ y, (namesAt d n)[i]? = some y := ⟨_, List.getElem?_eq_getElem h50'⟩
  have hcell := flat_at (f := rN1) (n := 2) (fun _ => rfl) hy 1 _ rfl
  have hj : y.2 < d.files.length := (hno.good y (List.mem_of_getElem? hy)).2
  have hat := flat_at (f := rF1) (n := 2) (fun _ => rfl) (fl_at hj)
  have hok := Dk.fl_ok hd y.2
  simp only [mostF] at hok
  have hmo := moreF_le keep y.2 (d.fl y.2) hok.2
  refine swp_fact (fun m h => own_pos h om0) fun ⟨b2, c2, hfv, hlc2, hcm2⟩ => ?_
  subst hfv
  refine swp_skip ?_
  refine then_n ?_
  refine swp_seq ?_
  refine swp_block ?_
  refine swp_seq ?_
  refine swp_region ?_
  refine s_pu (pu_move rfl) ?_
  refine s_pu (pu_move rfl) ?_
  refine s_pu (pu_indexAddr (0 + i * 2) rfl rfl om0 om0 (by rw [Int.toNat_natCast])) ?_
  refine s_pu (pu_fieldAddr rfl) ?_
  refine s_rd (rd_own rfl tk0 (by rw [Nat.zero_add]; exact hcell)) ?_
  refine s_pu (pu_assign rfl) ?_
  refine swl_sub _ (sc0 0 rfl (sc0 3 rfl (sc0 4 rfl (sc0 6 rfl (sc0 7 rfl (sc0 8 rfl .nil)))))) ?_
  refine swl_nil ?_
  refine then_n ?_
  refine swp_seq ?_
  refine swp_region ?_
  refine s_pu (pu_move rfl) ?_
  refine s_pu (pu_nilCheck rfl) ?_
  refine s_pu (pu_fieldAddr0 rfl) ?_
  refine s_rd (rd_load rfl rfl) ?_
  refine s_pu (pu_move rfl) ?_
  refine s_pu (pu_indexAddr (0 + y.2 * 2) rfl rfl om0 om0 (by rw [Int.toNat_natCast])) ?_
  refine s_rd (rd_ownA (vs := rF1 (d.fl y.2)) rfl tk0 rfl (fun j v hj => by rw [Nat.zero_add]; exact hat j v hj)) ?_
  refine s_ef (ef_alloc) ?_
  intro b9
  refine s_ef0 (ef_storeA rfl rfl rfl rfl) ?_
  refine swl_sub _ (sc0 0 rfl (sc0 3 rfl (sc0 4 rfl (sc0 6 rfl (sc0 7 rfl (sc0 8 rfl (sc0 9 rfl .nil))))))) ?_
  refine swl_nil ?_
  refine then_n ?_
  refine swp_seq ?_
  refine swp_region ?_
  refine s_pu (pu_assign rfl) ?_
  refine swl_sub _ (sc0 0 rfl (sc0 3 rfl (sc0 4 rfl (sc0 6 rfl (sc0 7 rfl (sc0 8 rfl (sc0 9 rfl (sc0 10 rfl .nil)))))))) ?_
  refine swl_nil ?_
  refine then_n ?_
  refine swp_cut (fun env L => Sub env [(0, pv p), (3, pv b3), (4, .slice (some ⟨b, 0, none⟩) (namesAt d n).length c1), (6, .slice (some ⟨b46, 0, none⟩) d.files.length d.files.length), (7, .int .i64 (i : Nat)), (8, .int .i64 (y.2 : Nat)), (9, pv b9), (10, .int .i64 (moreF keep y.2 (d.fl y.2) : Nat))] ∧ Ent L [own 96 2 (.slice (some ⟨b2, 0, none⟩) d.files.length c2) d.files.length (d.files.flatMap rF1), own 96 2 (.slice (some ⟨b46, 0, none⟩) d.files.length d.files.length) d.files.length ((filesK d (namesAt d n) keep i).flatMap rF1), own 138 2 (.slice (some ⟨b, 0, none⟩) (namesAt d n).length c1) (namesAt d n).length ((namesAt d n).flatMap rN1), blk p 92 (rdC d.quota (.slice (some ⟨b2, 0, none⟩) d.files.length c2) sv av wv d.falls d.off), blk b3 63 [.int .i64 n, kv], blk b9 96 (rF1 (d.fl y.2)), ro μ]) ?_ ?_
  ·skip
   refine swp_seq ?_
   refine swp_region ?_
   refine s_pu (pu_fieldAddr0 rfl) ?_
   refine s_rd (rd_load rfl rfl) ?_
   refine s_pu (pu_len_row hk rfl) ?_
   refine s_pu (pu_gtr rfl rfl) ?_
   refine swl_sub _ (sc0 0 rfl (sc0 3 rfl (sc0 4 rfl (sc0 6 rfl (sc0 7 rfl (sc0 8 rfl (sc0 9 rfl (sc0 10 rfl (sc0 68 rfl .nil))))))))) ?_
   refine swl_nil ?_
   refine then_n ?_
   refine swp_cond (b := _) rfl (fun h68 => ?_) (fun h68 => ?_)
   ·skip
    have h68' : 0 < keep.length := by have := of_decide_eq_true h68; omega
    have hjj : y.2 % keep.length < keep.length := Nat.mod_lt _ h68'
    obtain ⟨kb, ko, kc, hkv, hkc, hkm, hkr⟩ := hk.pos h68'
    have hkj : keep[y.2 % keep.length]? = some keep[y.2 % keep.length] := List.getElem?_eq_getElem hjj
    have hkcell := (hkr.elem (f := icsk .i64) (n := 1) (fun _ => rfl) hkj).cell
    have hts := tsize (d.fl y.2).bytes
    refine swp_draw [1, 4, 8, 11, 14] _ [] (by simp only [List.append_nil]; exact Ent.refl _) kr0 ?_
    refine d_pu 0 rfl (pu_fieldAddr0 rfl) kr0 kr0 kr0 ?_
    refine d_rd 1 rfl (rd_load rfl rfl) rfl kr0 kr0 kr0 ?_
    refine d_pu 2 rfl (pu_move rfl) kr0 kr0 kr0 ?_
    refine d_pu 3 rfl (pu_fieldAddr0 rfl) kr0 kr0 kr0 ?_
    refine d_rd 4 rfl (rd_load rfl rfl) rfl kr0 kr0 kr0 ?_
    refine d_pu 5 rfl (pu_len_row hk rfl) kr0 kr0 kr0 ?_
    refine d_pu 6 rfl (pu_rem_nat rfl rfl h68') kr0 kr0 kr0 ?_
    refine d_pu 7 rfl (pu_indexAddr (ko + (y.2 % keep.length) * 1) (congrArg some hkv) rfl om0 om0 (by rw [Int.toNat_natCast])) kr0 kr0 kr0 ?_
    refine d_rd 8 rfl (rd_ro rfl hkcell) rfl kr0 kr0 kr0 ?_
    refine d_pu 9 rfl (pu_max2 rfl rfl) kr0 kr0 kr0 ?_
    refine d_pu 10 rfl (pu_fieldAddr0 rfl) kr0 kr0 kr0 ?_
    refine d_rd 11 rfl (rd_load rfl rfl) rfl kr0 kr0 kr0 ?_
    refine d_pu 12 rfl (pu_strlen rfl) kr0 kr0 kr0 ?_
    refine d_pu 13 rfl (pu_fieldAddr0 rfl) kr0 kr0 kr0 ?_
    refine d_rd 14 rfl (rd_load rfl rfl) rfl kr0 kr0 kr0 ?_
    refine d_pu 15 rfl (pu_sub_as (((d.fl y.2).bytes.length : Int) - (d.fl y.2).safe) rfl rfl (by rw [hts]) om0 om0) kr0 kr0 kr0 ?_
    refine d_pu 16 rfl (pu_min2 rfl rfl) kr0 kr0 kr0 ?_
    refine d_pu 17 rfl (pu_assign rfl) kr0 kr0 kr0 ?_
    refine d_sub _ (sc0 0 rfl (sc0 3 rfl (sc0 4 rfl (sc0 6 rfl (sc0 7 rfl (sc0 8 rfl (sc0 9 rfl (sc0 10 rfl .nil)))))))) ?_
    refine d_nilt kr0 ?_
    refine then_n ⟨⟨rfl, rfl, rfl, rfl, rfl, rfl, rfl, ?_, trivial⟩, Split.ent' sp0⟩
    have e1 : ((moreF keep y.2 (d.fl y.2) : Nat) : Int) = min (max keep[y.2 % keep.length] 0) (((d.fl y.2).bytes.length : Int) - (d.fl y.2).safe) := by
     unfold moreF; rw [if_neg om0, hkj, Option.getD_some]; omega
    rw [e1]; rfl
   ·skip
    refine swp_skip ?_
    have h68' : keep.length = 0 := by have := of_decide_eq_false h68; omega
    refine then_n ⟨⟨rfl, rfl, rfl, rfl, rfl, rfl, rfl, ?_, trivial⟩, Split.ent' sp0⟩
    have e1 : moreF keep y.2 (d.fl y.2) = 0 := by unfold moreF; rw [if_pos h68']
    rw [e1]; rfl
  rintro env L ⟨hsub, hE⟩
  refine swp_sub _ hsub ?_
  refine swp_ent hE ?_
  clear hsub hE env L
  have hfl : ((filesK d (namesAt d n) keep i).flatMap rF1).length = d.files.length * 2 := by rw [flat_length (f := rF1) (k := 2) (fun _ => rfl), filesK_len]
  refine swp_draw [3, 5, 10] _ [] (by simp only [List.append_nil]; exact Ent.refl _) kr0 ?_
  refine d_pu 0 rfl (pu_move rfl) kr0 kr0 kr0 ?_
  refine d_pu 1 rfl (pu_move rfl) kr0 kr0 kr0 ?_
  refine d_pu 2 rfl (pu_fieldAddr0 rfl) kr0 kr0 kr0 ?_
  refine d_rd 3 rfl (rd_load rfl rfl) rfl kr0 kr0 kr0 ?_
  refine d_pu 4 rfl (pu_fieldAddr0 rfl) kr0 kr0 kr0 ?_
  refine d_rd 5 rfl (rd_load rfl rfl) rfl kr0 kr0 kr0 ?_
  refine d_pu 6 rfl (pu_move rfl) kr0 kr0 kr0 ?_
  refine d_pu 7 rfl (pu_add_as (((d.fl y.2).safe + moreF keep y.2 (d.fl y.2) : Nat) : Int) rfl rfl om0 om0 om0) kr0 kr0 kr0 ?_
  refine d_pu 8 rfl (pu_str_hi ((d.fl y.2).safe + moreF keep y.2 (d.fl y.2)) rfl rfl rfl (by rw [tsize]; exact hmo)) kr0 kr0 kr0 ?_
  refine d_pu 9 rfl (pu_fieldAddr0 rfl) kr0 kr0 kr0 ?_
  refine d_rd 10 rfl (rd_load rfl rfl) rfl kr0 kr0 kr0 ?_
  refine d_pu 11 rfl (pu_move rfl) kr0 kr0 kr0 ?_
  refine d_pu 12 rfl (pu_add_as (((d.fl y.2).safe + moreF keep y.2 (d.fl y.2) : Nat) : Int) rfl rfl om0 om0 om0) kr0 kr0 kr0 ?_
  refine d_pu 13 rfl (pu_bld (qs := [(0, _), (1, _)]) rfl) kr0 kr0 kr0 ?_
  refine d_pu 14 rfl (pu_indexAddr (0 + y.2 * 2) rfl rfl om0 om0 (by rw [Int.toNat_natCast])) kr0 kr0 kr0 ?_
  refine d_fin0t 15 rfl kr0 kr0 (ef_store_ownA (vs := rF1 (cutF keep y.2 (d.fl y.2))) rfl (by rw [ext_take']; rfl) sp0 (by rw [hfl]; show 0 + y.2 * 2 + 2 ≤ _; omega) rfl rfl) ?_
  refine d_sub _ (sc0 0 rfl (sc0 3 rfl (sc0 4 rfl (sc0 6 rfl (sc0 7 rfl .nil))))) ?_
  refine d_nilf kr0 ?_
  refine block_n ?_
  refine then_n ?_
  refine swp_region ?_
  refine s_pu (pu_move rfl) ?_
  refine s_pu (pu_add_as ((i + 1 : Nat) : Int) rfl rfl om0 om0 om0) ?_
  refine s_pu (pu_assign rfl) ?_
  refine swl_sub _ (sc0 0 rfl (sc0 3 rfl (sc0 4 rfl (sc0 6 rfl (sc0 7 rfl .nil))))) ?_
  refine swl_nil ?_
  rw [Nat.zero_add, flat_over2 (f := rF1) (n := 2) (fun _ => rfl) (show y.2 < (filesK d (namesAt d n) keep i).length by rw [filesK_len]; exact hj), ← filesK_succ hy]
  exact then_n ⟨i + 1, ⟨⟨rfl, rfl, rfl, rfl, rfl, trivial⟩, Split.ent' sp0, h50'⟩, by omega⟩
 ·skip
  have h50' : i = (namesAt d n).length := by have := of_decide_eq_false h50; omega
  subst h50'
  rw [hfin]
  refine swp_exit ?_
  refine then_x ?_
  refine then_x ?_
  refine block_hit rfl ?_
  refine then_n ?_
  refine swp_seq ?_
  refine swp_region ?_
  refine s_pu (pu_move rfl) ?_
  refine s_pu (pu_move rfl) ?_
  refine s_pu (pu_nilCheck rfl) ?_
  refine s_pu (pu_fieldAddr0 rfl) ?_
  refine s_ef0 (ef_store rfl rfl rfl) ?_
  refine swl_sub _ (sc0 0 rfl (sc0 4 rfl .nil)) ?_
  refine swl_nil ?_
  refine then_n ?_
  refine swp_seq ?_
  refine swp_region ?_
  refine s_pu (pu_move rfl) ?_
  refine s_pu (pu_move rfl) ?_
  refine s_pu (pu_nilCheck rfl) ?_
  refine s_pu (pu_fieldAddr0 rfl) ?_
  refine s_ef0 (ef_store rfl rfl rfl) ?_
  refine swl_sub _ (sc0 0 rfl (sc0 4 rfl .nil)) ?_
  refine swl_nil ?_
  refine then_n ?_
  refine swp_seq ?_
  refine swp_region ?_
  refine s_pu (pu_move rfl) ?_
  refine s_pu (pu_move rfl) ?_
  refine s_pu (pu_bld (qs := []) rfl) ?_
  refine s_ef (ef_fn (changed_spec (.slice A1 (namesAt d n).length c1) (namesAt d n) om0 ⟨nos, nos, 0⟩) rfl rfl sp0) ?_
  rintro v112 L1 ⟨⟨A3, c3, rfl⟩, rfl⟩
  rw [chg_nos hno]
  refine swl_app ?_
  refine s_pu (pu_nilCheck rfl) ?_
  refine s_pu (pu_fieldAddr0 rfl) ?_
  refine s_ef0 (ef_store rfl rfl rfl) ?_
  refine swl_sub _ (sc0 0 rfl .nil) ?_
  refine swl_nil ?_
  refine then_n ?_
  refine swp_seq ?_
  refine swp_region ?_
  refine s_pu (pu_move rfl) ?_
  refine s_pu (pu_nilCheck rfl) ?_
  refine s_pu (pu_fieldAddr0 rfl) ?_
  refine s_ef0 (ef_store rfl rfl rfl) ?_
  refine swl_sub _ (sc0 0 rfl .nil) ?_
  refine swl_nil ?_
  refine then_n ?_
  refine swp_seq ?_
  refine swp_region ?_
  refine s_pu (pu_move rfl) ?_
  refine s_pu (pu_nilCheck rfl) ?_
  refine s_pu (pu_fieldAddr0 rfl) ?_
  refine s_ef0 (ef_store rfl rfl rfl) ?_
  refine swl_sub _ (sc0 0 rfl .nil) ?_
  refine swl_nil ?_
  refine then_n ?_
  refine swp_region ?_
  refine s_pu (pu_move rfl) ?_
  refine s_pu (pu_nilCheck rfl) ?_
  refine s_pu (pu_fieldAddr0 rfl) ?_
  refine s_ef0 (ef_store rfl rfl rfl) ?_
  refine swl_sub _ .nil ?_
  refine swl_nil ?_
  refine done_endE [RDA p (crashD d n keep), ro μ] .nil rfl ?_
  refine Ent.trans (own_nil_ent (e := 99) (n := 3)) ?_
  have e1 : (crashD d n keep).files.length = d.files.length := by rw [← hfin, filesK_len]
  rw [← e1]
  exact Ent.trans (Split.ent' (K := [blk p 92 (rdC d.quota (.slice (some ⟨b46, 0, none⟩) (crashD d n keep).files.length (crashD d n keep).files.length) (.slice A1 (namesAt d n).length c1) (.slice A3 (namesAt d n).length c3) (.slice none 0 0) 0 false), own 96 2 (.slice (some ⟨b46, 0, none⟩) (crashD d n keep).files.length (crashD d n keep).files.length) (crashD d n keep).files.length ((crashD d n keep).files.flatMap rF1), own 138 2 (.slice A1 (namesAt d n).length c1) (namesAt d n).length ((namesAt d n).flatMap rN1), own 138 2 (.slice A3 (namesAt d n).length c3) (namesAt d n).length ((namesAt d n).flatMap rN1), own 99 3 (.slice none 0 0) 0 [], ro μ]) sp0) (rd_close (d := crashD d n keep) (x := ⟨.slice (some ⟨b46, 0, none⟩) (crashD d n keep).files.length (crashD d n keep).files.length, .slice A1 (namesAt d n).length c1, .slice A3 (namesAt d n).length c3, .slice none 0 0⟩))
end SX
namespace SX
open Go Go.Proofs
end SX
namespace SX
open Go Go.Proofs
abbrev sf : ByteArray := ⟨#[102]⟩
end SX
namespace SX
open Go Go.Proofs
theorem Within.few {m : Nat} {d : Dk} (h : Within m d) (k : m ≤ 1000000) : Few d := h.mono k
end SX
namespace SX
open Go Go.Proofs
theorem srtS_strict {xs : List ByteArray} (h : xs.Nodup) : (srtS xs).Pairwise fun a b => strLt a b = true := by
  have h2 : (srtS xs).Nodup := (srtS_self xs).nodup_iff.2 h
  refine ((srtS_pw xs).and h2).imp fun {a b} ⟨h1, h3⟩ => ?_
  rcases strLt_total a b with k | k | k
  · exact k
  · exact absurd k h3
  · rw [k] at h1; cases h1
theorem flat_take_succ {T : List ByteArray} {j : Nat} {s : ByteArray} (h : T[j]? = some s) : (T.take j).flatMap scsv ++ [.string s] = (T.take (j + 1)).flatMap scsv := by
  rw [List.take_add_one, h, List.flatMap_append]; rfl
set_option maxHeartbeats 4000000 in
theorem rnames_spec (p : Nat) (d : Dk) (hd : d.Ok) (fv sv av wv : Value) : Spec Tryz.prog 68 [pv p] [blk p 92 (rdC d.quota fv sv av wv d.falls d.off), own 138 2 sv d.seen.length (d.seen.flatMap rN1)] (fun r L => L = [own 9 1 r (namesD d).length ((namesD d).flatMap scsv), blk p 92 (rdC d.quota fv sv av wv d.falls d.off), own 138 2 sv d.seen.length (d.seen.flatMap rN1)]) := by
 have hsl := hd.seenLe
 obtain ⟨T, hT⟩ : ∃ T, T = srtS (d.seen.map (·.1)) := ⟨_, rfl⟩
 have hTl : T.length = d.seen.length := by rw [hT, srtS_len, List.length_map]
 have hne : ∀ x ∈ d.seen.map (·.1), x ≠ ⟨#[]⟩ := fun x hx => by
  obtain ⟨y, hy, rfl⟩ := List.mem_map.1 hx
  intro e
  have := goodN_ne (hd.seenOk.good y hy).1
  rw [e, strEq_refl] at this; cases this
 have hsel : ∀ j, j ≤ T.length → selS (lastS T j) (d.seen.map (·.1)) = (T[j]?).getD ⟨#[]⟩ := fun j hj => selS_at (by rw [hT]; exact srtS_self _) (by rw [hT]; exact srtS_strict hd.seenOk.nodup) hne hj
 refine Spec.pre (pre := [own 138 2 sv d.seen.length (d.seen.flatMap rN1), blk p 92 (rdC d.quota fv sv av wv d.falls d.off)]) ?_ (Split.ent' sp0)
 refine Spec.fact' (fun m h => own_cap2 h) fun ⟨A, c, hv, hlc, hcm, hA, hA2⟩ => ?_
 simp only [maxLen] at hcm
 subst hv
 refine Spec.of 51 Tryz.func68 rfl rfl rfl ?_
 refine swp_seq ?_
 refine swp_region ?_
 refine s_pu (pu_assign rfl) ?_
 refine swl_sub _ (sc0 0 rfl .nil) ?_
 refine swl_nil ?_
 refine then_n ?_
 refine swp_seq ?_
 refine swp_region ?_
 refine s_pu (pu_assign rfl) ?_
 refine swl_sub _ (sc0 0 rfl (sc0 3 rfl .nil)) ?_
 refine swl_nil ?_
 refine then_n ?_
 refine swp_seq ?_
 refine swp_seq ?_
 refine swp_region ?_
 refine s_pu (pu_move rfl) ?_
 refine s_pu (pu_nilCheck rfl) ?_
 refine s_pu (pu_fieldAddr0 rfl) ?_
 refine s_rd (rd_load rfl rfl) ?_
 refine swl_sub _ (sc0 0 rfl (sc0 3 rfl (sc0 11 rfl .nil))) ?_
 refine swl_nil ?_
 refine then_n ?_
 refine swp_cond (b := _) rfl (fun h11 => ?_) (fun h11 => ?_)
 ·skip
  refine swp_seq ?_
  refine swp_region ?_
  refine s_pu (pu_move rfl) ?_
  refine s_pu (pu_assign rfl) ?_
  refine swl_sub _ (sc0 2 rfl .nil) ?_
  refine swl_nil ?_
  refine then_n ?_
  refine swp_ret ?_
  refine then_r ?_
  have key : namesD d = [] := by unfold namesD; rw [if_pos h11]
  rw [key]
  refine done_retE [own 9 1 (.slice none 0 0) 0 [], blk p 92 (rdC d.quota fv (.slice A d.seen.length c) av wv d.falls d.off), own 138 2 (.slice A d.seen.length c) d.seen.length (d.seen.flatMap rN1)] (.tmp rfl .nil) rfl ?_
  exact (Split.ent' (K := [blk p 92 (rdC d.quota fv (.slice A d.seen.length c) av wv d.falls d.off), own 138 2 (.slice A d.seen.length c) d.seen.length (d.seen.flatMap rN1)]) sp0).trans own_nil_ent
 ·skip
  refine swp_skip ?_
  refine then_n ?_
  refine swp_seq ?_
  refine swp_region ?_
  refine s_pu (pu_assign rfl) ?_
  refine swl_sub _ (sc0 0 rfl (sc0 3 rfl (sc0 4 rfl .nil))) ?_
  refine swl_nil ?_
  refine then_n ?_
  refine swp_block ?_
  have key : namesD d = T := by unfold namesD; rw [if_neg (by rw [h11]; decide), hT]
  refine swp_ent (own_nil_ent (e := 9) (n := 1)) ?_
  refine swp_loop (ι := Nat) (fun j env L => ∃ v, Sub env [(0, pv p), (3, v), (4, .string (lastS T j))] ∧ Ent L [own 9 1 v (T.take j).length ((T.take j).flatMap scsv), blk p 92 (rdC d.quota fv (.slice A d.seen.length c) av wv d.falls d.off), own 138 2 (.slice A d.seen.length c) d.seen.length (d.seen.flatMap rN1)] ∧ j ≤ T.length) (fun j => T.length - j) 0 ⟨.slice none 0 0, ⟨rfl, rfl, rfl, trivial⟩, (show Ent _ [own 9 1 (.slice none 0 0) 0 [], blk p 92 (rdC d.quota fv (.slice A d.seen.length c) av wv d.falls d.off), own 138 2 (.slice A d.seen.length c) d.seen.length (d.seen.flatMap rN1)] from Split.ent' sp0), Nat.zero_le _⟩ ?_
  rintro j env L ⟨v, hsub, hE, hj⟩
  refine swp_sub _ hsub ?_
  refine swp_ent hE ?_
  clear hsub hE env L
  refine swp_block ?_
  refine swp_seq ?_
  refine swp_region ?_
  refine s_pu (pu_assign rfl) ?_
  refine swl_sub _ (sc0 0 rfl (sc0 3 rfl (sc0 4 rfl (sc0 5 rfl .nil)))) ?_
  refine swl_nil ?_
  refine then_n ?_
  refine swp_seq ?_
  refine swp_seq ?_
  refine swp_region ?_
  refine s_pu (pu_assign rfl) ?_
  refine swl_sub _ (sc0 0 rfl (sc0 3 rfl (sc0 4 rfl (sc0 5 rfl (sc0 6 rfl .nil))))) ?_
  refine swl_nil ?_
  refine then_n ?_
  refine swp_block ?_
  refine swp_loop (ι := Nat) (fun i env L => Sub env [(0, pv p), (3, v), (4, .string (lastS T j)), (5, .string (selS (lastS T j) ((d.seen.map (·.1)).take i))), (6, .int .i64 (i : Nat))] ∧ Ent L [own 9 1 v (T.take j).length ((T.take j).flatMap scsv), blk p 92 (rdC d.quota fv (.slice A d.seen.length c) av wv d.falls d.off), own 138 2 (.slice A d.seen.length c) d.seen.length (d.seen.flatMap rN1)] ∧ i ≤ d.seen.length) (fun i => d.seen.length - i) 0 ⟨⟨rfl, rfl, rfl, rfl, rfl, trivial⟩, Split.ent' sp0, Nat.zero_le _⟩ ?_
  rintro i env L ⟨hsub, hE, hi⟩
  refine swp_sub _ hsub ?_
  refine swp_ent hE ?_
  clear hsub hE env L
  refine swp_seq ?_
  refine swp_seq ?_
  refine swp_region ?_
  refine s_pu (pu_move rfl) ?_
  refine s_pu (pu_move rfl) ?_
  refine s_pu (pu_nilCheck rfl) ?_
  refine s_pu (pu_fieldAddr0 rfl) ?_
  refine s_rd (rd_load rfl rfl) ?_
  refine s_pu (pu_len rfl) ?_
  refine s_pu (pu_lss rfl rfl) ?_
  refine swl_sub _ (sc0 0 rfl (sc0 3 rfl (sc0 4 rfl (sc0 5 rfl (sc0 6 rfl (sc0 19 rfl .nil)))))) ?_
  refine swl_nil ?_
  refine then_n ?_
  refine swp_cond (b := _) rfl (fun h19 => ?_) (fun h19 => ?_)
  ·skip
   have h19' : i < d.seen.length := by have := of_decide_eq_true h19; omega
   obtain ⟨a, ha⟩ : ∃ a, A = some a := by cases A with | none => have := hA rfl; omega | some a => exact ⟨a, rfl⟩
   obtain ⟨b, rfl⟩ := hA2 a ha
   subst ha
   obtain ⟨y, hy⟩ : ∃ y, d.seen[i]? = some y := ⟨_, List.getElem?_eq_getElem h19'⟩
   have hcell := flat_at (f := rN1) (n := 2) (fun _ => rfl) hy 0 _ rfl
   have hstep := selS_succ (xs := d.seen.map (·.1)) (lastS T j) (show (d.seen.map (·.1))[i]? = some y.1 by rw [List.getElem?_map, hy]; rfl)
   generalize hr : selS (lastS T j) ((d.seen.map (·.1)).take i) = r at hstep ⊢
   refine swp_skip ?_
   refine then_n ?_
   refine swp_seq ?_
   refine swp_block ?_
   refine swp_seq ?_
   refine swp_region ?_
   refine s_pu (pu_move rfl) ?_
   refine s_pu (pu_nilCheck rfl) ?_
   refine s_pu (pu_fieldAddr0 rfl) ?_
   refine s_rd (rd_load rfl rfl) ?_
   refine s_pu (pu_move rfl) ?_
   refine s_pu (pu_indexAddr (0 + i * 2) rfl rfl om0 om0 (by rw [Int.toNat_natCast])) ?_
   refine s_pu (pu_fieldAddr rfl) ?_
   refine s_rd (rd_own rfl tk0 (by rw [Nat.zero_add]; exact hcell)) ?_
   refine s_pu (pu_assign rfl) ?_
   refine swl_sub _ (sc0 0 rfl (sc0 3 rfl (sc0 4 rfl (sc0 5 rfl (sc0 6 rfl (sc0 7 rfl .nil)))))) ?_
   refine swl_nil ?_
   refine then_n ?_
   refine swp_seq ?_
   refine swp_region ?_
   refine s_pu (pu_move rfl) ?_
   refine s_pu (pu_move rfl) ?_
   refine s_pu (pu_str_gtr rfl rfl) ?_
   refine s_pu (pu_move rfl) ?_
   refine s_split 33 rfl (fun h33 => ?_) (fun h33 => ?_)
   ·skip
    refine s_on rfl rfl ?_
    refine s_pu (pu_move rfl) ?_
    refine s_on rfl rfl ?_
    refine s_pu (pu_str_eql rfl rfl) ?_
    refine s_on rfl rfl ?_
    refine s_pu (pu_move rfl) ?_
    refine s_split 36 rfl (fun h36 => ?_) (fun h36 => ?_)
    ·skip
     refine s_off rfl rfl rfl ?_
     refine s_off rfl rfl rfl ?_
     refine s_off rfl rfl rfl ?_
     refine s_on rfl rfl ?_
     refine s_pu (pu_pick_t rfl rfl) ?_
     refine s_pu (pu_pick_t rfl rfl) ?_
     refine swl_sub _ (sc0 0 rfl (sc0 3 rfl (sc0 4 rfl (sc0 5 rfl (sc0 6 rfl (sc0 7 rfl (sc0 41 rfl .nil))))))) ?_
     refine swl_nil ?_
     refine then_n ?_
     refine swp_cond (b := _) rfl (fun h41 => ?_) (fun h41 => by cases h41)
     refine swp_region ?_
     refine s_pu (pu_move rfl) ?_
     refine s_pu (pu_assign rfl) ?_
     refine swl_sub _ (sc0 0 rfl (sc0 3 rfl (sc0 4 rfl (sc0 5 rfl (sc0 6 rfl .nil))))) ?_
     refine swl_nil ?_
     refine block_n ?_
     refine then_n ?_
     refine swp_region ?_
     refine s_pu (pu_move rfl) ?_
     refine s_pu (pu_add_as ((i + 1 : Nat) : Int) rfl rfl om0 om0 om0) ?_
     refine s_pu (pu_assign rfl) ?_
     refine swl_sub _ (sc0 0 rfl (sc0 3 rfl (sc0 4 rfl (sc0 5 rfl (sc0 6 rfl .nil))))) ?_
     refine swl_nil ?_
     have e : updS (lastS T j) r y.1 = y.1 := by unfold updS; rw [gt_lt] at h33; rw [if_pos ⟨h33, .inl (strEq_iff.1 h36)⟩]
     rw [e] at hstep
     exact then_n ⟨i + 1, ⟨⟨rfl, rfl, rfl, by rw [hstep]; rfl, rfl, trivial⟩, Split.ent' sp0, h19'⟩, by omega⟩
    ·skip
     refine s_on rfl rfl ?_
     refine s_pu (pu_move rfl) ?_
     refine s_on rfl rfl ?_
     refine s_pu (pu_move rfl) ?_
     refine s_on rfl rfl ?_
     refine s_pu (pu_str_lss rfl rfl) ?_
     refine s_on rfl rfl ?_
     refine s_pu (pu_pick_f rfl rfl) ?_
     refine s_pu (pu_pick_t rfl rfl) ?_
     refine swl_sub _ (sc0 0 rfl (sc0 3 rfl (sc0 4 rfl (sc0 5 rfl (sc0 6 rfl (sc0 7 rfl (sc0 41 rfl .nil))))))) ?_
     refine swl_nil ?_
     refine then_n ?_
     refine swp_cond (b := _) rfl (fun h41 => ?_) (fun h41 => ?_)
     ·skip
      refine swp_region ?_
      refine s_pu (pu_move rfl) ?_
      refine s_pu (pu_assign rfl) ?_
      refine swl_sub _ (sc0 0 rfl (sc0 3 rfl (sc0 4 rfl (sc0 5 rfl (sc0 6 rfl .nil))))) ?_
      refine swl_nil ?_
      refine block_n ?_
      refine then_n ?_
      refine swp_region ?_
      refine s_pu (pu_move rfl) ?_
      refine s_pu (pu_add_as ((i + 1 : Nat) : Int) rfl rfl om0 om0 om0) ?_
      refine s_pu (pu_assign rfl) ?_
      refine swl_sub _ (sc0 0 rfl (sc0 3 rfl (sc0 4 rfl (sc0 5 rfl (sc0 6 rfl .nil))))) ?_
      refine swl_nil ?_
      have e : updS (lastS T j) r y.1 = y.1 := by unfold updS; rw [gt_lt] at h33; rw [if_pos ⟨h33, .inr h41⟩]
      rw [e] at hstep
      exact then_n ⟨i + 1, ⟨⟨rfl, rfl, rfl, by rw [hstep]; rfl, rfl, trivial⟩, Split.ent' sp0, h19'⟩, by omega⟩
     ·skip
      refine swp_skip ?_
      refine block_n ?_
      refine then_n ?_
      refine swp_region ?_
      refine s_pu (pu_move rfl) ?_
      refine s_pu (pu_add_as ((i + 1 : Nat) : Int) rfl rfl om0 om0 om0) ?_
      refine s_pu (pu_assign rfl) ?_
      refine swl_sub _ (sc0 0 rfl (sc0 3 rfl (sc0 4 rfl (sc0 5 rfl (sc0 6 rfl .nil))))) ?_
      refine swl_nil ?_
      have e : updS (lastS T j) r y.1 = r := by unfold updS; rw [if_neg (fun q => q.2.elim (fun q => by rw [strEq_iff.2 q] at h36; cases h36) (fun q => by rw [q] at h41; cases h41))]
      rw [e] at hstep
      exact then_n ⟨i + 1, ⟨⟨rfl, rfl, rfl, by rw [hstep]; rfl, rfl, trivial⟩, Split.ent' sp0, h19'⟩, by omega⟩
   ·skip
    refine s_off rfl rfl rfl ?_
    refine s_off rfl rfl rfl ?_
    refine s_off rfl rfl rfl ?_
    refine s_off rfl rfl rfl ?_
    refine s_off rfl rfl rfl ?_
    refine s_off rfl rfl rfl ?_
    refine s_off rfl rfl rfl ?_
    refine s_pu (pu_pick_f rfl rfl) ?_
    refine swl_sub _ (sc0 0 rfl (sc0 3 rfl (sc0 4 rfl (sc0 5 rfl (sc0 6 rfl (sc0 7 rfl (sc0 41 rfl .nil))))))) ?_
    refine swl_nil ?_
    refine then_n ?_
    refine swp_cond (b := _) rfl (fun h41 => by cases h41) (fun h41 => ?_)
    refine swp_skip ?_
    refine block_n ?_
    refine then_n ?_
    refine swp_region ?_
    refine s_pu (pu_move rfl) ?_
    refine s_pu (pu_add_as ((i + 1 : Nat) : Int) rfl rfl om0 om0 om0) ?_
    refine s_pu (pu_assign rfl) ?_
    refine swl_sub _ (sc0 0 rfl (sc0 3 rfl (sc0 4 rfl (sc0 5 rfl (sc0 6 rfl .nil))))) ?_
    refine swl_nil ?_
    have e : updS (lastS T j) r y.1 = r := by unfold updS; rw [gt_lt] at h33; rw [if_neg (fun q => by rw [q.1] at h33; cases h33)]
    rw [e] at hstep
    exact then_n ⟨i + 1, ⟨⟨rfl, rfl, rfl, by rw [hstep]; rfl, rfl, trivial⟩, Split.ent' sp0, h19'⟩, by omega⟩
  ·skip
   have h19' : i = d.seen.length := by have := of_decide_eq_false h19; omega
   have hfin : selS (lastS T j) ((d.seen.map (·.1)).take i) = (T[j]?).getD ⟨#[]⟩ := by rw [h19', List.take_of_length_le (by rw [List.length_map]; omega)]; exact hsel j hj
   rw [hfin]
   refine swp_exit ?_
   refine then_x ?_
   refine then_x ?_
   refine block_hit rfl ?_
   refine then_n ?_
   refine swp_seq ?_
   refine swp_seq ?_
   refine swp_region ?_
   refine s_pu (pu_move rfl) ?_
   refine s_pu (pu_str_eql rfl rfl) ?_
   refine swl_sub _ (sc0 0 rfl (sc0 3 rfl (sc0 5 rfl (sc0 44 rfl .nil)))) ?_
   refine swl_nil ?_
   refine then_n ?_
   refine swp_cond (b := _) rfl (fun h44 => ?_) (fun h44 => ?_)
   ·skip
    have hjT : j = T.length := by
     have h44' := strEq_iff.1 h44
     by_cases hc : j < T.length
     ·rw [List.getElem?_eq_getElem hc, Option.getD_some] at h44'
      have hperm : T.Perm (d.seen.map (·.1)) := by rw [hT]; exact srtS_self _
      have hm : T[j] ∈ d.seen.map (·.1) := hperm.mem_iff.1 (List.getElem_mem hc)
      exact absurd h44' (hne _ hm)
     ·omega
    refine swp_seq ?_
    refine swp_region ?_
    refine s_pu (pu_move rfl) ?_
    refine s_pu (pu_assign rfl) ?_
    refine swl_sub _ (sc0 2 rfl .nil) ?_
    refine swl_nil ?_
    refine then_n ?_
    refine swp_ret ?_
    refine then_r ?_
    refine block_r ?_
    refine then_r ?_
    refine block_r ?_
    rw [key]
    rw [hjT, List.take_length]
    refine done_ret [own 9 1 v T.length (T.flatMap scsv), blk p 92 (rdC d.quota fv (.slice A d.seen.length c) av wv d.falls d.off), own 138 2 (.slice A d.seen.length c) d.seen.length (d.seen.flatMap rN1)] (.tmp rfl .nil) rfl sp0
   ·skip
    have hjT : j < T.length := by
     by_cases hc : j < T.length
     ·exact hc
     ·rw [List.getElem?_eq_none om0, Option.getD_none, strEq_refl] at h44; cases h44
    have hTj : T[j]? = some ((T[j]?).getD ⟨#[]⟩) := by rw [List.getElem?_eq_getElem hjT]; rfl
    have hlast : lastS T (j + 1) = (T[j]?).getD ⟨#[]⟩ := by unfold lastS; rw [if_neg om0]; rfl
    have htl : (T.take j).length = j := by rw [List.length_take]; omega
    refine swp_skip ?_
    refine then_n ?_
    refine swp_seq ?_
    refine swp_region ?_
    refine s_pu (pu_move rfl) ?_
    refine s_pu (pu_move rfl) ?_
    refine s_ef (ef_bldS (qs := [(0, _)]) rfl rfl rfl) ?_
    intro b48
    refine s_ef (ef_append_lit (l := (T.take j).length) (m := 1) rfl rfl sp0 (by simp only [maxLen]; omega) om0) ?_
    rintro v' hv'
    skip
    refine s_pu (pu_assign rfl) ?_
    refine swl_sub _ (sc0 0 rfl (sc0 3 rfl (sc0 5 rfl .nil))) ?_
    refine swl_nil ?_
    refine then_n ?_
    refine swp_region ?_
    refine s_pu (pu_move rfl) ?_
    refine s_pu (pu_assign rfl) ?_
    refine swl_sub _ (sc0 0 rfl (sc0 3 rfl (sc0 4 rfl .nil))) ?_
    refine swl_nil ?_
    refine block_n ?_
    refine then_n ⟨j + 1, ⟨v', ⟨rfl, rfl, by rw [hlast]; rfl, trivial⟩, ?_, hjT⟩, by omega⟩
    rw [← flat_take_succ hTj, show (T.take (j + 1)).length = (T.take j).length + 1 by rw [List.length_take, List.length_take]; omega]
    exact Split.ent' sp0
end SX
namespace SX
open Go Go.Proofs
set_option maxHeartbeats 4000000 in
theorem rsame_spec (v u : Value) (xs : List ByteArray) (_ : xs.length ≤ 1048576) : Spec Tryz.prog 66 [v, u] [own 9 1 v xs.length (xs.flatMap scsv), own 9 1 u xs.length (xs.flatMap scsv)] (fun r L => r = .bool true ∧ L = [own 9 1 v xs.length (xs.flatMap scsv), own 9 1 u xs.length (xs.flatMap scsv)]) := by
 refine Spec.fact' (fun m h => own_cap2 h) fun ⟨A, c, hv, hlc, hcm, hA, hA2⟩ => ?_
 refine Spec.pre (pre := [own 9 1 u xs.length (xs.flatMap scsv), own 9 1 v xs.length (xs.flatMap scsv)]) ?_ Ent.swap
 refine Spec.fact' (fun m h => own_cap2 h) fun ⟨A', c', hv', hlc', hcm', hA', hA2'⟩ => ?_
 simp only [maxLen] at hcm hcm'
 subst hv hv'
 refine Spec.of 26 Tryz.func66 rfl rfl rfl ?_
 refine swp_seq ?_
 refine swp_region ?_
 refine s_pu (pu_assign rfl) ?_
 refine swl_sub _ (sc0 0 rfl (sc0 1 rfl .nil)) ?_
 refine swl_nil ?_
 refine then_n ?_
 refine swp_seq ?_
 refine swp_seq ?_
 refine swp_region ?_
 refine s_pu (pu_move rfl) ?_
 refine s_pu (pu_len rfl) ?_
 refine s_pu (pu_move rfl) ?_
 refine s_pu (pu_len rfl) ?_
 refine s_pu (pu_neq rfl rfl) ?_
 refine swl_sub _ (sc0 0 rfl (sc0 1 rfl (sc0 10 rfl .nil))) ?_
 refine swl_nil ?_
 refine then_n ?_
 refine swp_cond (b := _) rfl (fun h10 => by simp at h10) (fun h10 => ?_)
 refine swp_skip ?_
 refine then_n ?_
 refine swp_seq ?_
 refine swp_seq ?_
 refine swp_region ?_
 refine s_pu (pu_assign rfl) ?_
 refine swl_sub _ (sc0 0 rfl (sc0 1 rfl (sc0 5 rfl .nil))) ?_
 refine swl_nil ?_
 refine then_n ?_
 refine swp_block ?_
 refine swp_loop (ι := Nat) (fun i env L => Sub env [(0, .slice A xs.length c), (1, .slice A' xs.length c'), (5, .int .i64 (i : Nat))] ∧ Ent L [own 9 1 (.slice A' xs.length c') xs.length (xs.flatMap scsv), own 9 1 (.slice A xs.length c) xs.length (xs.flatMap scsv)] ∧ i ≤ xs.length) (fun i => xs.length - i) 0 ⟨⟨rfl, rfl, rfl, trivial⟩, Split.ent' sp0, Nat.zero_le _⟩ ?_
 rintro i env L ⟨hsub, hE, hi⟩
 refine swp_sub _ hsub ?_
 refine swp_ent hE ?_
 clear hsub hE env L
 refine swp_seq ?_
 refine swp_seq ?_
 refine swp_region ?_
 refine s_pu (pu_move rfl) ?_
 refine s_pu (pu_move rfl) ?_
 refine s_pu (pu_len rfl) ?_
 refine s_pu (pu_lss rfl rfl) ?_
 refine swl_sub _ (sc0 0 rfl (sc0 1 rfl (sc0 5 rfl (sc0 14 rfl .nil)))) ?_
 refine swl_nil ?_
 refine then_n ?_
 refine swp_cond (b := _) rfl (fun h14 => ?_) (fun h14 => ?_)
 ·skip
  have h14' : i < xs.length := by have := of_decide_eq_true h14; omega
  obtain ⟨a, ha⟩ : ∃ a, A = some a := by cases A with | none => have := hA rfl; omega | some a => exact ⟨a, rfl⟩
  obtain ⟨b, rfl⟩ := hA2 a ha
  subst ha
  obtain ⟨a', ha'⟩ : ∃ a, A' = some a := by cases A' with | none => have := hA' rfl; omega | some a => exact ⟨a, rfl⟩
  obtain ⟨b', rfl⟩ := hA2' a' ha'
  subst ha'
  obtain ⟨y, hy⟩ : ∃ y, xs[i]? = some y := ⟨_, List.getElem?_eq_getElem h14'⟩
  have hcell := flat_at (f := scsv) (n := 1) (fun _ => rfl) hy 0 _ rfl
  refine swp_skip ?_
  refine then_n ?_
  refine swp_seq ?_
  refine swp_block ?_
  refine swp_seq ?_
  refine swp_draw [3, 7] _ [] (by simp only [List.append_nil]; exact Ent.refl _) kr0 ?_
  refine d_pu 0 rfl (pu_move rfl) kr0 kr0 kr0 ?_
  refine d_pu 1 rfl (pu_move rfl) kr0 kr0 kr0 ?_
  refine d_pu 2 rfl (pu_indexAddr (0 + i * 1) rfl rfl om0 om0 (by rw [Int.toNat_natCast])) kr0 kr0 kr0 ?_
  refine d_rd 3 rfl (rd_own rfl tk0 (by rw [Nat.zero_add]; exact hcell)) rfl kr0 kr0 kr0 ?_
  refine d_pu 4 rfl (pu_move rfl) kr0 kr0 kr0 ?_
  refine d_pu 5 rfl (pu_move rfl) kr0 kr0 kr0 ?_
  refine d_pu 6 rfl (pu_indexAddr (0 + i * 1) rfl rfl om0 om0 (by rw [Int.toNat_natCast])) kr0 kr0 kr0 ?_
  refine d_rd 7 rfl (rd_own rfl tk0 (by rw [Nat.zero_add]; exact hcell)) rfl kr0 kr0 kr0 ?_
  refine d_pu 8 rfl (pu_str_neq rfl rfl) kr0 kr0 kr0 ?_
  refine d_sub _ (sc0 0 rfl (sc0 1 rfl (sc0 5 rfl (sc0 25 rfl .nil)))) ?_
  refine d_nilt kr0 ?_
  refine then_n ?_
  refine swp_cond (b := _) rfl (fun h25 => by rw [strEq_refl] at h25; cases h25) (fun h25 => ?_)
  refine swp_skip ?_
  refine block_n ?_
  refine then_n ?_
  refine swp_region ?_
  refine s_pu (pu_move rfl) ?_
  refine s_pu (pu_add_as ((i + 1 : Nat) : Int) rfl rfl om0 om0 om0) ?_
  refine s_pu (pu_assign rfl) ?_
  refine swl_sub _ (sc0 0 rfl (sc0 1 rfl (sc0 5 rfl .nil))) ?_
  refine swl_nil ?_
  exact then_n ⟨i + 1, ⟨⟨rfl, rfl, rfl, trivial⟩, Split.ent' sp0, h14'⟩, by omega⟩
 ·skip
  refine swp_exit ?_
  refine then_x ?_
  refine then_x ?_
  refine block_hit rfl ?_
  refine then_n ?_
  refine swp_seq ?_
  refine swp_region ?_
  refine s_pu (pu_assign rfl) ?_
  refine swl_sub _ (sc0 4 rfl .nil) ?_
  refine swl_nil ?_
  refine then_n ?_
  refine swp_ret ?_
  exact done_ret [own 9 1 (.slice A xs.length c) xs.length (xs.flatMap scsv), own 9 1 (.slice A' xs.length c') xs.length (xs.flatMap scsv)] (.tmp rfl .nil) ⟨rfl, rfl⟩ sp0
theorem namesD_le {d : Dk} (hd : d.Ok) : (namesD d).length ≤ 64 := by
  unfold namesD
  split
  · exact Nat.zero_le _
  · rw [srtS_len, List.length_map]; exact hd.seenLe
end SX
namespace SX
open Go Go.Proofs
/-- both stores -/
abbrev Two : Type := Nat × SW × Nat × SW
def twoL : Two → List Assn := fun x => [stH x.1 x.2.1, ttA x.2.1, ccA x.2.1, rsH x.2.2.1 x.2.2.2, ttA x.2.2.2, ccA x.2.2.2]
def stO : Option Two → Assn
  | none => star []
  | some x => star (twoL x)
def svP (o : Option Two) : Option Addr := o.map fun x => ⟨x.1, 0, none⟩
def wvP (o : Option Two) : Option Addr := o.map fun x => ⟨x.2.2.1, 0, none⟩
abbrev svO (o : Option Two) : Value := .pointer (svP o)
abbrev wvO (o : Option Two) : Value := .pointer (wvP o)
theorem sw_none (o : Option Two) : (svP o).isNone = (wvP o).isNone := by cases o <;> rfl
/-- both stores have this -/
def TwoOk (μ : PH) (pd pr : Nat) (s : St2) (dead : Bool) (x : Two) : Prop := x.2.1.Ok μ ∧ x.2.2.2.Ok μ ∧ x.2.1.q = pd ∧ x.2.2.2.q = pr ∧ x.2.1.pl = s ∧ x.2.2.2.pl = s ∧ x.2.1.dead = dead ∧ x.2.2.2.dead = dead
abbrev prA (pp pd pr : Nat) (sv wv : Value) : Assn := blk pp 75 [pv pd, sv, wv, pv pr]
/-- what opening leaves of a pair -/
def POpen (μ : PH) (pd pr : Nat) (d : Dk) (o : Option Two) (μ' : PH) : Prop := Le μ μ' ∧ (((openD d).2 ≠ 0 ∧ o = none) ∨ ((openD d).2 = 0 ∧ ∃ x, o = some x ∧ TwoOk μ' pd pr (openS d) false x))
set_option maxHeartbeats 4000000 in
theorem popen_spec (μ : PH) (pp pd pr : Nat) (sv wv : Value) (d : Dk) (hd : d.Ok) (m : Nat) (hw : Within m d) (hm : m ≤ 990000) : Spec Tryz.prog 33 [pv pp] [prA pp pd pr sv wv, FSA pd d, RDA pr d, ro μ]
  (fun r L => r = .bool true ∧ ∃ o μ', POpen μ pd pr d o μ' ∧ L = [prA pp pd pr (svO o) (wvO o), FSA pd (openD d).1, RDA pr (openD d).1, stO o, ro μ']) := by
 refine Spec.of 41 Tryz.func33 rfl rfl rfl ?_
 refine swp_seq ?_
 refine swp_region ?_
 refine s_pu (pu_assign rfl) ?_
 refine swl_sub _ (sc0 0 rfl .nil) ?_
 refine swl_nil ?_
 refine then_n ?_
 refine swp_seq ?_
 refine swp_region ?_
 refine s_pu (pu_move rfl) ?_
 refine s_pu (pu_nilCheck rfl) ?_
 refine s_pu (pu_fieldAddr0 rfl) ?_
 refine s_rd (rd_load rfl rfl) ?_
 refine s_ef (ef_fn (open_spec μ pd d hd (few_of hw om0)) rfl rfl sp0) ?_
 rintro v12 L1 ⟨p, W, μ1, e, hq, rfl, rfl⟩
 refine swl_app ?_
 refine s_pu (pu_move rfl) ?_
 refine s_pu (pu_extractL rfl) ?_
 refine s_pu (pu_extractL rfl) ?_
 refine s_pu (pu_assign rfl) ?_
 refine s_pu (pu_assign rfl) ?_
 refine swl_sub _ (sc0 0 rfl (sc0 3 rfl (sc0 4 rfl .nil))) ?_
 refine swl_nil ?_
 refine then_n ?_
 refine swp_seq ?_
 refine swp_region ?_
 refine s_pu (pu_move rfl) ?_
 refine s_pu (pu_nilCheck rfl) ?_
 refine s_pu (pu_fieldAddr0 rfl) ?_
 refine s_rd (rd_load rfl rfl) ?_
 refine s_ef (ef_fn (ropen_spec μ1 pr d hd m hw hm) rfl rfl sp0) ?_
 rintro v20 L1 ⟨w, V, μ2, e2, hq2, rfl, rfl⟩
 refine swl_app ?_
 refine s_pu (pu_move rfl) ?_
 refine s_pu (pu_extractL rfl) ?_
 refine s_pu (pu_extractL rfl) ?_
 refine s_pu (pu_assign rfl) ?_
 refine s_pu (pu_assign rfl) ?_
 refine swl_sub _ (sc0 0 rfl (sc0 3 rfl (sc0 4 rfl (sc0 5 rfl (sc0 6 rfl .nil))))) ?_
 refine swl_nil ?_
 refine then_n ?_
 refine swp_seq ?_
 obtain ⟨l1, hW, hWq, hWd, he, hWp⟩ := hq
 obtain ⟨l2, hV, hVq, hVd, he2, hVp⟩ := hq2
 subst he he2
 obtain ⟨o, ho, hsv, hwv, hE⟩ : ∃ o, POpen μ pd pr d o μ2 ∧ (if (openD d).2 = 0 then pv p else .pointer none) = svO o ∧ (if (openD d).2 = 0 then pv w else .pointer none) = wvO o ∧ ∀ {L : List Assn}, Ent (stH p W :: ttA W :: ccA W :: rsH w V :: ttA V :: ccA V :: L) (stO o :: L) := by
  by_cases h : (openD d).2 = 0
  ·refine ⟨some (p, W, w, V), ⟨l1.trans l2, .inr ⟨h, _, rfl, hW.le l2, hV, hWq, hVq, hWp h, hVp h, hWd, hVd⟩⟩, by rw [if_pos h]; rfl, by rw [if_pos h]; rfl, ?_⟩
   intro L
   exact star_close (K := [stH p W, ttA W, ccA W, rsH w V, ttA V, ccA V]) (L := L)
  ·refine ⟨none, ⟨l1.trans l2, .inl ⟨h, rfl⟩⟩, by rw [if_neg h]; rfl, by rw [if_neg h]; rfl, ?_⟩
   intro L
   exact (Ent.drop.trans (Ent.drop.trans (Ent.drop.trans (Ent.drop.trans (Ent.drop.trans Ent.drop))))).trans (star_close (K := []) (L := L))
 rw [hsv, hwv]
 refine swp_ent (Split.ent' (K := [stH p W, ttA W, ccA W, rsH w V, ttA V, ccA V, prA pp pd pr sv wv, FSA pd (openD d).1, RDA pr (openD d).1, ro μ2]) sp0) ?_
 refine swp_ent hE ?_
 refine swp_region ?_
 refine s_pu (pu_move rfl) ?_
 refine s_pu (pu_move rfl) ?_
 refine s_pu (pu_move rfl) ?_
 refine s_pu (pu_move rfl) ?_
 refine s_pu (pu_nilCheck rfl) ?_
 refine s_pu (pu_fieldAddr0 rfl) ?_
 refine s_ef0 (ef_store rfl rfl rfl) ?_
 refine s_pu (pu_nilCheck rfl) ?_
 refine s_pu (pu_fieldAddr0 rfl) ?_
 refine s_ef0 (ef_store rfl rfl rfl) ?_
 refine swl_sub _ (sc0 3 rfl (sc0 4 rfl (sc0 5 rfl (sc0 6 rfl .nil)))) ?_
 refine swl_nil ?_
 refine then_n ?_
 refine swp_seq ?_
 refine swp_region ?_
 refine s_pu (pu_move rfl) ?_
 refine s_pu (pu_move rfl) ?_
 refine s_pu (pu_eql rfl rfl) ?_
 refine s_pu (pu_move rfl) ?_
 refine s_split 34 rfl (fun h34 => ?_) (fun h34 => by simp at h34)
 refine s_on rfl rfl ?_
 refine s_pu (pu_move rfl) ?_
 refine s_on rfl rfl ?_
 refine s_pu (pu_ptr_eq_nil rfl rfl) ?_
 refine s_on rfl rfl ?_
 refine s_pu (pu_move rfl) ?_
 refine s_on rfl rfl ?_
 refine s_pu (pu_ptr_eq_nil rfl rfl) ?_
 refine s_on rfl rfl ?_
 refine s_pu (pu_bool_eq rfl rfl) ?_
 refine s_pu (pu_pick_t rfl rfl) ?_
 refine s_pu (pu_assign rfl) ?_
 refine swl_sub _ (sc0 2 rfl .nil) ?_
 refine swl_nil ?_
 refine then_n ?_
 refine swp_ret ?_
 refine done_ret [prA pp pd pr (svO o) (wvO o), FSA pd (openD d).1, RDA pr (openD d).1, stO o, ro μ2] (.tmp rfl .nil) ⟨?_, o, μ2, ho, rfl⟩ sp0
 rw [sw_none]
 cases (wvP o).isNone <;> rfl
end SX
namespace SX
open Go Go.Proofs
def SmallS (s : St2) : Prop := (∀ t ∈ s.1, t.length ≤ 1048576) ∧ ∀ c ∈ s.2, c.1.length ≤ 1048576
theorem SmallS.w {W : SW} (h : SmallS W.pl) : W.Small := ⟨fun x hx => h.1 x.2 (List.mem_map.2 ⟨x, hx, rfl⟩), fun x hx => h.2 x.2 (List.mem_map.2 ⟨x, hx, rfl⟩)⟩
def OptOk (μ : PH) (pd pr : Nat) (o : Option (St2 × Bool)) (t : Option Two) : Prop := match o, t with
  | none, none => True
  | some y, some x => TwoOk μ pd pr y.1 y.2 x ∧ SmallS y.1
  | _, _ => False
theorem TwoOk.le {μ μ' : PH} {pd pr : Nat} {s : St2} {dead : Bool} {x : Two} (h : TwoOk μ pd pr s dead x) (k : Le μ μ') : TwoOk μ' pd pr s dead x := ⟨h.1.le k, h.2.1.le k, h.2.2⟩
theorem OptOk.le {μ μ' : PH} {pd pr : Nat} {o : Option (St2 × Bool)} {t : Option Two} (h : OptOk μ pd pr o t) (k : Le μ μ') : OptOk μ' pd pr o t := by
  cases o with
  | none => cases t with
    | none => trivial
    | some x => exact h
  | some y => cases t with
    | none => exact h
    | some x => exact ⟨h.1.le k, h.2⟩
set_option maxHeartbeats 8000000 in
theorem ptold_spec (μ : PH) (pp pd pr : Nat) (o : Option Two) (d : Dk) (hd : d.Ok) (m : Nat) (hw : Within m d) (hm : m ≤ 990000) (y : Option (St2 × Bool)) (ho : OptOk μ pd pr y o) :
  Spec Tryz.prog 30 [pv pp] [prA pp pd pr (svO o) (wvO o), FSA pd d, RDA pr d, stO o, ro μ] (fun r L => r = .bool true ∧ ∃ μ', Le μ μ' ∧ L = [prA pp pd pr (svO o) (wvO o), FSA pd d, RDA pr d, stO o, ro μ']) := by
 have hnl := namesD_le hd
 refine Spec.of 79 Tryz.func30 rfl rfl rfl ?_
 refine swp_seq ?_
 refine swp_region ?_
 refine s_pu (pu_assign rfl) ?_
 refine swl_sub _ (sc0 0 rfl .nil) ?_
 refine swl_nil ?_
 refine then_n ?_
 refine swp_seq ?_
 refine swp_region ?_
 refine s_pu (pu_move rfl) ?_
 refine s_pu (pu_nilCheck rfl) ?_
 refine s_pu (pu_fieldAddr0 rfl) ?_
 refine s_rd (rd_load rfl rfl) ?_
 refine s_ef (ef_fn (read_spec pd d hd logN) rfl rfl sp0) ?_
 rintro v12 L1 ⟨rfl, rfl⟩
 refine swl_app ?_
 refine s_pu (pu_move rfl) ?_
 refine s_pu (pu_extractL rfl) ?_
 refine s_pu (pu_extractL rfl) ?_
 refine s_pu (pu_assign rfl) ?_
 refine s_pu (pu_assign rfl) ?_
 refine swl_sub _ (sc0 0 rfl (sc0 3 rfl (sc0 4 rfl .nil))) ?_
 refine swl_nil ?_
 refine then_n ?_
 refine swp_seq ?_
 refine swp_region ?_
 refine s_pu (pu_move rfl) ?_
 refine s_pu (pu_nilCheck rfl) ?_
 refine s_pu (pu_fieldAddr0 rfl) ?_
 refine s_rd (rd_load rfl rfl) ?_
 refine s_ef (ef_fn (rread_spec pr d hd (few_of hw om0) logN) rfl rfl sp0) ?_
 rintro v20 L1 ⟨rfl, rfl⟩
 refine swl_app ?_
 refine s_pu (pu_move rfl) ?_
 refine s_pu (pu_extractL rfl) ?_
 refine s_pu (pu_extractL rfl) ?_
 refine s_pu (pu_assign rfl) ?_
 refine s_pu (pu_assign rfl) ?_
 refine swl_sub _ (sc0 0 rfl (sc0 3 rfl (sc0 4 rfl (sc0 5 rfl (sc0 6 rfl .nil))))) ?_
 refine swl_nil ?_
 refine then_n ?_
 refine swp_seq ?_
 refine swp_seq ?_
 refine swp_front (A := RDA pr d) tk0 ?_
 refine swp_ex fun ⟨fv, sv, av, wv⟩ => ?_
 refine swp_app ?_
 dsimp only
 refine swp_ent (Split.ent' (K := [blk pr 92 (rdC d.quota fv sv av wv d.falls d.off), own 96 2 fv d.files.length (d.files.flatMap rF1), own 138 2 sv d.seen.length (d.seen.flatMap rN1), own 138 2 av d.safe.length (d.safe.flatMap rN1), own 99 3 wv d.pend.length (d.pend.flatMap rC1), prA pp pd pr (svO o) (wvO o), FSA pd d, stO o, ro μ]) sp0) ?_
 refine swp_draw [12, 17, 20, 27, 32] ([prA pp pd pr (svO o) (wvO o), blk pr 92 (rdC d.quota fv sv av wv d.falls d.off)]) ([own 96 2 fv d.files.length (d.files.flatMap rF1), own 138 2 sv d.seen.length (d.seen.flatMap rN1), own 138 2 av d.safe.length (d.safe.flatMap rN1), own 99 3 wv d.pend.length (d.pend.flatMap rC1), FSA pd d, stO o, ro μ]) (Split.ent sp0) kr0 ?_
 refine d_pu 0 rfl (pu_move rfl) kr0 kr0 kr0 ?_
 refine d_pu 1 rfl (pu_move rfl) kr0 kr0 kr0 ?_
 refine d_pu 2 rfl (pu_str_neq rfl rfl) kr0 kr0 kr0 ?_
 refine d_pu 3 rfl (pu_move rfl) kr0 kr0 kr0 ?_
 refine d_split 26 rfl (fun h26 => by simp [strEq_refl] at h26) (fun h26 => ?_)
 refine d_pu_on 4 rfl rfl rfl (pu_move rfl) kr0 kr0 kr0 ?_
 refine d_pu_on 5 rfl rfl rfl (pu_move rfl) kr0 kr0 kr0 ?_
 refine d_pu_on 6 rfl rfl rfl (pu_neq rfl rfl) kr0 kr0 kr0 ?_
 refine d_pu 7 rfl (pu_pick_f rfl rfl) kr0 kr0 kr0 ?_
 refine d_pu 8 rfl (pu_move rfl) kr0 kr0 kr0 ?_
 refine d_split 31 rfl (fun h31 => by simp at h31) (fun h31 => ?_)
 refine d_pu_on 9 rfl rfl rfl (pu_move rfl) kr0 kr0 kr0 ?_
 refine d_pu_on 10 rfl rfl rfl (pu_nilCheck rfl) kr0 kr0 kr0 ?_
 refine d_pu_on 11 rfl rfl rfl (pu_fieldAddr0 rfl) kr0 kr0 kr0 ?_
 refine d_rd_on 12 rfl rfl rfl (rd_load rfl rfl) rfl kr0 kr0 kr0 ?_
 refine d_pu_on 14 rfl rfl rfl (pu_move rfl) kr0 kr0 kr0 ?_
 refine d_pu_on 15 rfl rfl rfl (pu_nilCheck rfl) kr0 kr0 kr0 ?_
 refine d_pu_on 16 rfl rfl rfl (pu_fieldAddr0 rfl) kr0 kr0 kr0 ?_
 refine d_rd_on 17 rfl rfl rfl (rd_load rfl rfl) rfl kr0 kr0 kr0 ?_
 refine d_pu_on 18 rfl rfl rfl (pu_nilCheck rfl) kr0 kr0 kr0 ?_
 refine d_pu_on 19 rfl rfl rfl (pu_fieldAddr0 rfl) kr0 kr0 kr0 ?_
 refine d_rd_on 20 rfl rfl rfl (rd_load rfl rfl) rfl kr0 kr0 kr0 ?_
 refine d_amb [13] kr0 rfl ?_
 refine dA_ef 13 rfl (GOn.some rfl rfl) (ef_fn (off_spec pd d) rfl rfl sp0) ?_
 rintro v36 L1 ⟨rfl, rfl⟩
 refine ⟨_, ent_appC (Split.ent sp0), ?_⟩
 refine d_pu_on 21 rfl rfl rfl (pu_bool_ne rfl rfl) kr0 kr0 kr0 ?_
 refine d_pu 22 rfl (pu_pick_f rfl rfl) kr0 kr0 kr0 ?_
 refine d_pu 23 rfl (pu_move rfl) kr0 kr0 kr0 ?_
 refine d_split 46 rfl (fun h46 => by simp at h46) (fun h46 => ?_)
 refine d_pu_on 24 rfl rfl rfl (pu_move rfl) kr0 kr0 kr0 ?_
 refine d_pu_on 25 rfl rfl rfl (pu_nilCheck rfl) kr0 kr0 kr0 ?_
 refine d_pu_on 26 rfl rfl rfl (pu_fieldAddr0 rfl) kr0 kr0 kr0 ?_
 refine d_rd_on 27 rfl rfl rfl (rd_load rfl rfl) rfl kr0 kr0 kr0 ?_
 refine d_pu_on 29 rfl rfl rfl (pu_move rfl) kr0 kr0 kr0 ?_
 refine d_pu_on 30 rfl rfl rfl (pu_nilCheck rfl) kr0 kr0 kr0 ?_
 refine d_pu_on 31 rfl rfl rfl (pu_fieldAddr0 rfl) kr0 kr0 kr0 ?_
 refine d_rd_on 32 rfl rfl rfl (rd_load rfl rfl) rfl kr0 kr0 kr0 ?_
 refine d_amb [28] kr0 rfl ?_
 refine dA_ef 28 rfl (GOn.some rfl rfl) (ef_fn (names_spec pd d hd) rfl rfl sp0) ?_
 rintro v51 L1 rfl
 refine ⟨_, ent_appC (Split.ent sp0), ?_⟩
 refine d_amb [33] kr0 rfl ?_
 refine dA_fint 33 rfl (GOn.some rfl rfl) kr0 (ef_fn (rnames_spec pr d hd fv sv av wv) rfl rfl sp0) ?_
 rintro v56 L1 rfl
 refine swd_app ?_
 refine d_amb [34] kr0 rfl ?_
 refine dA_finf 34 rfl (GOn.some rfl rfl) kr0 (ef_fn (rsame_spec v51 v56 (namesD d) om0) rfl rfl sp0) ?_
 rintro v57 L1 ⟨rfl, rfl⟩
 refine swd_app ?_
 refine d_pu_on 35 rfl rfl rfl (pu_not rfl) kr0 kr0 kr0 ?_
 refine d_pu 36 rfl (pu_pick_f rfl rfl) kr0 kr0 kr0 ?_
 refine d_sub _ (sc0 0 rfl (sc0 59 rfl .nil)) ?_
 refine d_nilf kr0 ?_
 refine then_n ?_
 refine swp_cond (b := _) rfl (fun h59 => by cases h59) (fun h59 => ?_)
 refine swp_skip ?_
 refine then_n ?_
 refine swp_seq ?_
 refine swp_seq ?_
 refine swp_ent (Split.ent' (K := [blk pr 92 (rdC d.quota fv sv av wv d.falls d.off), own 96 2 fv d.files.length (d.files.flatMap rF1), own 138 2 sv d.seen.length (d.seen.flatMap rN1), own 138 2 av d.safe.length (d.safe.flatMap rN1), own 99 3 wv d.pend.length (d.pend.flatMap rC1), prA pp pd pr (svO o) (wvO o), FSA pd d, stO o, ro μ]) sp0) ?_
 refine swp_ent (rd_close (x := ⟨fv, sv, av, wv⟩)) ?_
 refine swp_region ?_
 refine s_pu (pu_move rfl) ?_
 refine s_pu (pu_nilCheck rfl) ?_
 refine s_pu (pu_fieldAddr0 rfl) ?_
 refine s_rd (rd_load rfl rfl) ?_
 refine s_pu (pu_ptr_eq_nil rfl rfl) ?_
 refine swl_sub _ (sc0 0 rfl (sc0 64 rfl .nil)) ?_
 refine swl_nil ?_
 refine then_n ?_
 refine swp_cond (b := _) rfl (fun h64 => ?_) (fun h64 => ?_)
 ·skip
  refine swp_seq ?_
  refine swp_region ?_
  refine s_pu (pu_move rfl) ?_
  refine s_pu (pu_nilCheck rfl) ?_
  refine s_pu (pu_fieldAddr0 rfl) ?_
  refine s_rd (rd_load rfl rfl) ?_
  refine s_pu (pu_ptr_eq_nil rfl rfl) ?_
  refine s_pu (pu_assign rfl) ?_
  refine swl_sub _ (sc0 2 rfl .nil) ?_
  refine swl_nil ?_
  refine then_n ?_
  refine swp_ret ?_
  refine then_r ?_
  exact done_ret [prA pp pd pr (svO o) (wvO o), FSA pd d, RDA pr d, stO o, ro μ] (.tmp rfl .nil) ⟨by rw [sw_none, h64]; rfl, μ, Le.refl _, rfl⟩ sp0
 ·skip
  obtain ⟨x, rfl⟩ : ∃ x, o = some x := by
   cases o with
   | none => cases h64
   | some x => exact ⟨x, rfl⟩
  obtain ⟨s, dead, ht, hsm⟩ : ∃ s dead, TwoOk μ pd pr s dead x ∧ SmallS s := by
   cases y with
   | none => exact ho.elim
   | some y => exact ⟨y.1, y.2, ho.1, ho.2⟩
  obtain ⟨hA, hB, _, _, hpa, hpb, hda, hdb⟩ := ht
  have hsame : sameW x.2.1 x.2.2.2 = true := by unfold sameW; exact decide_eq_true ⟨by rw [hpa, hpb], by rw [hda, hdb]⟩
  refine swp_front (A := stO (some x)) tk0 ?_
  refine swp_ent (star_ent (K := twoL x)) ?_
  simp only [twoL, List.cons_append, List.nil_append]
  refine swp_skip ?_
  refine then_n ?_
  refine swp_seq ?_
  refine swp_draw [3, 7] _ [] (by simp only [List.append_nil]; exact Ent.refl _) kr0 ?_
  refine d_pu 0 rfl (pu_move rfl) kr0 kr0 kr0 ?_
  refine d_pu 1 rfl (pu_nilCheck rfl) kr0 kr0 kr0 ?_
  refine d_pu 2 rfl (pu_fieldAddr0 rfl) kr0 kr0 kr0 ?_
  refine d_rd 3 rfl (rd_load rfl rfl) rfl kr0 kr0 kr0 ?_
  refine d_pu 4 rfl (pu_move rfl) kr0 kr0 kr0 ?_
  refine d_pu 5 rfl (pu_nilCheck rfl) kr0 kr0 kr0 ?_
  refine d_pu 6 rfl (pu_fieldAddr0 rfl) kr0 kr0 kr0 ?_
  refine d_rd 7 rfl (rd_load rfl rfl) rfl kr0 kr0 kr0 ?_
  refine d_fint 8 rfl kr0 kr0 (ef_fn (lsame_spec μ x.1 x.2.2.1 x.2.1 x.2.2.2 hA hB (SmallS.w (by rw [hpa]; exact hsm)) (SmallS.w (by rw [hpb]; exact hsm))) rfl rfl sp0) ?_
  rintro v78 L1 ⟨μ', hl, rfl, rfl⟩
  refine swd_app ?_
  refine d_pu 9 rfl (pu_assign rfl) kr0 kr0 kr0 ?_
  refine d_sub _ (sc0 2 rfl .nil) ?_
  refine d_nilf kr0 ?_
  refine then_n ?_
  refine swp_ret ?_
  refine done_retE [prA pp pd pr (svO (some x)) (wvO (some x)), FSA pd d, RDA pr d, stO (some x), ro μ'] (.tmp rfl .nil) ⟨by rw [hsame]; rfl, μ', hl, rfl⟩ ?_
  refine (Split.ent' (K := [stH x.1 x.2.1, ttA x.2.1, ccA x.2.1, rsH x.2.2.1 x.2.2.2, ttA x.2.2.2, ccA x.2.2.2, prA pp pd pr (svO (some x)) (wvO (some x)), FSA pd d, RDA pr d, ro μ']) sp0).trans ?_
  exact (star_close (K := twoL x) (L := [prA pp pd pr (svO (some x)) (wvO (some x)), FSA pd d, RDA pr d, ro μ'])).trans (Ent.perm (by
   refine List.Perm.trans (List.Perm.swap _ _ _) (List.Perm.cons _ ?_)
   refine List.Perm.trans (List.Perm.swap _ _ _) (List.Perm.cons _ ?_)
   exact List.Perm.swap _ _ _))
end SX
namespace SX
open Go Go.Proofs
theorem decL_len (s : List UInt8) : ∀ (n : Nat) (first : Bool) (last : List UInt8) (pos : Nat) (l : List En) (q : Nat), decL s n first last pos = some (l, q) → l.length = n
  | 0, _, _, _, l, q, h => by
    rw [decL] at h
    cases h; rfl
  | n + 1, first, last, pos, l, q, h => by
    rw [decL] at h
    cases he : entP s first last pos with
    | none => rw [he] at h; cases h
    | some x =>
      obtain ⟨x, p'⟩ := x
      rw [he] at h
      dsimp only at h
      cases hd : decL s n false x.1 p' with
      | none => rw [hd] at h; cases h
      | some y =>
        obtain ⟨l', q'⟩ := y
        rw [hd] at h
        cases h
        rw [List.length_cons, decL_len s n false x.1 p' l' _ hd]
theorem decT_small {s : List UInt8} {t : List En} (h : decT s = some t) : t.length ≤ 1024 := by
  unfold decT at h
  split at h
  · cases h
  split at h
  · cases h
  rename_i h1 h2
  cases hd : decL s (valB (s.take 2)) true [] 2 with
  | none => rw [hd] at h; cases h
  | some y =>
    obtain ⟨l, q⟩ := y
    rw [hd] at h
    dsimp only at h
    split at h
    · cases h
      rw [decL_len _ _ _ _ _ _ _ hd]; omega
    · cases h
theorem decC_small {s : List UInt8} {c : Cm} (h : decC s = some c) : c.1.length ≤ 16 := by
  unfold decC at h
  split at h
  · cases h
  split at h
  · cases h
  split at h
  · cases h
  split at h
  · cases h
  rename_i h1 h2 h3 h4
  cases h
  exact (checkC_ok (by simpa using h4)).1
theorem SmallS.addT {s : St2} (h : SmallS s) {t : List En} (ht : t.length ≤ 1048576) : SmallS (s.1 ++ [t], s.2) := ⟨fun x hx => by
  rcases List.mem_append.1 hx with hx | hx
  · exact h.1 x hx
  · obtain rfl : x = t := by simpa using hx
    exact ht, h.2⟩
theorem SmallS.addC {s : St2} (h : SmallS s) {c : Cm} (hc : c.1.length ≤ 1048576) : SmallS (s.1, s.2 ++ [c]) := ⟨h.1, fun x hx => by
  rcases List.mem_append.1 hx with hx | hx
  · exact h.2 x hx
  · obtain rfl : x = c := by simpa using hx
    exact hc⟩
theorem stand1_small {s s' : St2} {f : Fm} (h : SmallS s) (hs : stand1 s f = some s') : SmallS s' := by
  unfold stand1 at hs
  split at hs
  · cases hd : decT f.2 with
    | none => rw [hd] at hs; cases hs
    | some t =>
      rw [hd] at hs
      dsimp only at hs
      split at hs
      · cases hs
      · cases hs; exact h.addT (by have := decT_small hd; omega)
  · split at hs
    · cases hd : decC f.2 with
      | none => rw [hd] at hs; cases hs
      | some c =>
        rw [hd] at hs
        dsimp only at hs
        split at hs
        · cases hs
        · cases hs; exact h.addC (by have := decC_small hd; omega)
    · cases hs
theorem runS_small : ∀ {s : St2} {l : List Fm}, SmallS s → SmallS (runS s l).1
  | s, [], h => h
  | s, f :: l, h => by
    rw [runS]
    cases hs : stand1 s f with
    | none => exact h
    | some s' => exact runS_small (stand1_small h hs)
theorem openS_small (d : Dk) : SmallS (openS d) := runS_small ⟨fun t ht => by (cases ht), fun c hc => by (cases hc)⟩
theorem addR_small {x : PSt} {e0 : Int} {n : Nat} {f : Fm} {s' : St2} (h : SmallS x.s) (h2 : e0 = 0 → SmallS s') : SmallS (addR x e0 n f s').1.s := by
  unfold addR
  split
  · exact h
  · split
    · exact h
    · rename_i h3
      split
      · exact h
      · split
        · exact h
        · exact h2 (by simpa using h3)
theorem addT_small {x : PSt} (h : SmallS x.s) (t : List En) : SmallS (addT x t).1.s := addR_small h fun h0 => h.addT (by have := (encErr_ok h0).1; omega)
theorem addC_small {x : PSt} (h : SmallS x.s) (c : Cm) : SmallS (addC x c).1.s := addR_small h fun h0 => h.addC (by
  by_cases hc : checkC c = 0
  · have := (checkC_ok hc).1; omega
  · rw [if_pos hc] at h0; exact absurd h0 hc)
theorem writeD_in {m : Nat} {d : Dk} (h : Within m d) (f : Fm) : Within m (writeD d f).1 := by
  unfold writeD
  split
  · exact appendD_in h _ _
  · exact syncD_in (appendD_in h _ _) _
theorem addR_in {m : Nat} {x : PSt} {e0 : Int} {n : Nat} {f : Fm} {s' : St2} (h : Within m x.d) : Within m (addR x e0 n f s').1.d := by
  unfold addR
  repeat' split
  · exact h
  · exact h
  · exact h
  · exact writeD_in h f
  · exact writeD_in h f
theorem addT_in {m : Nat} {x : PSt} (h : Within m x.d) (t : List En) : Within m (addT x t).1.d := addR_in h
theorem addC_in {m : Nat} {x : PSt} (h : Within m x.d) (c : Cm) : Within m (addC x c).1.d := addR_in h
theorem settle_in {m : Nat} {d : Dk} (h : Within m d) (n len : Nat) : Within m (settleD d n len).1 := by
  rw [settle_two]
  split
  · exact settle2_in h n len
  · exact syncNamesD_in (settle2_in h n len)
theorem open_in {m : Nat} {d : Dk} (h : Within m d) : Within (m + 1) (openD d).1 := by
  unfold openD
  split
  · unfold freshD
    split
    · exact createD_in h _
    · exact syncNamesD_in (createD_in h _)
  · split
    · exact h.mono om0
    · exact (settle_in h _ _).mono om0
end SX
namespace SX
open Go Go.Proofs
theorem pu_conv_w {P : Program} {env : Env} {s t : TypeId} {ks k k' : IntKind} [hs : TInt P s ks] [ht : TInt P t k'] {x : Operand} {n m : Int} (h : k'.wrap n = m) (hx : evalE env x = some (.int k n)) : Pu P env (.convert s t x) (.int k' m) := by
  have := pu_conv (P := P) (s := s) (t := t) (k' := k') hx
  rwa [h] at this
theorem wrap_u64_nat (n : Int) : ∃ a : Nat, IntKind.u64.wrap n = (a : Int) ∧ a < 18446744073709551616 := by
  have h1 : 0 ≤ n % 18446744073709551616 := Int.emod_nonneg _ (by decide)
  have h2 : n % 18446744073709551616 < 18446744073709551616 := Int.emod_lt_of_pos _ (by decide)
  refine ⟨(n % 18446744073709551616).toNat, ?_, by omega⟩
  show n % (2 ^ 64) = _
  rw [show (2 : Int) ^ 64 = 18446744073709551616 from by decide]
  omega
theorem POpen.opt {μ μ' : PH} {pd pr : Nat} {d : Dk} {o : Option Two} (h : POpen μ pd pr d o μ') : ∃ y, OptOk μ' pd pr y o := by
  obtain ⟨_, ⟨_, rfl⟩ | ⟨_, x, rfl, h2⟩⟩ := h
  · exact ⟨none, trivial⟩
  · exact ⟨some (openS d, false), h2, openS_small d⟩
theorem two_close {sa sb : Nat} {Wa Wb : SW} {A B C D : Assn} : Ent [stH sa Wa, ttA Wa, ccA Wa, rsH sb Wb, ttA Wb, ccA Wb, A, B, C, D] [A, B, C, stO (some (sa, Wa, sb, Wb)), D] :=
  (star_close (K := twoL (sa, Wa, sb, Wb)) (L := [A, B, C, D])).trans (Ent.perm (by
    refine List.Perm.trans (List.Perm.swap _ _ _) (List.Perm.cons _ ?_)
    refine List.Perm.trans (List.Perm.swap _ _ _) (List.Perm.cons _ ?_)
    exact List.Perm.swap _ _ _))
abbrev moreN : ByteArray := ⟨#[109, 111, 114, 101]⟩
/-- what a step leaves -/
def StepQ (μ : PH) (pp pd pr m : Nat) (L : List Assn) : Prop := ∃ d y o μ', Le μ μ' ∧ d.Ok ∧ Within (m + 4) d ∧ OptOk μ' pd pr y o ∧ L = [prA pp pd pr (svO o) (wvO o), FSA pd d, RDA pr d, stO o, ro μ']
set_option maxHeartbeats 16000000 in
theorem pstep_spec (μ : PH) (pp pd pr : Nat) (o : Option Two) (d : Dk) (hd : d.Ok) (m : Nat) (hw : Within m d) (hm : m ≤ 980000) (y : Option (St2 × Bool)) (ho : OptOk μ pd pr y o) (op : OpS) (hop : op.Ok μ) :
  Spec Tryz.prog 29 [pv pp, .agg (oscs op).toArray] [prA pp pd pr (svO o) (wvO o), FSA pd d, RDA pr d, stO o, ro μ] (fun r L => r = .bool true ∧ StepQ μ pp pd pr m L) := by
 have hk8 := hop.kd
 obtain ⟨tA, tc, htv⟩ := hop.tr.sl
 obtain ⟨cA, cc, hcv⟩ := hop.cr.sl
 obtain ⟨kA, kc, hkv⟩ := hop.kr.sl
 obtain ⟨kind, tv, t, cv, c, n, fn, kv, keep⟩ := op
 dsimp only at htv hcv hkv hk8
 subst htv hcv hkv
 have hfw := few_of hw om0
 refine Spec.of 189 Tryz.func29 rfl rfl rfl ?_
 refine swp_seq ?_
 refine swp_region ?_
 refine s_ef (ef_box rfl rfl) ?_
 intro b3
 refine s_pu (pu_assign rfl) ?_
 refine swl_sub _ (sc0 0 rfl (sc0 3 rfl .nil)) ?_
 refine swl_nil ?_
 refine then_n ?_
 refine swp_seq ?_
 refine swp_seq ?_
 refine swp_region ?_
 refine s_pu (pu_fieldAddr0 rfl) ?_
 refine s_rd (rd_load rfl rfl) ?_
 refine s_pu (pu_rem_nat (a := kind) (b := 8) rfl rfl (by decide)) ?_
 refine swl_sub _ (sc0 0 rfl (sc0 3 rfl (sc0 16 rfl .nil))) ?_
 refine swl_nil ?_
 refine then_n ?_
 refine swp_block ?_
 refine swp_seq ?_
 refine swp_region ?_
 refine s_pu (pu_eql rfl rfl) ?_
 refine s_pu (pu_assign rfl) ?_
 refine swl_sub _ (sc0 0 rfl (sc0 3 rfl (sc0 16 rfl (sc0 17 rfl .nil)))) ?_
 refine swl_nil ?_
 refine then_n ?_
 refine swp_cond (b := _) rfl (fun h17 => ?_) (fun h17 => ?_)
 ·skip
  refine swp_seq ?_
  refine swp_draw [3, 5] _ [] (by simp only [List.append_nil]; exact Ent.refl _) kr0 ?_
  refine d_pu 0 rfl (pu_move rfl) kr0 kr0 kr0 ?_
  refine d_pu 1 rfl (pu_nilCheck rfl) kr0 kr0 kr0 ?_
  refine d_pu 2 rfl (pu_fieldAddr0 rfl) kr0 kr0 kr0 ?_
  refine d_rd 3 rfl (rd_load rfl rfl) rfl kr0 kr0 kr0 ?_
  refine d_pu 4 rfl (pu_fieldAddr0 rfl) kr0 kr0 kr0 ?_
  refine d_rd 5 rfl (rd_load rfl rfl) rfl kr0 kr0 kr0 ?_
  refine d_fint 6 rfl kr0 kr0 (ef_fn (fall_spec pd d n) rfl rfl sp0) ?_
  rintro v25 L1 rfl
  refine swd_app ?_
  refine d_sub _ (sc0 0 rfl (sc0 3 rfl .nil)) ?_
  refine d_nilf kr0 ?_
  refine then_n ?_
  refine swp_seq ?_
  refine swp_draw [3, 5] _ [] (by simp only [List.append_nil]; exact Ent.refl _) kr0 ?_
  refine d_pu 0 rfl (pu_move rfl) kr0 kr0 kr0 ?_
  refine d_pu 1 rfl (pu_nilCheck rfl) kr0 kr0 kr0 ?_
  refine d_pu 2 rfl (pu_fieldAddr0 rfl) kr0 kr0 kr0 ?_
  refine d_rd 3 rfl (rd_load rfl rfl) rfl kr0 kr0 kr0 ?_
  refine d_pu 4 rfl (pu_fieldAddr0 rfl) kr0 kr0 kr0 ?_
  refine d_rd 5 rfl (rd_load rfl rfl) rfl kr0 kr0 kr0 ?_
  refine d_fint 6 rfl kr0 kr0 (ef_fn (rfall_spec pr d n) rfl rfl sp0) ?_
  rintro v32 L1 rfl
  refine swd_app ?_
  refine d_sub _ .nil ?_
  refine d_nilf kr0 ?_
  refine then_n ?_
  refine swp_seq ?_
  refine swp_region ?_
  refine s_pu (pu_assign rfl) ?_
  refine swl_sub _ (sc0 4 rfl .nil) ?_
  refine swl_nil ?_
  refine then_n ?_
  refine swp_ret ?_
  refine block_r ?_
  refine then_r ?_
  exact done_ret [prA pp pd pr (svO o) (wvO o), FSA pd (fallD d n), RDA pr (fallD d n), stO o, ro μ] (.tmp rfl .nil) ⟨rfl, fallD d n, y, o, μ, Le.refl _, fallD_ok hd hop.nr.2, (fallD_in hw n).mono om0, ho, rfl⟩ sp0
 ·skip
  refine swp_seq ?_
  refine swp_region ?_
  refine s_pu (pu_eql rfl rfl) ?_
  refine s_pu (pu_assign rfl) ?_
  refine swl_sub _ (sc0 0 rfl (sc0 3 rfl (sc0 16 rfl (sc0 33 rfl .nil)))) ?_
  refine swl_nil ?_
  refine then_n ?_
  refine swp_cond (b := _) rfl (fun h33 => ?_) (fun h33 => ?_)
  ·skip
   refine swp_seq ?_
   refine swp_draw [3, 5] _ [] (by simp only [List.append_nil]; exact Ent.refl _) kr0 ?_
   refine d_pu 0 rfl (pu_move rfl) kr0 kr0 kr0 ?_
   refine d_pu 1 rfl (pu_nilCheck rfl) kr0 kr0 kr0 ?_
   refine d_pu 2 rfl (pu_fieldAddr0 rfl) kr0 kr0 kr0 ?_
   refine d_rd 3 rfl (rd_load rfl rfl) rfl kr0 kr0 kr0 ?_
   refine d_pu 4 rfl (pu_fieldAddr0 rfl) kr0 kr0 kr0 ?_
   refine d_rd 5 rfl (rd_loadX rfl rfl rfl) rfl kr0 kr0 kr0 ?_
   refine d_fint 6 rfl kr0 kr0 (ef_fn (crash_spec μ pd d hd fn (.slice kA keep.length kc) keep hop.kr hfw) rfl rfl sp0) ?_
   rintro v41 L1 ⟨μ1, l1, rfl⟩
   refine swd_app ?_
   refine d_sub _ (sc0 0 rfl (sc0 3 rfl .nil)) ?_
   refine d_nilf kr0 ?_
   refine then_n ?_
   refine swp_seq ?_
   refine swp_draw [3, 5] _ [] (by simp only [List.append_nil]; exact Ent.refl _) kr0 ?_
   refine d_pu 0 rfl (pu_move rfl) kr0 kr0 kr0 ?_
   refine d_pu 1 rfl (pu_nilCheck rfl) kr0 kr0 kr0 ?_
   refine d_pu 2 rfl (pu_fieldAddr0 rfl) kr0 kr0 kr0 ?_
   refine d_rd 3 rfl (rd_load rfl rfl) rfl kr0 kr0 kr0 ?_
   refine d_pu 4 rfl (pu_fieldAddr0 rfl) kr0 kr0 kr0 ?_
   refine d_rd 5 rfl (rd_loadX rfl rfl rfl) rfl kr0 kr0 kr0 ?_
   refine d_fint 6 rfl kr0 kr0 (ef_fn (rcrash_spec μ1 pr d hd hfw fn (.slice kA keep.length kc) keep (hop.kr.le l1)) rfl rfl sp0) ?_
   rintro v48 L1 rfl
   refine swd_app ?_
   refine d_sub _ (sc0 0 rfl (sc0 3 rfl .nil)) ?_
   refine d_nilf kr0 ?_
   refine then_n ?_
   refine swp_cut (fun env L => ∃ d2 μ2 sv wv, d2.Ok ∧ Within (m + 2) d2 ∧ Le μ μ2 ∧ Sub env [(0, pv pp)] ∧ Ent L [prA pp pd pr sv wv, FSA pd d2, RDA pr d2, ro μ2]) ?_ ?_
   ·skip
    refine swp_seq ?_
    have hd1 := crashD_ok hd fn keep
    have hw1 := crashD_in hw fn keep
    generalize crashD d fn keep = d1 at *
    refine swp_region ?_
    refine s_pu (pu_fieldAddr0 rfl) ?_
    refine s_rd (rd_load rfl rfl) ?_
    refine s_pu (pu_gtr rfl rfl) ?_
    refine swl_sub _ (sc0 0 rfl (sc0 3 rfl (sc0 51 rfl .nil))) ?_
    refine swl_nil ?_
    refine then_n ?_
    refine swp_cond (b := _) rfl (fun h51 => ?_) (fun h51 => ?_)
    ·skip
     refine swp_seq ?_
     refine swp_draw [3, 5] _ [] (by simp only [List.append_nil]; exact Ent.refl _) kr0 ?_
     refine d_pu 0 rfl (pu_move rfl) kr0 kr0 kr0 ?_
     refine d_pu 1 rfl (pu_nilCheck rfl) kr0 kr0 kr0 ?_
     refine d_pu 2 rfl (pu_fieldAddr0 rfl) kr0 kr0 kr0 ?_
     refine d_rd 3 rfl (rd_load rfl rfl) rfl kr0 kr0 kr0 ?_
     refine d_pu 4 rfl (pu_fieldAddr0 rfl) kr0 kr0 kr0 ?_
     refine d_rd 5 rfl (rd_load rfl rfl) rfl kr0 kr0 kr0 ?_
     refine d_fint 6 rfl kr0 kr0 (ef_fn (fall_spec pd d1 n) rfl rfl sp0) ?_
     rintro v58 L1 rfl
     refine swd_app ?_
     refine d_sub _ (sc0 0 rfl (sc0 3 rfl .nil)) ?_
     refine d_nilf kr0 ?_
     refine then_n ?_
     refine swp_seq ?_
     refine swp_draw [3, 5] _ [] (by simp only [List.append_nil]; exact Ent.refl _) kr0 ?_
     refine d_pu 0 rfl (pu_move rfl) kr0 kr0 kr0 ?_
     refine d_pu 1 rfl (pu_nilCheck rfl) kr0 kr0 kr0 ?_
     refine d_pu 2 rfl (pu_fieldAddr0 rfl) kr0 kr0 kr0 ?_
     refine d_rd 3 rfl (rd_load rfl rfl) rfl kr0 kr0 kr0 ?_
     refine d_pu 4 rfl (pu_fieldAddr0 rfl) kr0 kr0 kr0 ?_
     refine d_rd 5 rfl (rd_load rfl rfl) rfl kr0 kr0 kr0 ?_
     refine d_fint 6 rfl kr0 kr0 (ef_fn (rfall_spec pr d1 n) rfl rfl sp0) ?_
     rintro v65 L1 rfl
     refine swd_app ?_
     refine d_sub _ (sc0 0 rfl (sc0 3 rfl .nil)) ?_
     refine d_nilf kr0 ?_
     refine then_n ?_
     refine swp_seq ?_
     refine swp_seq ?_
     have hd2 := fallD_ok hd1 hop.nr.2
     have hw2 := fallD_in hw1 n
     dsimp only at hd2 hw2
     generalize fallD d1 n = d2 at *
     refine swp_region ?_
     refine s_pu (pu_move rfl) ?_
     refine s_ef (ef_fn (popen_spec μ1 pp pd pr (svO o) (wvO o) d2 hd2 m hw2 om0) rfl rfl sp0) ?_
     rintro v67 L1 ⟨rfl, o2, μ2, hpo, rfl⟩
     obtain ⟨y2, hy2⟩ := hpo.opt
     have l2 := hpo.1
     refine swl_app ?_
     refine s_pu (pu_not rfl) ?_
     refine s_pu (pu_move rfl) ?_
     refine s_split 69 rfl (fun h69 => by cases h69) (fun h69 => ?_)
     refine s_on rfl rfl ?_
     refine s_pu (pu_move rfl) ?_
     refine s_on rfl rfl ?_
     refine s_ef (ef_fn (ptold_spec μ2 pp pd pr o2 (openD d2).1 (open_ok hd2) (m + 1) (open_in hw2) om0 y2 hy2) rfl rfl sp0) ?_
     rintro v71 L1 ⟨rfl, μ3, l3, rfl⟩
     refine swl_app ?_
     refine s_on rfl rfl ?_
     refine s_pu (pu_not rfl) ?_
     refine s_pu (pu_pick_f rfl rfl) ?_
     refine swl_sub _ (sc0 0 rfl (sc0 3 rfl (sc0 73 rfl .nil))) ?_
     refine swl_nil ?_
     refine then_n ?_
     refine swp_cond (b := _) rfl (fun h73 => by cases h73) (fun h73 => ?_)
     refine swp_skip ?_
     refine then_n ?_
     refine swp_seq ?_
     refine swp_draw [3, 5] _ [] (by simp only [List.append_nil]; exact Ent.refl _) kr0 ?_
     refine d_pu 0 rfl (pu_move rfl) kr0 kr0 kr0 ?_
     refine d_pu 1 rfl (pu_nilCheck rfl) kr0 kr0 kr0 ?_
     refine d_pu 2 rfl (pu_fieldAddr0 rfl) kr0 kr0 kr0 ?_
     refine d_rd 3 rfl (rd_load rfl rfl) rfl kr0 kr0 kr0 ?_
     refine d_pu 4 rfl (pu_fieldAddr0 rfl) kr0 kr0 kr0 ?_
     refine d_rd 5 rfl (rd_loadX rfl rfl rfl) rfl kr0 kr0 kr0 ?_
     refine d_fint 6 rfl kr0 kr0 (ef_fn (crash_spec μ3 pd (openD d2).1 (open_ok hd2) fn (.slice kA keep.length kc) keep (hop.kr.le (l1.trans (l2.trans l3))) (few_of (open_in hw2) om0)) rfl rfl sp0) ?_
     rintro v80 L1 ⟨μ4, l4, rfl⟩
     refine swd_app ?_
     refine d_sub _ (sc0 0 rfl (sc0 3 rfl .nil)) ?_
     refine d_nilf kr0 ?_
     refine then_n ?_
     refine swp_draw [3, 5] _ [] (by simp only [List.append_nil]; exact Ent.refl _) kr0 ?_
     refine d_pu 0 rfl (pu_move rfl) kr0 kr0 kr0 ?_
     refine d_pu 1 rfl (pu_nilCheck rfl) kr0 kr0 kr0 ?_
     refine d_pu 2 rfl (pu_fieldAddr0 rfl) kr0 kr0 kr0 ?_
     refine d_rd 3 rfl (rd_load rfl rfl) rfl kr0 kr0 kr0 ?_
     refine d_pu 4 rfl (pu_fieldAddr0 rfl) kr0 kr0 kr0 ?_
     refine d_rd 5 rfl (rd_loadX rfl rfl rfl) rfl kr0 kr0 kr0 ?_
     refine d_fint 6 rfl kr0 kr0 (ef_fn (rcrash_spec μ4 pr (openD d2).1 (open_ok hd2) (few_of (open_in hw2) om0) fn (.slice kA keep.length kc) keep (hop.kr.le (l1.trans (l2.trans (l3.trans l4))))) rfl rfl sp0) ?_
     rintro v87 L1 rfl
     refine swd_app ?_
     refine d_sub _ (sc0 0 rfl .nil) ?_
     refine d_nilf kr0 ?_
     exact then_n ⟨crashD (openD d2).1 fn keep, μ4, svO o2, wvO o2, crashD_ok (open_ok hd2) _ _, crashD_in ((open_in hw2).mono om0) _ _, l1.trans (l2.trans (l3.trans l4)), ⟨rfl, trivial⟩, Split.ent' sp0⟩
    ·skip
     refine swp_skip ?_
     exact then_n ⟨d1, μ1, svO o, wvO o, hd1, hw1.mono om0, l1, ⟨rfl, trivial⟩, Split.ent' sp0⟩
   rintro env L ⟨d2, μ2, sv, wv, hd2, hw2, l2, hsub, hE⟩
   refine swp_sub _ hsub ?_
   refine swp_ent hE ?_
   clear hsub hE env L
   refine swp_seq ?_
   refine swp_region ?_
   refine s_pu (pu_move rfl) ?_
   refine s_ef (ef_fn (popen_spec μ2 pp pd pr sv wv d2 hd2 (m + 2) hw2 om0) rfl rfl sp0) ?_
   rintro v89 L1 ⟨rfl, o2, μ3, hpo, rfl⟩
   refine swl_app ?_
   refine s_pu (pu_assign rfl) ?_
   refine swl_sub _ (sc0 4 rfl .nil) ?_
   refine swl_nil ?_
   refine then_n ?_
   refine swp_ret ?_
   refine block_r ?_
   refine then_r ?_
   obtain ⟨y2, hy2⟩ := hpo.opt
   exact done_ret [prA pp pd pr (svO o2) (wvO o2), FSA pd (openD d2).1, RDA pr (openD d2).1, stO o2, ro μ3] (.tmp rfl .nil) ⟨rfl, (openD d2).1, y2, o2, μ3, l2.trans hpo.1, open_ok hd2, (open_in hw2).mono om0, hy2, rfl⟩ sp0
  ·skip
   refine swp_seq ?_
   refine swp_region ?_
   refine s_pu (pu_eql rfl rfl) ?_
   refine s_pu (pu_assign rfl) ?_
   refine swl_sub _ (sc0 0 rfl (sc0 3 rfl (sc0 90 rfl .nil))) ?_
   refine swl_nil ?_
   refine then_n ?_
   refine swp_cond (b := _) rfl (fun h90 => ?_) (fun h90 => ?_)
   ·skip
    obtain ⟨a, ha, ha2⟩ := wrap_u64_nat n
    have hkk : a % 200 < 200 := Nat.mod_lt _ (by decide)
    refine swp_seq ?_
    refine swp_region ?_
    refine s_pu (pu_fieldAddr0 rfl) ?_
    refine s_rd (rd_load rfl rfl) ?_
    refine s_pu (pu_conv_w ha rfl) ?_
    refine s_pu (pu_rem_nat (a := a) (b := 200) rfl rfl (by decide)) ?_
    refine s_ef (ef_make1 (a % 200) rfl rfl rfl om0 (by simp only [maxLen]; omega)) ?_
    rintro b96
    generalize a % 200 = k at *
    have hbz : List.replicate k (Value.int .u8 0) = bcs (List.replicate k 0) ++ [] := by
     rw [List.append_nil]
     clear hkk
     induction k with
     | zero => rfl
     | succ k ih => rw [List.replicate_succ, List.replicate_succ, ih]; rfl
    rw [hbz]
    refine s_rd (rd_bytes (List.replicate k 0) (by rw [List.length_replicate]; rfl) tk0) ?_
    refine s_pu (pu_assign rfl) ?_
    refine swl_sub _ (sc0 0 rfl (sc0 5 rfl .nil)) ?_
    refine swl_nil ?_
    refine then_n ?_
    refine swp_seq ?_
    rw [show (⟨(List.replicate k (0 : UInt8)).toArray⟩ : ByteArray) = str (List.replicate k 0) from rfl]
    refine swp_ent (Split.ent' (K := [prA pp pd pr (svO o) (wvO o), FSA pd d, RDA pr d, stO o, ro μ]) sp0) ?_
    have hz : (List.replicate k (0 : UInt8)).length ≤ 1048576 := by rw [List.length_replicate]; omega
    generalize List.replicate k (0 : UInt8) = zs at *
    have hd1 := createD_ok hd moreN
    have hw1 := createD_in hw moreN
    refine swp_draw [3, 8, 15, 21] ([prA pp pd pr (svO o) (wvO o)]) ([FSA pd d, RDA pr d, stO o, ro μ]) (Split.ent sp0) kr0 ?_
    refine d_pu 0 rfl (pu_move rfl) kr0 kr0 kr0 ?_
    refine d_pu 1 rfl (pu_nilCheck rfl) kr0 kr0 kr0 ?_
    refine d_pu 2 rfl (pu_fieldAddr0 rfl) kr0 kr0 kr0 ?_
    refine d_rd 3 rfl (rd_load rfl rfl) rfl kr0 kr0 kr0 ?_
    refine d_pu 5 rfl (pu_move rfl) kr0 kr0 kr0 ?_
    refine d_pu 6 rfl (pu_nilCheck rfl) kr0 kr0 kr0 ?_
    refine d_pu 7 rfl (pu_fieldAddr0 rfl) kr0 kr0 kr0 ?_
    refine d_rd 8 rfl (rd_load rfl rfl) rfl kr0 kr0 kr0 ?_
    refine d_eft 4 rfl kr0 (ef_fn (create_spec pd d hd hfw moreN) rfl rfl sp0) ?_
    rintro v102 L1 ⟨rfl, rfl⟩
    refine ⟨_, ent_appC (Split.ent sp0), ?_⟩
    refine d_eft 9 rfl kr0 (ef_fn (rcreate_spec pr d hd hfw moreN) rfl rfl sp0) ?_
    rintro v107 L1 ⟨rfl, rfl⟩
    refine ⟨_, ent_appC (Split.ent sp0), ?_⟩
    refine d_pu 10 rfl (pu_eql rfl rfl) kr0 kr0 kr0 ?_
    refine d_pu 11 rfl (pu_move rfl) kr0 kr0 kr0 ?_
    refine d_split 109 rfl (fun h109 => ?_) (fun h109 => by simp at h109)
    refine d_pu_on 12 rfl rfl rfl (pu_move rfl) kr0 kr0 kr0 ?_
    refine d_pu_on 13 rfl rfl rfl (pu_nilCheck rfl) kr0 kr0 kr0 ?_
    refine d_pu_on 14 rfl rfl rfl (pu_fieldAddr0 rfl) kr0 kr0 kr0 ?_
    refine d_rd_on 15 rfl rfl rfl (rd_load rfl rfl) rfl kr0 kr0 kr0 ?_
    refine d_pu_on 16 rfl rfl rfl (pu_move rfl) kr0 kr0 kr0 ?_
    refine d_pu_on 18 rfl rfl rfl (pu_move rfl) kr0 kr0 kr0 ?_
    refine d_pu_on 19 rfl rfl rfl (pu_nilCheck rfl) kr0 kr0 kr0 ?_
    refine d_pu_on 20 rfl rfl rfl (pu_fieldAddr0 rfl) kr0 kr0 kr0 ?_
    refine d_rd_on 21 rfl rfl rfl (rd_load rfl rfl) rfl kr0 kr0 kr0 ?_
    refine d_pu_on 22 rfl rfl rfl (pu_move rfl) kr0 kr0 kr0 ?_
    refine d_amb [17] kr0 rfl ?_
    refine dA_ef 17 rfl (GOn.some rfl rfl) (ef_fn (append_l pd (createD d moreN).1 hd1 moreN zs hz) rfl rfl sp0) ?_
    rintro v115 L1 ⟨rfl, rfl⟩
    refine ⟨_, ent_appC (Split.ent sp0), ?_⟩
    refine d_amb [23] kr0 rfl ?_
    refine dA_fint 23 rfl (GOn.some rfl rfl) kr0 (ef_fn (rappend_l pr (createD d moreN).1 hd1 (few_of hw1 om0) moreN zs hz) rfl rfl sp0) ?_
    rintro v121 L1 ⟨rfl, rfl⟩
    refine swd_app ?_
    refine d_pu_on 24 rfl rfl rfl (pu_eql rfl rfl) kr0 kr0 kr0 ?_
    refine d_pu 25 rfl (pu_pick_t rfl rfl) kr0 kr0 kr0 ?_
    refine d_pu 26 rfl (pu_assign rfl) kr0 kr0 kr0 ?_
    refine d_sub _ (sc0 4 rfl .nil) ?_
    refine d_nilf kr0 ?_
    refine then_n ?_
    refine swp_ret ?_
    refine block_r ?_
    refine then_r ?_
    exact done_ret [prA pp pd pr (svO o) (wvO o), FSA pd (appendD (createD d moreN).1 moreN zs).1, RDA pr (appendD (createD d moreN).1 moreN zs).1, stO o, ro μ] (.tmp rfl .nil) ⟨by simp; rfl, (appendD (createD d moreN).1 moreN zs).1, y, o, μ, Le.refl _, appendD_ok hd1 _ _, (appendD_in hw1 _ _).mono om0, ho, rfl⟩ sp0
   ·skip
    refine swp_skip ?_
    refine block_n ?_
    refine then_n ?_
    refine swp_seq ?_
    refine swp_seq ?_
    refine swp_region ?_
    refine s_pu (pu_move rfl) ?_
    refine s_pu (pu_nilCheck rfl) ?_
    refine s_pu (pu_fieldAddr0 rfl) ?_
    refine s_rd (rd_load rfl rfl) ?_
    refine s_pu (pu_ptr_eq_nil rfl rfl) ?_
    refine swl_sub _ (sc0 0 rfl (sc0 3 rfl (sc0 128 rfl .nil))) ?_
    refine swl_nil ?_
    refine then_n ?_
    refine swp_cond (b := _) rfl (fun h128 => ?_) (fun h128 => ?_)
    ·skip
     refine swp_seq ?_
     refine swp_region ?_
     refine s_pu (pu_assign rfl) ?_
     refine swl_sub _ (sc0 4 rfl .nil) ?_
     refine swl_nil ?_
     refine then_n ?_
     refine swp_ret ?_
     refine then_r ?_
     exact done_ret [prA pp pd pr (svO o) (wvO o), FSA pd d, RDA pr d, stO o, ro μ] (.tmp rfl .nil) ⟨rfl, d, y, o, μ, Le.refl _, hd, hw.mono om0, ho, rfl⟩ sp0
    ·skip
     obtain ⟨x, rfl⟩ : ∃ x, o = some x := by
      cases o with
      | none => cases h128
      | some x => exact ⟨x, rfl⟩
     obtain ⟨s, dead, ht, hsm⟩ : ∃ s dead, TwoOk μ pd pr s dead x ∧ SmallS s := by
      cases y with
      | none => exact ho.elim
      | some y => exact ⟨y.1, y.2, ho.1, ho.2⟩
     obtain ⟨sa, Wa, sb, Wb⟩ := x
     obtain ⟨hA, hB, hqa, hqb, hpa, hpb, hda, hdb⟩ := ht
     dsimp only at hA hB hqa hqb hpa hpb hda hdb
     subst hqa hqb
     refine swp_front (A := stO (some (sa, Wa, sb, Wb))) tk0 ?_
     refine swp_ent (star_ent (K := twoL (sa, Wa, sb, Wb))) ?_
     simp only [twoL, List.cons_append, List.nil_append]
     rw [show svO (some (sa, Wa, sb, Wb)) = pv sa from rfl, show wvO (some (sa, Wa, sb, Wb)) = pv sb from rfl]
     refine swp_skip ?_
     refine then_n ?_
     refine swp_seq ?_
     refine swp_seq ?_
     refine swp_region ?_
     refine s_pu (pu_fieldAddr0 rfl) ?_
     refine s_rd (rd_load rfl rfl) ?_
     refine s_pu (pu_rem_nat (a := kind) (b := 8) rfl rfl (by decide)) ?_
     refine s_pu (pu_lss rfl rfl) ?_
     refine swl_sub _ (sc0 0 rfl (sc0 3 rfl (sc0 132 rfl .nil))) ?_
     refine swl_nil ?_
     refine then_n ?_
     refine swp_cond (b := _) rfl (fun h132 => ?_) (fun h132 => ?_)
     ·skip
      refine swp_seq ?_
      refine swp_draw [3, 5] _ [] (by simp only [List.append_nil]; exact Ent.refl _) kr0 ?_
      refine d_pu 0 rfl (pu_move rfl) kr0 kr0 kr0 ?_
      refine d_pu 1 rfl (pu_nilCheck rfl) kr0 kr0 kr0 ?_
      refine d_pu 2 rfl (pu_fieldAddr0 rfl) kr0 kr0 kr0 ?_
      refine d_rd 3 rfl (rd_load rfl rfl) rfl kr0 kr0 kr0 ?_
      refine d_pu 4 rfl (pu_fieldAddr0 rfl) kr0 kr0 kr0 ?_
      refine d_rd 5 rfl (rd_load rfl rfl) rfl kr0 kr0 kr0 ?_
      refine d_fint 6 rfl kr0 kr0 (ef_fn (addtree_spec μ sa Wa hA d hd (.slice tA t.length tc) t hop.tr hop.tu) rfl rfl sp0) ?_
      rintro v140 L1 ⟨Wa', μ1, hqA, rfl⟩
      rw [hpa, hda] at hqA
      rw [hpa, hda]
      have hz1 := addT_ok (x := ⟨d, s, dead⟩) hd t
      have hz2 := addT_in (x := ⟨d, s, dead⟩) hw t
      have hz3 := addT_small (x := ⟨d, s, dead⟩) hsm t
      obtain ⟨l1, hA', q1, p1, d1, rfl⟩ := hqA
      refine swd_app ?_
      refine d_pu 7 rfl (pu_move rfl) kr0 kr0 kr0 ?_
      refine d_pu 8 rfl (pu_extractL rfl) kr0 kr0 kr0 ?_
      refine d_pu 9 rfl (pu_extractL rfl) kr0 kr0 kr0 ?_
      refine d_pu 10 rfl (pu_assign rfl) kr0 kr0 kr0 ?_
      refine d_pu 11 rfl (pu_assign rfl) kr0 kr0 kr0 ?_
      refine d_sub _ (sc0 0 rfl (sc0 3 rfl (sc0 6 rfl (sc0 7 rfl .nil)))) ?_
      refine d_nilf kr0 ?_
      refine then_n ?_
      refine swp_seq ?_
      refine swp_draw [3, 5] _ [] (by simp only [List.append_nil]; exact Ent.refl _) kr0 ?_
      refine d_pu 0 rfl (pu_move rfl) kr0 kr0 kr0 ?_
      refine d_pu 1 rfl (pu_nilCheck rfl) kr0 kr0 kr0 ?_
      refine d_pu 2 rfl (pu_fieldAddr0 rfl) kr0 kr0 kr0 ?_
      refine d_rd 3 rfl (rd_load rfl rfl) rfl kr0 kr0 kr0 ?_
      refine d_pu 4 rfl (pu_fieldAddr0 rfl) kr0 kr0 kr0 ?_
      refine d_rd 5 rfl (rd_load rfl rfl) rfl kr0 kr0 kr0 ?_
      refine d_fint 6 rfl kr0 kr0 (ef_fn (raddtree_spec μ1 sb Wb (hB.le l1) d hd m hw om0 (.slice tA t.length tc) t (hop.tr.le l1) hop.tu) rfl rfl sp0) ?_
      rintro v150 L1 ⟨Wb', μ2, hqB, rfl⟩
      rw [hpb, hdb] at hqB
      rw [hpb, hdb]
      obtain ⟨l2, hB', q2, p2, d2, rfl⟩ := hqB
      refine swd_app ?_
      refine d_pu 7 rfl (pu_move rfl) kr0 kr0 kr0 ?_
      refine d_pu 8 rfl (pu_extractL rfl) kr0 kr0 kr0 ?_
      refine d_pu 9 rfl (pu_extractL rfl) kr0 kr0 kr0 ?_
      refine d_pu 10 rfl (pu_assign rfl) kr0 kr0 kr0 ?_
      refine d_pu 11 rfl (pu_assign rfl) kr0 kr0 kr0 ?_
      refine d_sub _ (sc0 6 rfl (sc0 7 rfl (sc0 8 rfl (sc0 9 rfl .nil)))) ?_
      refine d_nilf kr0 ?_
      refine then_n ?_
      refine swp_seq ?_
      generalize addT ⟨d, s, dead⟩ t = z at *
      refine swp_region ?_
      refine s_pu (pu_move rfl) ?_
      refine s_pu (pu_move rfl) ?_
      refine s_pu (pu_eql rfl rfl) ?_
      refine s_pu (pu_move rfl) ?_
      refine s_split 156 rfl (fun h156 => ?_) (fun h156 => by simp at h156)
      refine s_on rfl rfl ?_
      refine s_pu (pu_move rfl) ?_
      refine s_on rfl rfl ?_
      refine s_pu (pu_move rfl) ?_
      refine s_on rfl rfl ?_
      refine s_pu (pu_eql rfl rfl) ?_
      refine s_pu (pu_pick_t rfl rfl) ?_
      refine s_pu (pu_assign rfl) ?_
      refine swl_sub _ (sc0 4 rfl .nil) ?_
      refine swl_nil ?_
      refine then_n ?_
      refine swp_ret ?_
      refine then_r ?_
      refine done_retE [prA pp Wa.q Wb.q (svO (some (sa, Wa', sb, Wb'))) (wvO (some (sa, Wa', sb, Wb'))), FSA Wa.q z.1.d, RDA Wb.q z.1.d, stO (some (sa, Wa', sb, Wb')), ro μ2] (.tmp rfl .nil) ⟨by simp; rfl, z.1.d, some (z.1.s, z.1.dead), some (sa, Wa', sb, Wb'), μ2, l1.trans l2, hz1, hz2.mono om0, ⟨⟨hA'.le l2, hB', q1, q2, p1, p2, d1, d2⟩, hz3⟩, rfl⟩ ?_
      rw [← q1, ← q2]
      rw [show svO (some (sa, Wa', sb, Wb')) = pv sa from rfl, show wvO (some (sa, Wa', sb, Wb')) = pv sb from rfl]
      exact (Split.ent' (K := [stH sa Wa', ttA Wa', ccA Wa', rsH sb Wb', ttA Wb', ccA Wb', prA pp Wa'.q Wb'.q (pv sa) (pv sb), FSA Wa'.q z.1.d, RDA Wb'.q z.1.d, ro μ2]) sp0).trans two_close
     ·skip
      refine swp_skip ?_
      refine then_n ?_
      refine swp_seq ?_
      refine swp_draw [3, 5] _ [] (by simp only [List.append_nil]; exact Ent.refl _) kr0 ?_
      refine d_pu 0 rfl (pu_move rfl) kr0 kr0 kr0 ?_
      refine d_pu 1 rfl (pu_nilCheck rfl) kr0 kr0 kr0 ?_
      refine d_pu 2 rfl (pu_fieldAddr0 rfl) kr0 kr0 kr0 ?_
      refine d_rd 3 rfl (rd_load rfl rfl) rfl kr0 kr0 kr0 ?_
      refine d_pu 4 rfl (pu_fieldAddr0 rfl) kr0 kr0 kr0 ?_
      refine d_rd 5 rfl (rd_loadX rfl rfl rfl) rfl kr0 kr0 kr0 ?_
      refine d_fint 6 rfl kr0 kr0 (ef_fn (addcommit_spec μ sa Wa hA d hd (.slice cA c.1.length cc) c hop.cr) rfl rfl sp0) ?_
      rintro v168 L1 ⟨Wa', μ1, hqA, rfl⟩
      rw [hpa, hda] at hqA
      rw [hpa, hda]
      have hz1 := addC_ok (x := ⟨d, s, dead⟩) hd c
      have hz2 := addC_in (x := ⟨d, s, dead⟩) hw c
      have hz3 := addC_small (x := ⟨d, s, dead⟩) hsm c
      obtain ⟨l1, hA', q1, p1, d1, rfl⟩ := hqA
      refine swd_app ?_
      refine d_pu 7 rfl (pu_move rfl) kr0 kr0 kr0 ?_
      refine d_pu 8 rfl (pu_extractL rfl) kr0 kr0 kr0 ?_
      refine d_pu 9 rfl (pu_extractL rfl) kr0 kr0 kr0 ?_
      refine d_pu 10 rfl (pu_assign rfl) kr0 kr0 kr0 ?_
      refine d_pu 11 rfl (pu_assign rfl) kr0 kr0 kr0 ?_
      refine d_sub _ (sc0 0 rfl (sc0 3 rfl (sc0 10 rfl (sc0 11 rfl .nil)))) ?_
      refine d_nilf kr0 ?_
      refine then_n ?_
      refine swp_seq ?_
      refine swp_draw [3, 5] _ [] (by simp only [List.append_nil]; exact Ent.refl _) kr0 ?_
      refine d_pu 0 rfl (pu_move rfl) kr0 kr0 kr0 ?_
      refine d_pu 1 rfl (pu_nilCheck rfl) kr0 kr0 kr0 ?_
      refine d_pu 2 rfl (pu_fieldAddr0 rfl) kr0 kr0 kr0 ?_
      refine d_rd 3 rfl (rd_load rfl rfl) rfl kr0 kr0 kr0 ?_
      refine d_pu 4 rfl (pu_fieldAddr0 rfl) kr0 kr0 kr0 ?_
      refine d_rd 5 rfl (rd_loadX rfl rfl rfl) rfl kr0 kr0 kr0 ?_
      refine d_fint 6 rfl kr0 kr0 (ef_fn (raddcommit_spec μ1 sb Wb (hB.le l1) d hd m hw om0 (.slice cA c.1.length cc) c (hop.cr.le l1)) rfl rfl sp0) ?_
      rintro v178 L1 ⟨Wb', μ2, hqB, rfl⟩
      rw [hpb, hdb] at hqB
      rw [hpb, hdb]
      obtain ⟨l2, hB', q2, p2, d2, rfl⟩ := hqB
      refine swd_app ?_
      refine d_pu 7 rfl (pu_move rfl) kr0 kr0 kr0 ?_
      refine d_pu 8 rfl (pu_extractL rfl) kr0 kr0 kr0 ?_
      refine d_pu 9 rfl (pu_extractL rfl) kr0 kr0 kr0 ?_
      refine d_pu 10 rfl (pu_assign rfl) kr0 kr0 kr0 ?_
      refine d_pu 11 rfl (pu_assign rfl) kr0 kr0 kr0 ?_
      refine d_sub _ (sc0 10 rfl (sc0 11 rfl (sc0 12 rfl (sc0 13 rfl .nil)))) ?_
      refine d_nilf kr0 ?_
      refine then_n ?_
      refine swp_seq ?_
      generalize addC ⟨d, s, dead⟩ c = z at *
      refine swp_region ?_
      refine s_pu (pu_move rfl) ?_
      refine s_pu (pu_move rfl) ?_
      refine s_pu (pu_eql rfl rfl) ?_
      refine s_pu (pu_move rfl) ?_
      refine s_split 184 rfl (fun h184 => ?_) (fun h184 => by simp at h184)
      refine s_on rfl rfl ?_
      refine s_pu (pu_move rfl) ?_
      refine s_on rfl rfl ?_
      refine s_pu (pu_move rfl) ?_
      refine s_on rfl rfl ?_
      refine s_pu (pu_eql rfl rfl) ?_
      refine s_pu (pu_pick_t rfl rfl) ?_
      refine s_pu (pu_assign rfl) ?_
      refine swl_sub _ (sc0 4 rfl .nil) ?_
      refine swl_nil ?_
      refine then_n ?_
      refine swp_ret ?_
      refine done_retE [prA pp Wa.q Wb.q (svO (some (sa, Wa', sb, Wb'))) (wvO (some (sa, Wa', sb, Wb'))), FSA Wa.q z.1.d, RDA Wb.q z.1.d, stO (some (sa, Wa', sb, Wb')), ro μ2] (.tmp rfl .nil) ⟨by simp; rfl, z.1.d, some (z.1.s, z.1.dead), some (sa, Wa', sb, Wb'), μ2, l1.trans l2, hz1, hz2.mono om0, ⟨⟨hA'.le l2, hB', q1, q2, p1, p2, d1, d2⟩, hz3⟩, rfl⟩ ?_
      rw [← q1, ← q2]
      rw [show svO (some (sa, Wa', sb, Wb')) = pv sa from rfl, show wvO (some (sa, Wa', sb, Wb')) = pv sb from rfl]
      exact (Split.ent' (K := [stH sa Wa', ttA Wa', ccA Wa', rsH sb Wb', ttA Wb', ccA Wb', prA pp Wa'.q Wb'.q (pv sa) (pv sb), FSA Wa'.q z.1.d, RDA Wb'.q z.1.d, ro μ2]) sp0).trans two_close
end SX
namespace SX
open Go Go.Proofs
theorem rnewd_spec (q : Int) : Spec Tryz.prog 10 [.int .i64 q] [] (fun r L => (¬ newOk q ∧ r = .tuple #[.pointer none, .int .i64 1] ∧ L = []) ∨ (newOk q ∧ ∃ p, r = .tuple #[pv p, .int .i64 0] ∧ L = [RDA p (newD q)])) := rnew_spec q
theorem begun_bad (q : Int) (h : ¬ newOk q) : Spec Tryz.prog 28 [.int .i64 q] [] (fun r L => r = .tuple #[.pointer none, .bool true] ∧ L = []) := by
 refine Spec.of 38 Tryz.func28 rfl rfl rfl ?_
 refine swp_seq ?_
 refine swp_region ?_
 refine s_pu (pu_assign rfl) ?_
 refine s_pu (pu_assign rfl) ?_
 refine swl_sub _ (sc0 0 rfl .nil) ?_
 refine swl_nil ?_
 refine then_n ?_
 refine swp_seq ?_
 refine swp_region ?_
 refine s_pu (pu_move rfl) ?_
 refine s_ef (ef_fn (new_spec q) rfl rfl sp0) ?_
 rintro v11 L1 hnw
 obtain ⟨rfl, rfl⟩ : v11 = .tuple #[.pointer none, .int .i64 1] ∧ L1 = [] := by
  rcases hnw with ⟨_, h⟩ | ⟨h', _⟩
  ·exact h
  ·exact absurd h' h
 refine swl_app ?_
 refine s_pu (pu_move rfl) ?_
 refine s_pu (pu_extractL rfl) ?_
 refine s_pu (pu_extractL rfl) ?_
 refine s_pu (pu_assign rfl) ?_
 refine s_pu (pu_assign rfl) ?_
 refine swl_sub _ (sc0 0 rfl (sc0 4 rfl (sc0 5 rfl .nil))) ?_
 refine swl_nil ?_
 refine then_n ?_
 refine swp_seq ?_
 refine swp_region ?_
 refine s_pu (pu_move rfl) ?_
 refine s_ef (ef_fn (rnewd_spec q) rfl rfl sp0) ?_
 rintro v16 L1 hnr
 obtain ⟨rfl, rfl⟩ : v16 = .tuple #[.pointer none, .int .i64 1] ∧ L1 = [] := by
  rcases hnr with ⟨_, h⟩ | ⟨h', _⟩
  ·exact h
  ·exact absurd h' h
 refine swl_app ?_
 refine s_pu (pu_move rfl) ?_
 refine s_pu (pu_extractL rfl) ?_
 refine s_pu (pu_extractL rfl) ?_
 refine s_pu (pu_assign rfl) ?_
 refine s_pu (pu_assign rfl) ?_
 refine swl_sub _ (sc0 4 rfl (sc0 5 rfl (sc0 6 rfl (sc0 7 rfl .nil)))) ?_
 refine swl_nil ?_
 refine then_n ?_
 refine swp_seq ?_
 refine swp_seq ?_
 refine swp_region ?_
 refine s_pu (pu_move rfl) ?_
 refine s_pu (pu_move rfl) ?_
 refine s_pu (pu_neq rfl rfl) ?_
 refine s_pu (pu_move rfl) ?_
 refine s_split 22 rfl (fun h22 => by cases h22) (fun h22 => ?_)
 refine s_on rfl rfl ?_
 refine s_pu (pu_move rfl) ?_
 refine s_on rfl rfl ?_
 refine s_pu (pu_ptr_eq_nil rfl rfl) ?_
 refine s_on rfl rfl ?_
 refine s_pu (pu_move rfl) ?_
 refine s_on rfl rfl ?_
 refine s_pu (pu_ptr_eq_nil rfl rfl) ?_
 refine s_on rfl rfl ?_
 refine s_pu (pu_bool_ne rfl rfl) ?_
 refine s_pu (pu_pick_f rfl rfl) ?_
 refine swl_sub _ (sc0 4 rfl (sc0 6 rfl (sc0 28 rfl .nil))) ?_
 refine swl_nil ?_
 refine then_n ?_
 refine swp_cond (b := _) rfl (fun h28 => by cases h28) (fun h28 => ?_)
 refine swp_skip ?_
 refine then_n ?_
 refine swp_seq ?_
 refine swp_seq ?_
 refine swp_region ?_
 refine s_pu (pu_move rfl) ?_
 refine s_pu (pu_ptr_eq_nil rfl rfl) ?_
 refine swl_sub _ (sc0 4 rfl (sc0 6 rfl (sc0 30 rfl .nil))) ?_
 refine swl_nil ?_
 refine then_n ?_
 refine swp_cond (b := _) rfl (fun h30 => ?_) (fun h30 => by cases h30)
 refine swp_seq ?_
 refine swp_region ?_
 refine s_pu (pu_assign rfl) ?_
 refine s_pu (pu_assign rfl) ?_
 refine swl_sub _ (sc0 2 rfl (sc0 3 rfl .nil)) ?_
 refine swl_nil ?_
 refine then_n ?_
 refine swp_ret ?_
 refine then_r ?_
 exact done_ret [] (.tmp rfl (.tmp rfl .nil)) ⟨rfl, rfl⟩ sp0
theorem begun_good (μ : PH) (q : Int) (h : newOk q) : Spec Tryz.prog 28 [.int .i64 q] [ro μ] (fun r L => ∃ pp pd pr y o μ' d, Le μ μ' ∧ d.Ok ∧ Within 1 d ∧ OptOk μ' pd pr y o ∧ r = .tuple #[pv pp, .bool true] ∧ L = [prA pp pd pr (svO o) (wvO o), FSA pd d, RDA pr d, stO o, ro μ']) := by
 have hn0 := newD_ok h
 refine Spec.of 38 Tryz.func28 rfl rfl rfl ?_
 refine swp_seq ?_
 refine swp_region ?_
 refine s_pu (pu_assign rfl) ?_
 refine s_pu (pu_assign rfl) ?_
 refine swl_sub _ (sc0 0 rfl .nil) ?_
 refine swl_nil ?_
 refine then_n ?_
 refine swp_seq ?_
 refine swp_region ?_
 refine s_pu (pu_move rfl) ?_
 refine s_ef (ef_fn (new_spec q) rfl rfl sp0) ?_
 rintro v11 L1 hnw
 obtain ⟨pd, rfl, rfl⟩ : ∃ p, v11 = .tuple #[pv p, .int .i64 0] ∧ L1 = [FSA p (newD q)] := by
  rcases hnw with ⟨h', _⟩ | ⟨_, h⟩
  ·exact absurd h h'
  ·exact h
 refine swl_app ?_
 refine s_pu (pu_move rfl) ?_
 refine s_pu (pu_extractL rfl) ?_
 refine s_pu (pu_extractL rfl) ?_
 refine s_pu (pu_assign rfl) ?_
 refine s_pu (pu_assign rfl) ?_
 refine swl_sub _ (sc0 0 rfl (sc0 4 rfl (sc0 5 rfl .nil))) ?_
 refine swl_nil ?_
 refine then_n ?_
 refine swp_seq ?_
 refine swp_region ?_
 refine s_pu (pu_move rfl) ?_
 refine s_ef (ef_fn (rnewd_spec q) rfl rfl sp0) ?_
 rintro v16 L1 hnr
 obtain ⟨pr, rfl, rfl⟩ : ∃ p, v16 = .tuple #[pv p, .int .i64 0] ∧ L1 = [RDA p (newD q)] := by
  rcases hnr with ⟨h', _⟩ | ⟨_, h⟩
  ·exact absurd h h'
  ·exact h
 refine swl_app ?_
 refine s_pu (pu_move rfl) ?_
 refine s_pu (pu_extractL rfl) ?_
 refine s_pu (pu_extractL rfl) ?_
 refine s_pu (pu_assign rfl) ?_
 refine s_pu (pu_assign rfl) ?_
 refine swl_sub _ (sc0 4 rfl (sc0 5 rfl (sc0 6 rfl (sc0 7 rfl .nil)))) ?_
 refine swl_nil ?_
 refine then_n ?_
 refine swp_seq ?_
 refine swp_seq ?_
 refine swp_region ?_
 refine s_pu (pu_move rfl) ?_
 refine s_pu (pu_move rfl) ?_
 refine s_pu (pu_neq rfl rfl) ?_
 refine s_pu (pu_move rfl) ?_
 refine s_split 22 rfl (fun h22 => by cases h22) (fun h22 => ?_)
 refine s_on rfl rfl ?_
 refine s_pu (pu_move rfl) ?_
 refine s_on rfl rfl ?_
 refine s_pu (pu_ptr_eq_nil rfl rfl) ?_
 refine s_on rfl rfl ?_
 refine s_pu (pu_move rfl) ?_
 refine s_on rfl rfl ?_
 refine s_pu (pu_ptr_eq_nil rfl rfl) ?_
 refine s_on rfl rfl ?_
 refine s_pu (pu_bool_ne rfl rfl) ?_
 refine s_pu (pu_pick_f rfl rfl) ?_
 refine swl_sub _ (sc0 4 rfl (sc0 6 rfl (sc0 28 rfl .nil))) ?_
 refine swl_nil ?_
 refine then_n ?_
 refine swp_cond (b := _) rfl (fun h28 => by cases h28) (fun h28 => ?_)
 refine swp_skip ?_
 refine then_n ?_
 refine swp_seq ?_
 refine swp_seq ?_
 refine swp_region ?_
 refine s_pu (pu_move rfl) ?_
 refine s_pu (pu_ptr_eq_nil rfl rfl) ?_
 refine swl_sub _ (sc0 4 rfl (sc0 6 rfl (sc0 30 rfl .nil))) ?_
 refine swl_nil ?_
 refine then_n ?_
 refine swp_cond (b := _) rfl (fun h30 => by cases h30) (fun h30 => ?_)
 refine swp_skip ?_
 refine then_n ?_
 refine swp_seq ?_
 refine swp_region ?_
 refine s_pu (pu_move rfl) ?_
 refine s_pu (pu_move rfl) ?_
 refine s_pu (pu_bld (qs := [(0, _), (3, _)]) rfl) ?_
 refine s_ef (ef_box rfl rfl) ?_
 intro b34
 refine s_pu (pu_assign rfl) ?_
 refine swl_sub _ (sc0 8 rfl .nil) ?_
 refine swl_nil ?_
 refine then_n ?_
 refine swp_seq ?_
 refine swp_region ?_
 refine s_pu (pu_move rfl) ?_
 refine s_pu (pu_move rfl) ?_
 refine s_ef (ef_fn (popen_spec μ b34 pd pr (.pointer none) (.pointer none) (newD q) hn0 0 ⟨Nat.le_refl _, Nat.le_refl _⟩ (by decide)) rfl rfl sp0) ?_
 rintro v37 L1 ⟨rfl, o, μ', hpo, rfl⟩
 refine swl_app ?_
 refine s_pu (pu_assign rfl) ?_
 refine s_pu (pu_assign rfl) ?_
 refine swl_sub _ (sc0 2 rfl (sc0 3 rfl .nil)) ?_
 refine swl_nil ?_
 refine then_n ?_
 refine swp_ret ?_
 obtain ⟨y, hy⟩ := hpo.opt
 exact done_ret [prA b34 pd pr (svO o) (wvO o), FSA pd (openD (newD q)).1, RDA pr (openD (newD q)).1, stO o, ro μ'] (.tmp rfl (.tmp rfl .nil)) ⟨b34, pd, pr, y, o, μ', (openD (newD q)).1, hpo.1, open_ok hn0, open_in (m := 0) ⟨Nat.le_refl _, Nat.le_refl _⟩, hy, rfl, rfl⟩ sp0
set_option maxHeartbeats 8000000 in
theorem storeplays_bad (μ : PH) (q : Int) (v1 : Value) (h : ¬ newOk q) : Spec Tryz.prog 5 [.int .i64 q, v1] [ro μ] (fun r L => r = .bool true ∧ ∃ μ' R, Le μ μ' ∧ L = ro μ' :: R) := by
 refine Spec.of 45 Tryz.func5 rfl rfl rfl ?_
 refine swp_seq ?_
 refine swp_region ?_
 refine s_pu (pu_assign rfl) ?_
 refine swl_sub _ (sc0 0 rfl (sc0 1 rfl .nil)) ?_
 refine swl_nil ?_
 refine then_n ?_
 refine swp_seq ?_
 refine swp_seq ?_
 refine swp_region ?_
 refine s_ef (ef_fn opens_spec rfl rfl sp0) ?_
 rintro v9 L1 ⟨rfl, rfl⟩
 refine swl_app ?_
 refine s_pu (pu_not rfl) ?_
 refine swl_sub _ (sc0 0 rfl (sc0 1 rfl (sc0 10 rfl .nil))) ?_
 refine swl_nil ?_
 refine then_n ?_
 refine swp_cond (b := _) rfl (fun h10 => by cases h10) (fun h10 => ?_)
 refine swp_skip ?_
 refine then_n ?_
 refine swp_seq ?_
 refine swp_region ?_
 refine s_pu (pu_move rfl) ?_
 refine s_ef (ef_fn (begun_bad q h) rfl rfl sp0) ?_
 rintro v13 L1 ⟨rfl, rfl⟩
 refine swl_app ?_
 refine s_pu (pu_move rfl) ?_
 refine s_pu (pu_extractL rfl) ?_
 refine s_pu (pu_extractL rfl) ?_
 refine s_pu (pu_assign rfl) ?_
 refine s_pu (pu_assign rfl) ?_
 refine swl_sub _ (sc0 1 rfl (sc0 5 rfl (sc0 6 rfl .nil))) ?_
 refine swl_nil ?_
 refine then_n ?_
 refine swp_seq ?_
 refine swp_seq ?_
 refine swp_region ?_
 refine s_pu (pu_move rfl) ?_
 refine s_pu (pu_ptr_eq_nil rfl rfl) ?_
 refine s_pu (pu_move rfl) ?_
 refine s_split 18 rfl (fun h18 => ?_) (fun h18 => by cases h18)
 refine s_off rfl rfl rfl ?_
 refine s_off rfl rfl rfl ?_
 refine s_pu (pu_pick_t rfl rfl) ?_
 refine swl_sub _ (sc0 1 rfl (sc0 5 rfl (sc0 6 rfl (sc0 21 rfl .nil)))) ?_
 refine swl_nil ?_
 refine then_n ?_
 refine swp_cond (b := _) rfl (fun h21 => ?_) (fun h21 => by cases h21)
 refine swp_seq ?_
 refine swp_region ?_
 refine s_pu (pu_move rfl) ?_
 refine s_pu (pu_assign rfl) ?_
 refine swl_sub _ (sc0 4 rfl .nil) ?_
 refine swl_nil ?_
 refine then_n ?_
 refine swp_ret ?_
 refine then_r ?_
 exact done_retE [ro μ] (.tmp rfl .nil) ⟨rfl, μ, [], Le.refl _, rfl⟩ (Split.ent' sp0)
set_option maxHeartbeats 8000000 in
theorem storeplays_good (μ : PH) (q : Int) (v1 : Value) (xs : List OpS) (h : newOk q) (hrow0 : Row μ v1 7 xs.length (xs.flatMap oscs)) (hops : ∀ o ∈ xs, o.Ok μ) :
  Spec Tryz.prog 5 [.int .i64 q, v1] [ro μ] (fun r L => r = .bool true ∧ ∃ μ' R, Le μ μ' ∧ L = ro μ' :: R) := by
 obtain ⟨hl0, A, cap, rfl, hlc, hcm, hnil, hpos⟩ := hrow0
 obtain ⟨KK, hKK⟩ : ∃ K, K = min xs.length 200 := ⟨_, rfl⟩
 simp only [maxLen] at hcm
 refine Spec.of 45 Tryz.func5 rfl rfl rfl ?_
 refine swp_seq ?_
 refine swp_region ?_
 refine s_pu (pu_assign rfl) ?_
 refine swl_sub _ (sc0 0 rfl (sc0 1 rfl .nil)) ?_
 refine swl_nil ?_
 refine then_n ?_
 refine swp_seq ?_
 refine swp_seq ?_
 refine swp_region ?_
 refine s_ef (ef_fn opens_spec rfl rfl sp0) ?_
 rintro v9 L1 ⟨rfl, rfl⟩
 refine swl_app ?_
 refine s_pu (pu_not rfl) ?_
 refine swl_sub _ (sc0 0 rfl (sc0 1 rfl (sc0 10 rfl .nil))) ?_
 refine swl_nil ?_
 refine then_n ?_
 refine swp_cond (b := _) rfl (fun h10 => by cases h10) (fun h10 => ?_)
 refine swp_skip ?_
 refine then_n ?_
 refine swp_seq ?_
 refine swp_region ?_
 refine s_pu (pu_move rfl) ?_
 refine s_ef (ef_fn (begun_good μ q h) rfl rfl sp0) ?_
 rintro v13 L1 ⟨pp, pd, pr, y0, o0, μ0, d0, l0, hd0, hw0, ho0, rfl, rfl⟩
 refine swl_app ?_
 refine s_pu (pu_move rfl) ?_
 refine s_pu (pu_extractL rfl) ?_
 refine s_pu (pu_extractL rfl) ?_
 refine s_pu (pu_assign rfl) ?_
 refine s_pu (pu_assign rfl) ?_
 refine swl_sub _ (sc0 1 rfl (sc0 5 rfl (sc0 6 rfl .nil))) ?_
 refine swl_nil ?_
 refine then_n ?_
 refine swp_seq ?_
 refine swp_seq ?_
 refine swp_region ?_
 refine s_pu (pu_move rfl) ?_
 refine s_pu (pu_ptr_eq_nil rfl rfl) ?_
 refine s_pu (pu_move rfl) ?_
 refine s_split 18 rfl (fun h18 => by cases h18) (fun h18 => ?_)
 refine s_on rfl rfl ?_
 refine s_pu (pu_move rfl) ?_
 refine s_on rfl rfl ?_
 refine s_pu (pu_not rfl) ?_
 refine s_pu (pu_pick_f rfl rfl) ?_
 refine swl_sub _ (sc0 1 rfl (sc0 5 rfl (sc0 6 rfl (sc0 21 rfl .nil)))) ?_
 refine swl_nil ?_
 refine then_n ?_
 refine swp_cond (b := _) rfl (fun h21 => by cases h21) (fun h21 => ?_)
 refine swp_skip ?_
 refine then_n ?_
 refine swp_seq ?_
 refine swp_seq ?_
 refine swp_region ?_
 refine s_pu (pu_move rfl) ?_
 refine s_pu (pu_move rfl) ?_
 refine s_pu (pu_len rfl) ?_
 refine s_pu (pu_min2 rfl rfl) ?_
 refine s_pu (pu_slice_hi KK rfl rfl (by rw [hKK]; omega) (by rw [hKK]; omega)) ?_
 refine s_pu (pu_len rfl) ?_
 refine s_pu (pu_move rfl) ?_
 refine swl_sub _ (sc0 5 rfl (sc0 27 rfl (sc0 28 rfl (sc0 29 rfl .nil)))) ?_
 refine swl_nil ?_
 refine then_n ?_
 refine swp_block ?_
 refine swp_loop (ι := Nat) (fun i env L => ∃ (d : Dk) (μ2 : PH) (y : Option (St2 × Bool)) (o : Option Two), Sub env [(5, pv pp), (27, .slice A KK cap), (28, .int .i64 (KK : Nat)), (29, .int .i64 (i : Nat))] ∧ Ent L [prA pp pd pr (svO o) (wvO o), FSA pd d, RDA pr d, stO o, ro μ2] ∧ i ≤ KK ∧ Le μ μ2 ∧ d.Ok ∧ Within (1 + 4 * i) d ∧ OptOk μ2 pd pr y o) (fun i => KK - i) 0 ⟨d0, μ0, y0, o0, ⟨rfl, rfl, rfl, rfl, trivial⟩, Split.ent' sp0, Nat.zero_le _, l0, hd0, hw0, ho0⟩ ?_
 rintro i env L ⟨d, μ2, y, o, hsub, hE, hi, hle, hok, hw, ho⟩
 refine swp_sub _ hsub ?_
 refine swp_ent hE ?_
 clear hsub hE env L
 refine swp_seq ?_
 refine swp_region ?_
 refine s_pu (pu_lss rfl rfl) ?_
 refine swl_sub _ (sc0 5 rfl (sc0 27 rfl (sc0 28 rfl (sc0 29 rfl (sc0 30 rfl .nil))))) ?_
 refine swl_nil ?_
 refine then_n ?_
 refine swp_seq ?_
 refine swp_cond (b := _) rfl (fun h30 => ?_) (fun h30 => ?_)
 ·skip
  have h32' : i < KK := by have := of_decide_eq_true h30; omega
  have hix : i < xs.length := by omega
  obtain ⟨b, off, hA, hra⟩ := hpos om0
  subst hA
  obtain ⟨op, hq⟩ : ∃ op, xs[i]? = some op := ⟨_, List.getElem?_eq_getElem hix⟩
  have hel := (hra.elem (f := oscs) (n := 7) (fun _ => rfl) hq).le hle
  have hop := (hops op (List.mem_of_getElem? hq)).le hle
  obtain ⟨tA, tc, htv⟩ := hop.tr.sl
  obtain ⟨cA, cc, hcv⟩ := hop.cr.sl
  obtain ⟨kA, kc, hkv⟩ := hop.kr.sl
  obtain ⟨kind, tv, t, cv, c, n, fn, kv, keep⟩ := op
  dsimp only at htv hcv hkv
  subst htv hcv hkv
  simp only [oscs] at hel
  refine swp_skip ?_
  refine then_n ?_
  refine swp_seq ?_
  refine swp_block ?_
  refine swp_seq ?_
  refine swp_region ?_
  refine s_pu (pu_indexAddr (off + i * 7) rfl rfl om0 om0 (by rw [Int.toNat_natCast])) ?_
  refine s_rd (rd_roA rfl rfl hel) ?_
  refine s_ef (ef_alloc) ?_
  intro b8
  refine s_ef0 (ef_storeA rfl rfl rfl rfl) ?_
  refine swl_sub _ (sc0 5 rfl (sc0 8 rfl (sc0 27 rfl (sc0 28 rfl (sc0 29 rfl .nil))))) ?_
  refine swl_nil ?_
  refine then_n ?_
  refine swp_seq ?_
  refine swp_region ?_
  refine s_pu (pu_move rfl) ?_
  refine s_rd (rd_loadW rfl rfl) ?_
  refine s_ef (ef_fn (pstep_spec μ2 pp pd pr o d hok (1 + 4 * i) hw om0 y ho ⟨kind, .slice tA t.length tc, t, .slice cA c.1.length cc, c, n, fn, .slice kA keep.length kc, keep⟩ hop) rfl rfl sp0) ?_
  rintro v35 L1 ⟨rfl, d3, y3, o3, μ3, l3, hd3, hw3, ho3, rfl⟩
  refine swl_app ?_
  refine s_pu (pu_not rfl) ?_
  refine s_pu (pu_move rfl) ?_
  refine s_split 37 rfl (fun h37 => by cases h37) (fun h37 => ?_)
  refine s_on rfl rfl ?_
  refine s_pu (pu_move rfl) ?_
  refine s_on rfl rfl ?_
  refine s_ef (ef_fn (ptold_spec μ3 pp pd pr o3 d3 hd3 (1 + 4 * i + 4) hw3 om0 y3 ho3) rfl rfl sp0) ?_
  rintro v39 L1 ⟨rfl, μ4, l4, rfl⟩
  refine swl_app ?_
  refine s_on rfl rfl ?_
  refine s_pu (pu_not rfl) ?_
  refine s_pu (pu_pick_f rfl rfl) ?_
  refine swl_sub _ (sc0 5 rfl (sc0 27 rfl (sc0 28 rfl (sc0 29 rfl (sc0 41 rfl .nil))))) ?_
  refine swl_nil ?_
  refine then_n ?_
  refine swp_cond (b := _) rfl (fun h41 => by cases h41) (fun h41 => ?_)
  refine swp_skip ?_
  refine block_n ?_
  refine then_n ?_
  refine swp_region ?_
  refine s_pu (pu_add_as ((i + 1 : Nat) : Int) rfl rfl om0 om0 om0) ?_
  refine s_pu (pu_move rfl) ?_
  refine swl_sub _ (sc0 5 rfl (sc0 27 rfl (sc0 28 rfl (sc0 29 rfl .nil)))) ?_
  refine swl_nil ?_
  exact then_n ⟨i + 1, ⟨d3, μ4, y3, o3, ⟨rfl, rfl, rfl, rfl, trivial⟩, Split.ent' sp0, h32', hle.trans (l3.trans l4), hd3, hw3.mono om0, ho3.le l4⟩, by omega⟩
 ·skip
  have h30' := of_decide_eq_false h30
  refine swp_exit ?_
  refine then_x ?_
  refine then_x ?_
  refine block_hit rfl ?_
  refine then_n ?_
  refine swp_seq ?_
  refine swp_region ?_
  refine s_pu (pu_move rfl) ?_
  refine s_ef (ef_fn (ptold_spec μ2 pp pd pr o d hok (1 + 4 * i) hw om0 y ho) rfl rfl sp0) ?_
  rintro v44 L1 ⟨rfl, μ3, l3, rfl⟩
  refine swl_app ?_
  refine s_pu (pu_assign rfl) ?_
  refine swl_sub _ (sc0 4 rfl .nil) ?_
  refine swl_nil ?_
  refine then_n ?_
  refine swp_ret ?_
  exact done_retE [ro μ3] (.tmp rfl .nil) ⟨rfl, μ3, [], hle.trans l3, rfl⟩ (Split.ent' sp0)
theorem storeplays_spec (μ : PH) (q : Int) (v1 : Value) (xs : List OpS) (hrow0 : Row μ v1 7 xs.length (xs.flatMap oscs)) (hops : ∀ o ∈ xs, o.Ok μ) :
    Spec Tryz.prog 5 [.int .i64 q, v1] [ro μ] (fun r L => r = .bool true ∧ ∃ μ' R, Le μ μ' ∧ L = ro μ' :: R) := by
  by_cases h : newOk q
  · exact storeplays_good μ q v1 xs h hrow0 hops
  · exact storeplays_bad μ q v1 h
end SX
