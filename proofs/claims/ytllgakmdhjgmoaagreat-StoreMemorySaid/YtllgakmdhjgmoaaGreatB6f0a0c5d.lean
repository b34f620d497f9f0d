/- A part of the proof: walks of the program's functions, and the rules by which they go. -/
import Derived.Test.YtllgakmdhjgmoaaGreatB8f9f485c
import Derived.Test.YtllgakmdhjgmoaaGreatB9a0af180
import Derived.Test.YtllgakmdhjgmoaaGreatBddc441a4
namespace SX
open Go Go.Proofs
def treeAt (ts : List (List En)) (n : Int) : List En × Int := if 0 ≤ n then match ts[n.toNat]? with | some t => (t, 0) | none => ([], 9) else ([], 9)
def comAt (cs : List Cm) (n : Int) : Cm × Int := if 0 ≤ n then match cs[n.toNat]? with | some c => (c, 0) | none => (([], 0), 9) else (([], 0), 9)
theorem treeAt_no {ts : List (List En)} {n : Int} (h : n < 0 ∨ (ts.length : Int) ≤ n) : treeAt ts n = ([], 9) := by
  unfold treeAt
  split
  · rw [List.getElem?_eq_none om0]
  · rfl
theorem comAt_no {cs : List Cm} {n : Int} (h : n < 0 ∨ (cs.length : Int) ≤ n) : comAt cs n = (([], 0), 9) := by
  unfold comAt
  split
  · rw [List.getElem?_eq_none om0]
  · rfl
theorem treeAt_at {ts : List (List En)} {k : Nat} {t : List En} (h : ts[k]? = some t) : treeAt ts (k : Nat) = (t, 0) := by
  unfold treeAt
  rw [if_pos (Int.natCast_nonneg k), Int.toNat_natCast, h]
theorem comAt_at {cs : List Cm} {k : Nat} {c : Cm} (h : cs[k]? = some c) : comAt cs (k : Nat) = (c, 0) := by
  unfold comAt
  rw [if_pos (Int.natCast_nonneg k), Int.toNat_natCast, h]
theorem trees_spec (p : Nat) (W : SW) (μ : PH) (hW : W.Ok μ) : Spec Tryz.prog 20 [pv p] [stH p W] (fun r L => r = .int .i64 (W.T.length : Nat) ∧ L = [stH p W]) := by
  obtain ⟨⟨A1, c1, e1⟩, ⟨A2, c2, e2⟩, _, _, hT, hC⟩ := hW
  obtain ⟨q, tv, cv, T, C, dead⟩ := W
  dsimp only at e1 e2 hT hC
  subst e1 e2
  refine Spec.of 10 Tryz.func20 rfl rfl rfl ?_
  refine swp_sr ?_
  refine s_as rfl ?_
  refine swl_sub _ (sc0 0 rfl .nil) ?_
  refine swl_nn ?_
  refine swp_seq ?_
  refine swp_sr ?_
  refine s_mv rfl ?_
  refine s_pu (pu_ptr_eq_nil rfl rfl) ?_
  refine swl_sub _ (sc0 0 rfl (sc0 4 rfl .nil)) ?_
  refine swl_nn ?_
  refine swp_cond (b := _) rfl (fun h4 => by cases h4) (fun h4 => ?_)
  refine swp_skip ?_
  refine then_n ?_
  refine swp_sr ?_
  refine s_mv rfl ?_
  first | refine s_pu (pu_nilCheck rfl) ?_ | refine s_pu (pu_nilCheck_fn rfl) ?_ | refine s_pu (pu_nilCheck_if rfl) ?_
  first | refine s_pu (pu_fieldAddr0 rfl) ?_ | refine s_pu (pu_fieldAddr rfl) ?_
  refine s_rd (rd_load rfl rfl) ?_
  refine s_pu (pu_len rfl) ?_
  refine s_as rfl ?_
  refine swl_sub _ (sc0 2 rfl .nil) ?_
  refine swl_nn ?_
  refine swp_ret ?_
  exact done_ret [stH p ⟨q, .slice A1 T.length c1, .slice A2 C.length c2, T, C, dead⟩] (.tmp rfl .nil) ⟨rfl, rfl⟩ sp0
theorem coms_spec (p : Nat) (W : SW) (μ : PH) (hW : W.Ok μ) : Spec Tryz.prog 22 [pv p] [stH p W] (fun r L => r = .int .i64 (W.C.length : Nat) ∧ L = [stH p W]) := by
  obtain ⟨⟨A1, c1, e1⟩, ⟨A2, c2, e2⟩, _, _, hT, hC⟩ := hW
  obtain ⟨q, tv, cv, T, C, dead⟩ := W
  dsimp only at e1 e2 hT hC
  subst e1 e2
  refine Spec.of 10 Tryz.func22 rfl rfl rfl ?_
  refine swp_sr ?_
  refine s_as rfl ?_
  refine swl_sub _ (sc0 0 rfl .nil) ?_
  refine swl_nn ?_
  refine swp_seq ?_
  refine swp_sr ?_
  refine s_mv rfl ?_
  refine s_pu (pu_ptr_eq_nil rfl rfl) ?_
  refine swl_sub _ (sc0 0 rfl (sc0 4 rfl .nil)) ?_
  refine swl_nn ?_
  refine swp_cond (b := _) rfl (fun h4 => by cases h4) (fun h4 => ?_)
  refine swp_skip ?_
  refine then_n ?_
  refine swp_sr ?_
  refine s_mv rfl ?_
  first | refine s_pu (pu_nilCheck rfl) ?_ | refine s_pu (pu_nilCheck_fn rfl) ?_ | refine s_pu (pu_nilCheck_if rfl) ?_
  first | refine s_pu (pu_fieldAddr0 rfl) ?_ | refine s_pu (pu_fieldAddr rfl) ?_
  refine s_rd (rd_load rfl rfl) ?_
  refine s_pu (pu_len rfl) ?_
  refine s_as rfl ?_
  refine swl_sub _ (sc0 2 rfl .nil) ?_
  refine swl_nn ?_
  refine swp_ret ?_
  exact done_ret [stH p ⟨q, .slice A1 T.length c1, .slice A2 C.length c2, T, C, dead⟩] (.tmp rfl .nil) ⟨rfl, rfl⟩ sp0
theorem dead_spec (p : Nat) (W : SW) : Spec Tryz.prog 26 [pv p] [stH p W] (fun r L => r = .bool W.dead ∧ L = [stH p W]) := by
  refine Spec.of 11 Tryz.func26 rfl rfl rfl ?_
  refine swp_sr ?_
  refine s_as rfl ?_
  refine swl_sub _ (sc0 0 rfl .nil) ?_
  refine swl_nn ?_
  refine swp_sr ?_
  refine s_mv rfl ?_
  refine s_pu (pu_ptr_ne_nil rfl rfl) ?_
  refine s_mv rfl ?_
  refine s_split 5 rfl (fun h5 => ?_) (fun h5 => by cases h5)
  refine s_on rfl rfl ?_
  refine s_mv rfl ?_
  refine s_on rfl rfl ?_
  first | refine s_pu (pu_nilCheck rfl) ?_ | refine s_pu (pu_nilCheck_fn rfl) ?_ | refine s_pu (pu_nilCheck_if rfl) ?_
  refine s_on rfl rfl ?_
  first | refine s_pu (pu_fieldAddr0 rfl) ?_ | refine s_pu (pu_fieldAddr rfl) ?_
  refine s_on rfl rfl ?_
  refine s_rd (rd_load rfl rfl) ?_
  first | refine s_pu (pu_pick_t rfl rfl) ?_ | refine s_pu (pu_pick_f rfl rfl) ?_
  refine s_as rfl ?_
  refine swl_sub _ (sc0 2 rfl .nil) ?_
  refine swl_nn ?_
  refine swp_ret ?_
  exact done_ret [stH p W] (.tmp rfl .nil) ⟨rfl, rfl⟩ sp0
theorem tcs_get {T : List (Value × List En)} {k : Nat} {x : Value × List En} (h : T[k]? = some x) : (T.flatMap tcs)[k * 1]? = some x.1 := by
  have := flat_get (f := tcs) (k := 1) (fun x => (rfl : (tcs x).length = 1)) T [] k x h 0 x.1 rfl
  rwa [List.append_nil, Nat.add_zero] at this
theorem ccs_get {C : List (Value × Cm)} {k : Nat} {x : Value × Cm} (h : C[k]? = some x) : (C.flatMap ccs)[k * 2]? = some x.1 ∧ (C.flatMap ccs)[k * 2 + 1]? = some (.int .i64 x.2.2) := by
  have h0 := flat_get (f := ccs) (k := 2) (fun x => (rfl : (ccs x).length = 2)) C [] k x h 0 x.1 rfl
  have h1 := flat_get (f := ccs) (k := 2) (fun x => (rfl : (ccs x).length = 2)) C [] k x h 1 (.int .i64 x.2.2) rfl
  rw [List.append_nil] at h0 h1
  exact ⟨h0, h1⟩
set_option maxHeartbeats 2000000 in
theorem tree_spec (p : Nat) (W : SW) (μ : PH) (hW : W.Ok μ) (hlt : ∀ x ∈ W.T, x.2.length ≤ 1048576) (n : Int) : Spec Tryz.prog 21 [pv p, .int .i64 n] [stH p W, ttA W, ro μ] (fun r L => ∃ A c, r = .tuple #[.slice A (treeAt W.pl.1 n).1.length c, .int .i64 (treeAt W.pl.1 n).2] ∧ L = [own 47 2 (.slice A (treeAt W.pl.1 n).1.length c) (treeAt W.pl.1 n).1.length (ens (treeAt W.pl.1 n).1), stH p W, ttA W, ro μ]) := by
  have hW0 := hW
  obtain ⟨⟨A1, c1, e1⟩, ⟨A2, c2, e2⟩, htr, hcr, hT, hC⟩ := hW
  obtain ⟨q, tv, cv, T, C, dead⟩ := W
  dsimp only at e1 e2 htr hcr hT hC hlt
  subst e1 e2
  have hlen : (SW.pl ⟨q, .slice A1 T.length c1, .slice A2 C.length c2, T, C, dead⟩).1.length = T.length := List.length_map _
  refine Spec.of 29 Tryz.func21 rfl rfl rfl ?_
  refine swp_sr ?_
  refine s_as rfl ?_
  refine s_as rfl ?_
  refine swl_sub _ (sc0 0 rfl (sc0 1 rfl .nil)) ?_
  refine swl_nn ?_
  refine swp_seq ?_
  refine swp_block ?_
  refine swp_sr ?_
  refine s_mv rfl ?_
  refine s_pu (pu_ptr_eq_nil rfl rfl) ?_
  refine s_as rfl ?_
  refine swl_sub _ (sc0 0 rfl (sc0 1 rfl (sc0 6 rfl .nil))) ?_
  refine swl_nn ?_
  refine swp_cond (b := _) rfl (fun h6 => by cases h6) (fun h6 => ?_)
  refine swp_sr ?_
  refine s_mv rfl ?_
  refine s_pu (pu_lss rfl rfl) ?_
  refine s_mv rfl ?_
  refine s_split 12 rfl (fun h12 => ?_) (fun h12 => ?_)
  · skip   -- 12 T
    have h12' : n < 0 := of_decide_eq_true h12
    rw [treeAt_no (.inl h12')]
    refine s_off rfl rfl rfl ?_
    refine s_off rfl rfl rfl ?_
    refine s_off rfl rfl rfl ?_
    refine s_off rfl rfl rfl ?_
    refine s_off rfl rfl rfl ?_
    refine s_off rfl rfl rfl ?_
    refine s_off rfl rfl rfl ?_
    first | refine s_pu (pu_pick_t rfl rfl) ?_ | refine s_pu (pu_pick_f rfl rfl) ?_
    refine s_as rfl ?_
    refine swl_sub _ (sc0 0 rfl (sc0 1 rfl (sc0 9 rfl .nil))) ?_
    refine swl_nn ?_
    refine swp_cond (b := _) rfl (fun h9 => ?_) (fun h9 => by cases h9)
    refine swp_sr ?_
    refine s_as rfl ?_
    refine s_as rfl ?_
    refine swl_sub _ (sc0 4 rfl (sc0 5 rfl .nil)) ?_
    refine swl_nn ?_
    refine swp_ret ?_
    refine block_r ?_
    refine then_r ?_
    exact done_retE [own 47 2 (.slice none 0 0) 0 [], stH p ⟨q, .slice A1 T.length c1, .slice A2 C.length c2, T, C, dead⟩, ttA ⟨q, .slice A1 T.length c1, .slice A2 C.length c2, T, C, dead⟩, ro μ] (.tmp rfl (.tmp rfl .nil)) ⟨none, 0, rfl, rfl⟩ own_nil_ent
  · skip   -- 12 F
    have h12' : 0 ≤ n := by have := of_decide_eq_false h12; omega
    refine s_on rfl rfl ?_
    refine s_mv rfl ?_
    refine s_on rfl rfl ?_
    refine s_mv rfl ?_
    refine s_on rfl rfl ?_
    first | refine s_pu (pu_nilCheck rfl) ?_ | refine s_pu (pu_nilCheck_fn rfl) ?_ | refine s_pu (pu_nilCheck_if rfl) ?_
    refine s_on rfl rfl ?_
    first | refine s_pu (pu_fieldAddr0 rfl) ?_ | refine s_pu (pu_fieldAddr rfl) ?_
    refine s_on rfl rfl ?_
    refine s_rd (rd_load rfl rfl) ?_
    refine s_on rfl rfl ?_
    refine s_pu (pu_len rfl) ?_
    refine s_on rfl rfl ?_
    refine s_pu (pu_geq rfl rfl) ?_
    first | refine s_pu (pu_pick_t rfl rfl) ?_ | refine s_pu (pu_pick_f rfl rfl) ?_
    refine s_as rfl ?_
    refine swl_sub _ (sc0 0 rfl (sc0 1 rfl (sc0 9 rfl .nil))) ?_
    refine swl_nn ?_
    refine swp_cond (b := _) rfl (fun h9 => ?_) (fun h9 => ?_)
    · skip   -- 9 T
      refine swp_sr ?_
      refine s_as rfl ?_
      refine s_as rfl ?_
      refine swl_sub _ (sc0 4 rfl (sc0 5 rfl .nil)) ?_
      refine swl_nn ?_
      refine swp_ret ?_
      refine block_r ?_
      refine then_r ?_
      have h9' : (T.length : Int) ≤ n := of_decide_eq_true h9
      rw [treeAt_no (.inr (by rw [hlen]; exact h9'))]
      exact done_retE [own 47 2 (.slice none 0 0) 0 [], stH p ⟨q, .slice A1 T.length c1, .slice A2 C.length c2, T, C, dead⟩, ttA ⟨q, .slice A1 T.length c1, .slice A2 C.length c2, T, C, dead⟩, ro μ] (.tmp rfl (.tmp rfl .nil)) ⟨none, 0, rfl, rfl⟩ own_nil_ent
    · skip   -- 9 F
      have h9' : ¬ (T.length : Int) ≤ n := of_decide_eq_false h9
      obtain ⟨k, rfl⟩ : ∃ k : Nat, n = (k : Int) := ⟨n.toNat, by omega⟩
      have hk : k < T.length := by omega
      obtain ⟨x, hx⟩ : ∃ x, T[k]? = some x := ⟨_, List.getElem?_eq_getElem hk⟩
      have hxt : (SW.pl ⟨q, .slice A1 T.length c1, .slice A2 C.length c2, T, C, dead⟩).1[k]? = some x.2 := by show (T.map (·.2))[k]? = _; rw [List.getElem?_map, hx]; rfl
      rw [treeAt_at hxt]
      have hxm := List.mem_of_getElem? hx
      have hxr := htr x hxm
      refine swp_fact (fun m h => own_shape (e := 22) (n := 1) (v := .slice A1 T.length c1) (l := T.length) (xs := T.flatMap tcs) tk0 h) fun hs => ?_
      obtain ⟨b, rfl⟩ : ∃ b, A1 = some ⟨b, 0, none⟩ := by
        rcases hs with ⟨_, h⟩ | ⟨b, cap, h, _⟩
        · omega
        · injection h with h1; exact ⟨b, h1⟩
      refine swp_skip ?_
      refine block_n ?_
      refine then_n ?_
      refine swp_sr ?_
      refine s_mv rfl ?_
      first | refine s_pu (pu_nilCheck rfl) ?_ | refine s_pu (pu_nilCheck_fn rfl) ?_ | refine s_pu (pu_nilCheck_if rfl) ?_
      first | refine s_pu (pu_fieldAddr0 rfl) ?_ | refine s_pu (pu_fieldAddr rfl) ?_
      refine s_rd (rd_load rfl rfl) ?_
      refine s_mv rfl ?_
      refine s_pu (pu_indexAddr (0 + k * 1) rfl rfl om0 om0 (by rw [Int.toNat_natCast])) ?_
      refine s_rd (rd_of_ld rfl (by rw [Nat.zero_add]; exact ld_ownN (e := 22) (n := 1) tk0 (tcs_get hx))) ?_
      refine s_ef (ef_fn (cloneT_spec μ x.1 x.2 hxr (hlt x hxm)) rfl rfl sp0) ?_
      rintro v28 L1 ⟨A3, c3, rfl, rfl⟩
      refine swl_app ?_
      refine s_as rfl ?_
      refine s_as rfl ?_
      refine swl_sub _ (sc0 4 rfl (sc0 5 rfl .nil)) ?_
      refine swl_nn ?_
      refine swp_ret ?_
      exact done_ret [own 47 2 (.slice A3 x.2.length c3) x.2.length (ens x.2), stH p ⟨q, .slice (some ⟨b, 0, none⟩) T.length c1, .slice A2 C.length c2, T, C, dead⟩, ttA ⟨q, .slice (some ⟨b, 0, none⟩) T.length c1, .slice A2 C.length c2, T, C, dead⟩, ro μ] (.tmp rfl (.tmp rfl .nil)) ⟨A3, c3, rfl, rfl⟩ sp0
end SX
namespace SX
open Go Go.Proofs
theorem ccs_row {C : List (Value × Cm)} {k : Nat} {x : Value × Cm} (h : C[k]? = some x) : ∀ j v, [x.1, .int .i64 x.2.2][j]? = some v → (C.flatMap ccs)[0 + k * 2 + j]? = some v := fun j v hv => by
  obtain ⟨h0, h1⟩ := ccs_get h
  rw [Nat.zero_add]
  match j, hv with
  | 0, hv => cases hv; exact h0
  | 1, hv => cases hv; exact h1
  | j + 2, hv => cases hv
set_option maxHeartbeats 2000000 in
theorem commit_spec (p : Nat) (W : SW) (μ : PH) (hW : W.Ok μ) (hlt : ∀ x ∈ W.C, x.2.1.length ≤ 1048576) (n : Int) : Spec Tryz.prog 23 [pv p, .int .i64 n] [stH p W, ccA W, ro μ] (fun r L => ∃ A c, r = .tuple #[cmV (.slice A (comAt W.pl.2 n).1.1.length c) (comAt W.pl.2 n).1.2, .int .i64 (comAt W.pl.2 n).2] ∧ L = [own 3 1 (.slice A (comAt W.pl.2 n).1.1.length c) (comAt W.pl.2 n).1.1.length ((comAt W.pl.2 n).1.1.flatMap (icsk .i64)), stH p W, ccA W, ro μ]) := by
  have hW0 := hW
  obtain ⟨⟨A1, c1, e1⟩, ⟨A2, c2, e2⟩, htr, hcr, hT, hC⟩ := hW
  obtain ⟨q, tv, cv, T, C, dead⟩ := W
  dsimp only at e1 e2 htr hcr hT hC hlt
  subst e1 e2
  have hlen : (SW.pl ⟨q, .slice A1 T.length c1, .slice A2 C.length c2, T, C, dead⟩).2.length = C.length := List.length_map _
  refine Spec.of 37 Tryz.func23 rfl rfl rfl ?_
  refine swp_sr ?_
  refine s_ef (ef_alloc) ?_
  intro b4
  refine s_as rfl ?_
  refine swl_sub _ (sc0 0 rfl (sc0 1 rfl (sc0 4 rfl .nil))) ?_
  refine swl_nn ?_
  refine swp_seq ?_
  refine swp_block ?_
  refine swp_sr ?_
  refine s_mv rfl ?_
  refine s_pu (pu_ptr_eq_nil rfl rfl) ?_
  refine s_as rfl ?_
  refine swl_sub _ (sc0 0 rfl (sc0 1 rfl (sc0 4 rfl (sc0 7 rfl .nil)))) ?_
  refine swl_nn ?_
  refine swp_cond (b := _) rfl (fun h7 => by cases h7) (fun h7 => ?_)
  refine swp_sr ?_
  refine s_mv rfl ?_
  refine s_pu (pu_lss rfl rfl) ?_
  refine s_mv rfl ?_
  refine s_split 14 rfl (fun h14 => ?_) (fun h14 => ?_)
  · skip   -- 14 T
    have h12' : n < 0 := of_decide_eq_true h14
    rw [comAt_no (.inl h12')]
    refine s_off rfl rfl rfl ?_
    refine s_off rfl rfl rfl ?_
    refine s_off rfl rfl rfl ?_
    refine s_off rfl rfl rfl ?_
    refine s_off rfl rfl rfl ?_
    refine s_off rfl rfl rfl ?_
    refine s_off rfl rfl rfl ?_
    first | refine s_pu (pu_pick_t rfl rfl) ?_ | refine s_pu (pu_pick_f rfl rfl) ?_
    refine s_as rfl ?_
    refine swl_sub _ (sc0 0 rfl (sc0 1 rfl (sc0 4 rfl (sc0 11 rfl .nil)))) ?_
    refine swl_nn ?_
    refine swp_cond (b := _) rfl (fun h11 => ?_) (fun h11 => by cases h11)
    refine swp_sr ?_
    refine s_pu (pu_bld (qs := []) rfl) ?_
    refine s_ef0 (ef_storeA rfl rfl rfl rfl) ?_
    refine s_as rfl ?_
    refine swl_sub _ (sc0 4 rfl (sc0 5 rfl .nil)) ?_
    refine swl_nn ?_
    refine swp_ret ?_
    refine block_r ?_
    refine then_r ?_
    exact done_retE [own 3 1 (.slice none 0 0) 0 [], stH p ⟨q, .slice A1 T.length c1, .slice A2 C.length c2, T, C, dead⟩, ccA ⟨q, .slice A1 T.length c1, .slice A2 C.length c2, T, C, dead⟩, ro μ] (.cell rfl (ld_whole rfl) (.tmp rfl .nil)) ⟨none, 0, rfl, rfl⟩ ((Split.ent' (K := [stH p ⟨q, .slice A1 T.length c1, .slice A2 C.length c2, T, C, dead⟩, ccA ⟨q, .slice A1 T.length c1, .slice A2 C.length c2, T, C, dead⟩, ro μ]) sp0).trans own_nil_ent)
  · skip   -- 14 F
    have h12' : 0 ≤ n := by have := of_decide_eq_false h14; omega
    refine s_on rfl rfl ?_
    refine s_mv rfl ?_
    refine s_on rfl rfl ?_
    refine s_mv rfl ?_
    refine s_on rfl rfl ?_
    first | refine s_pu (pu_nilCheck rfl) ?_ | refine s_pu (pu_nilCheck_fn rfl) ?_ | refine s_pu (pu_nilCheck_if rfl) ?_
    refine s_on rfl rfl ?_
    first | refine s_pu (pu_fieldAddr0 rfl) ?_ | refine s_pu (pu_fieldAddr rfl) ?_
    refine s_on rfl rfl ?_
    refine s_rd (rd_load rfl rfl) ?_
    refine s_on rfl rfl ?_
    refine s_pu (pu_len rfl) ?_
    refine s_on rfl rfl ?_
    refine s_pu (pu_geq rfl rfl) ?_
    first | refine s_pu (pu_pick_t rfl rfl) ?_ | refine s_pu (pu_pick_f rfl rfl) ?_
    refine s_as rfl ?_
    refine swl_sub _ (sc0 0 rfl (sc0 1 rfl (sc0 4 rfl (sc0 11 rfl .nil)))) ?_
    refine swl_nn ?_
    refine swp_cond (b := _) rfl (fun h11 => ?_) (fun h11 => ?_)
    · skip   -- 11 T
      refine swp_sr ?_
      refine s_pu (pu_bld (qs := []) rfl) ?_
      refine s_ef0 (ef_storeA rfl rfl rfl rfl) ?_
      refine s_as rfl ?_
      refine swl_sub _ (sc0 4 rfl (sc0 5 rfl .nil)) ?_
      refine swl_nn ?_
      refine swp_ret ?_
      refine block_r ?_
      refine then_r ?_
      have h9' : (C.length : Int) ≤ n := of_decide_eq_true h11
      rw [comAt_no (.inr (by rw [hlen]; exact h9'))]
      exact done_retE [own 3 1 (.slice none 0 0) 0 [], stH p ⟨q, .slice A1 T.length c1, .slice A2 C.length c2, T, C, dead⟩, ccA ⟨q, .slice A1 T.length c1, .slice A2 C.length c2, T, C, dead⟩, ro μ] (.cell rfl (ld_whole rfl) (.tmp rfl .nil)) ⟨none, 0, rfl, rfl⟩ ((Split.ent' (K := [stH p ⟨q, .slice A1 T.length c1, .slice A2 C.length c2, T, C, dead⟩, ccA ⟨q, .slice A1 T.length c1, .slice A2 C.length c2, T, C, dead⟩, ro μ]) sp0).trans own_nil_ent)
    · skip   -- 11 F
      have h9' : ¬ (C.length : Int) ≤ n := of_decide_eq_false h11
      obtain ⟨k, rfl⟩ : ∃ k : Nat, n = (k : Int) := ⟨n.toNat, by omega⟩
      have hk : k < C.length := by omega
      obtain ⟨x, hx⟩ : ∃ x, C[k]? = some x := ⟨_, List.getElem?_eq_getElem hk⟩
      have hxt : (SW.pl ⟨q, .slice A1 T.length c1, .slice A2 C.length c2, T, C, dead⟩).2[k]? = some x.2 := by show (C.map (·.2))[k]? = _; rw [List.getElem?_map, hx]; rfl
      rw [comAt_at hxt]
      have hxm := List.mem_of_getElem? hx
      have hxr := hcr x hxm
      obtain ⟨A6, c6, hx1⟩ := hxr.sl
      have hrow := ccs_row hx
      rw [hx1] at hrow hxr
      refine swp_fact (fun m h => own_shape (e := 25) (n := 2) (v := .slice A2 C.length c2) (l := C.length) (xs := C.flatMap ccs) tk0 h) fun hs => ?_
      obtain ⟨b, rfl⟩ : ∃ b, A2 = some ⟨b, 0, none⟩ := by
        rcases hs with ⟨_, h⟩ | ⟨b, cap, h, _⟩
        · omega
        · injection h with h1; exact ⟨b, h1⟩
      refine swp_skip ?_
      refine block_n ?_
      refine then_n ?_
      refine swp_sr ?_
      refine s_mv rfl ?_
      first | refine s_pu (pu_nilCheck rfl) ?_ | refine s_pu (pu_nilCheck_fn rfl) ?_ | refine s_pu (pu_nilCheck_if rfl) ?_
      first | refine s_pu (pu_fieldAddr0 rfl) ?_ | refine s_pu (pu_fieldAddr rfl) ?_
      refine s_rd (rd_load rfl rfl) ?_
      refine s_mv rfl ?_
      refine s_pu (pu_indexAddr (0 + k * 2) rfl rfl om0 om0 (by rw [Int.toNat_natCast])) ?_
      refine s_rd (rd_of_ld rfl (ld_ownA (e := 25) (n := 2) (vs := [.slice A6 x.2.1.length c6, .int .i64 x.2.2]) tk0 rfl hrow)) ?_
      refine s_ef (ef_alloc) ?_
      intro b6
      refine s_ef0 (ef_storeA rfl rfl rfl rfl) ?_
      refine swl_sub _ (sc0 4 rfl (sc0 6 rfl .nil)) ?_
      refine swl_nn ?_
      refine swp_seq ?_
      refine swp_draw [1, 4] ([blk b6 25 [.slice A6 x.2.1.length c6, .int .i64 x.2.2]]) ([blk b4 25 [.slice none 0 0, .int .i64 0], stH p ⟨q, .slice A1 T.length c1, .slice (some ⟨b, 0, none⟩) C.length c2, T, C, dead⟩, ccA ⟨q, .slice A1 T.length c1, .slice (some ⟨b, 0, none⟩) C.length c2, T, C, dead⟩, ro μ]) (Split.ent sp0) kr0 ?_
      first | refine d_pu 0 rfl (pu_fieldAddr0 rfl) kr0 kr0 kr0 ?_ | refine d_pu 0 rfl (pu_fieldAddr rfl) kr0 kr0 kr0 ?_
      refine d_rd 1 rfl (rd_load rfl rfl) rfl kr0 kr0 kr0 ?_
      first | refine d_pu 3 rfl (pu_fieldAddr0 rfl) kr0 kr0 kr0 ?_ | refine d_pu 3 rfl (pu_fieldAddr rfl) kr0 kr0 kr0 ?_
      refine d_rd 4 rfl (rd_load rfl rfl) rfl kr0 kr0 kr0 ?_
      refine d_eft 2 rfl kr0 (ef_fn (cloneI_spec μ (.slice A6 x.2.1.length c6) x.2.1 hxr (hlt x hxm)) rfl rfl sp0) ?_
      rintro v33 L1 ⟨A3, c3, rfl, rfl⟩
      refine ⟨_, ent_appC (Split.ent sp0), ?_⟩
      refine d_pu 5 rfl (pu_bld (qs := [(0, _), (1, _)]) rfl) kr0 kr0 kr0 ?_
      first | refine d_fin0t 6 rfl kr0 kr0 (ef_storeA rfl rfl rfl rfl) ?_ | refine d_fin0f 6 rfl kr0 kr0 (ef_storeA rfl rfl rfl rfl) ?_
      refine d_pu 7 rfl (pu_assign rfl) kr0 kr0 kr0 ?_
      refine d_sub _ (sc0 4 rfl (sc0 5 rfl .nil)) ?_
      first | refine d_nilt kr0 ?_ | refine d_nilf kr0 ?_
      refine then_n ?_
      refine swp_ret ?_
      exact done_ret [own 3 1 (.slice A3 x.2.1.length c3) x.2.1.length (x.2.1.flatMap (icsk .i64)), stH p ⟨q, .slice A1 T.length c1, .slice (some ⟨b, 0, none⟩) C.length c2, T, C, dead⟩, ccA ⟨q, .slice A1 T.length c1, .slice (some ⟨b, 0, none⟩) C.length c2, T, C, dead⟩, ro μ] (.cell rfl (ld_whole rfl) (.tmp rfl .nil)) ⟨A3, c3, rfl, rfl⟩ sp0
/-- commits' parents -/
abbrev parS (s : St2) : List (List Int) := s.2.map (·.1)
set_option maxHeartbeats 2000000 in
theorem graph_spec (p : Nat) (W : SW) (μ : PH) (hW : W.Ok μ) (hlt : ∀ x ∈ W.C, x.2.1.length ≤ 1048576) : Spec Tryz.prog 19 [pv p] [stH p W, ccA W, ro μ] (fun r L => ∃ μ' G, Le μ μ' ∧ Graph μ' r G ∧ nums G = parS W.pl ∧ L = [stH p W, ccA W, ro μ']) := by
  have hW0 := hW
  obtain ⟨⟨A1, c1, e1⟩, ⟨A2, c2, e2⟩, htr, hcr, hT, hC⟩ := hW
  obtain ⟨q, tv, cv, T, C, dead⟩ := W
  dsimp only at e1 e2 htr hcr hT hC hlt
  subst e1 e2
  refine Spec.of 24 Tryz.func19 rfl rfl rfl ?_
  refine swp_sr ?_
  refine s_as rfl ?_
  refine swl_sub _ (sc0 0 rfl .nil) ?_
  refine swl_nn ?_
  refine swp_sr ?_
  refine s_as rfl ?_
  refine swl_sub _ (sc0 0 rfl (sc0 3 rfl .nil)) ?_
  refine swl_nn ?_
  refine swp_seq ?_
  refine swp_sr ?_
  refine s_mv rfl ?_
  refine s_ef (ef_fn (coms_spec p ⟨q, .slice A1 T.length c1, .slice A2 C.length c2, T, C, dead⟩ μ hW0) rfl rfl sp0) ?_
  rintro v6 L1 ⟨rfl, rfl⟩
  refine swl_app ?_
  refine s_mv rfl ?_
  refine swl_sub _ (sc0 0 rfl (sc0 3 rfl (sc0 6 rfl (sc0 7 rfl .nil)))) ?_
  refine swl_nn ?_
  refine swp_block ?_
  refine swp_ent (own_nil_ent (e := 23) (n := 1)) ?_
  refine swp_loop (ι := Nat × Value × List (Value × List Int) × PH) (fun k env L => Sub env [(0, pv p), (3, k.2.1), (6, .int .i64 (C.length : Nat)), (7, .int .i64 (k.1 : Nat))] ∧ Ent L [own 23 1 k.2.1 k.1 (k.2.2.1.flatMap gcs), stH p ⟨q, .slice A1 T.length c1, .slice A2 C.length c2, T, C, dead⟩, ccA ⟨q, .slice A1 T.length c1, .slice A2 C.length c2, T, C, dead⟩, ro k.2.2.2] ∧ k.1 ≤ C.length ∧ Le μ k.2.2.2 ∧ nums k.2.2.1 = ((C.take k.1).map (·.2)).map (·.1) ∧ (∀ x ∈ k.2.2.1, Row k.2.2.2 x.1 1 x.2.length (x.2.flatMap (icsk .i64)))) (fun k => C.length - k.1) (0, .slice none 0 0, [], μ) ⟨⟨rfl, rfl, rfl, rfl, trivial⟩, by show Ent _ [own 23 1 (.slice none 0 0) 0 [], stH p ⟨q, .slice A1 T.length c1, .slice A2 C.length c2, T, C, dead⟩, ccA ⟨q, .slice A1 T.length c1, .slice A2 C.length c2, T, C, dead⟩, ro μ]; exact Split.ent' sp0, Nat.zero_le _, Le.refl _, rfl, fun x hx => (by cases hx)⟩ ?_
  rintro ⟨k, v3, Gk, μk⟩ env L ⟨hsub, hE, hk, hle, hnk, hrk⟩
  dsimp only at hsub hE hk hle hnk hrk ⊢
  refine swp_sub _ hsub ?_
  refine swp_ent hE ?_
  clear hsub hE env L
  refine swp_sr ?_
  refine s_pu (pu_lss rfl rfl) ?_
  refine swl_sub _ (sc0 0 rfl (sc0 3 rfl (sc0 6 rfl (sc0 7 rfl (sc0 8 rfl .nil))))) ?_
  refine swl_nn ?_
  refine swp_seq ?_
  refine swp_cond (b := _) rfl (fun h8 => ?_) (fun h8 => ?_)
  · skip   -- 8 T
    have h8' : k < C.length := by have := of_decide_eq_true h8; omega
    obtain ⟨x, hx⟩ : ∃ x, C[k]? = some x := ⟨_, List.getElem?_eq_getElem h8'⟩
    have hxm := List.mem_of_getElem? hx
    have hxr := hcr x hxm
    have hx0 := (ccs_get hx).1
    refine swp_fact (fun m h => own_shape (e := 25) (n := 2) (v := .slice A2 C.length c2) (l := C.length) (xs := C.flatMap ccs) tk0 h) fun hs => ?_
    obtain ⟨b, hA2⟩ : ∃ b, A2 = some ⟨b, 0, none⟩ := by
      rcases hs with ⟨_, h⟩ | ⟨b, cap, h, _⟩
      · omega
      · injection h with h1; exact ⟨b, h1⟩
    rw [hA2]
    refine swp_skip ?_
    refine then_n ?_
    refine swp_seq ?_
    refine swp_block ?_
    refine swp_sr ?_
    refine s_mv rfl ?_
    refine s_as rfl ?_
    refine swl_sub _ (sc0 0 rfl (sc0 3 rfl (sc0 4 rfl (sc0 6 rfl (sc0 7 rfl .nil))))) ?_
    refine swl_nn ?_
    refine swp_region ?_
    refine s_mv rfl ?_
    refine s_mv rfl ?_
    first | refine s_pu (pu_nilCheck rfl) ?_ | refine s_pu (pu_nilCheck_fn rfl) ?_ | refine s_pu (pu_nilCheck_if rfl) ?_
    first | refine s_pu (pu_fieldAddr0 rfl) ?_ | refine s_pu (pu_fieldAddr rfl) ?_
    refine s_rd (rd_load rfl rfl) ?_
    refine s_mv rfl ?_
    refine s_pu (pu_indexAddr (0 + k * 2) rfl rfl om0 om0 (by rw [Int.toNat_natCast])) ?_
    first | refine s_pu (pu_fieldAddr0 rfl) ?_ | refine s_pu (pu_fieldAddr rfl) ?_
    refine s_rd (rd_of_ld rfl (by rw [Nat.zero_add]; exact ld_ownN (e := 25) (n := 2) tk0 hx0)) ?_
    refine s_ef (ef_fn (cloneI_spec μk x.1 x.2.1 (hxr.le hle) (hlt x hxm)) rfl rfl sp0) ?_
    rintro v19 L1 ⟨A3, c3, rfl, rfl⟩
    refine swl_app ?_
    refine s_ef (ef_bldS (qs := [(0, _)]) rfl rfl rfl) ?_
    intro b20
    refine s_ef (ef_append_lit (l := k) (m := 1) rfl rfl sp0 (by simp only [maxLen]; omega) om0) ?_
    rintro v21 -
    skip
    refine s_as rfl ?_
    refine swl_sub _ (sc0 0 rfl (sc0 3 rfl (sc0 6 rfl (sc0 7 rfl .nil)))) ?_
    rw [← hA2]
    refine swl_share_own (μ := μk) (v := .slice A3 x.2.1.length c3) (e := 3) (n := 1) sp0 fun μ' hle' hrow' => ?_
    refine swl_nil ?_
    refine block_n ?_
    refine then_n ?_
    refine swp_region ?_
    refine s_pu (pu_add_as ((k + 1 : Nat) : Int) rfl rfl om0 om0 om0) ?_
    refine s_mv rfl ?_
    refine swl_sub _ (sc0 0 rfl (sc0 3 rfl (sc0 6 rfl (sc0 7 rfl .nil)))) ?_
    refine swl_nil ?_
    refine then_n ⟨(k + 1, v21, Gk ++ [(.slice A3 x.2.1.length c3, x.2.1)], μ'), ⟨⟨rfl, rfl, rfl, rfl, trivial⟩, ?_, h8', hle.trans hle', ?_, fun y hy => ?_⟩, by show C.length - (k + 1) < C.length - k; omega⟩
    · show Ent _ [own 23 1 v21 (k + 1) ((Gk ++ [(Value.slice A3 x.2.1.length c3, x.2.1)]).flatMap gcs), stH p ⟨q, .slice A1 T.length c1, .slice A2 C.length c2, T, C, dead⟩, ccA ⟨q, .slice A1 T.length c1, .slice A2 C.length c2, T, C, dead⟩, ro μ']
      rw [show (Gk ++ [(Value.slice A3 x.2.1.length c3, x.2.1)]).flatMap gcs = Gk.flatMap gcs ++ [Value.slice A3 x.2.1.length c3] by rw [List.flatMap_append]; rfl]
      exact Split.ent' sp0
    · show List.map (·.2) (Gk ++ [((_ : Value), x.2.1)]) = ((C.take (k + 1)).map (·.2)).map (·.1)
      rw [List.map_append, List.take_add_one, hx, List.map_append, List.map_append, ← hnk]; rfl
    · rcases List.mem_append.1 hy with hy | hy
      · exact (hrk y hy).le hle'
      · obtain rfl : y = (Value.slice A3 x.2.1.length c3, x.2.1) := by simpa using hy
        exact hrow'
  · skip   -- 8 F
    have h8' := of_decide_eq_false h8
    obtain rfl : k = C.length := by omega
    rw [List.take_length] at hnk
    refine swp_exit ?_
    refine then_x ?_
    refine then_x ?_
    refine block_hit rfl ?_
    refine then_n ?_
    refine swp_seq ?_
    refine swp_share_own (μ := μk) (v := v3) (e := 23) (n := 1) sp0 fun μ' hle' hrow' => ?_
    refine swp_region ?_
    refine s_mv rfl ?_
    refine s_as rfl ?_
    refine swl_sub _ (sc0 2 rfl .nil) ?_
    refine swl_nn ?_
    refine swp_ret ?_
    have hGl : C.length = Gk.length := by
      have := congrArg List.length hnk
      simp only [nums, List.length_map] at this
      exact this.symm
    rw [hGl] at hrow'
    exact done_ret [stH p ⟨q, .slice A1 T.length c1, .slice A2 C.length c2, T, C, dead⟩, ccA ⟨q, .slice A1 T.length c1, .slice A2 C.length c2, T, C, dead⟩, ro μ'] (.tmp rfl .nil) ⟨μ', Gk, hle.trans hle', ⟨hrow', fun x hx => (hrk x hx).le hle'⟩, hnk, rfl⟩ sp0
end SX
namespace SX
open Go Go.Proofs
theorem knownS_eq (nT nC : Nat) (c : Cm) : knownS nT nC c = (decide (c.2 < (nT : Int)) && !(c.1.any fun p => decide ((nC : Int) ≤ p))) := rfl
set_option maxHeartbeats 2000000 in
theorem rknown_spec (μ : PH) (p : Nat) (W : SW) (hW : W.Ok μ) (pvv : Value) (c : Cm) (h : Row μ pvv 1 c.1.length (c.1.flatMap (icsk .i64))) : Spec Tryz.prog 54 [pv p, cmV pvv c.2] [rsH p W, ro μ] (fun r L => r = .bool (knownS W.T.length W.C.length c) ∧ L = [rsH p W, ro μ]) := by
  have hsm := h.small
  obtain ⟨⟨A1, c1, e1⟩, ⟨A2, c2, e2⟩, _, _, _, _⟩ := hW
  obtain ⟨q, tv, cv, T, C, dead⟩ := W
  dsimp only at e1 e2
  subst e1 e2
  refine Spec.of 32 Tryz.func54 rfl rfl rfl ?_
  refine swp_sr ?_
  refine s_ef (ef_box rfl rfl) ?_
  intro b3
  refine s_as rfl ?_
  refine swl_sub _ (sc0 0 rfl (sc0 3 rfl .nil)) ?_
  refine swl_nn ?_
  refine swp_seq ?_
  refine swp_sr ?_
  refine s_as rfl ?_
  refine swl_sub _ (sc0 0 rfl (sc0 3 rfl (sc0 5 rfl .nil))) ?_
  refine swl_nn ?_
  refine swp_block ?_
  refine swp_loop (ι := Nat) (fun i env L => Sub env [(0, pv p), (3, pv b3), (5, .int .i64 (i : Nat))] ∧ Ent L [blk b3 25 [pvv, .int .i64 c.2], rsH p ⟨q, .slice A1 T.length c1, .slice A2 C.length c2, T, C, dead⟩, ro μ] ∧ i ≤ c.1.length ∧ ∀ y ∈ c.1.take i, decide ((C.length : Int) ≤ y) = false) (fun i => c.1.length - i) 0 ⟨⟨rfl, rfl, rfl, trivial⟩, Split.ent' sp0, Nat.zero_le _, fun y hy => by simp at hy⟩ ?_
  rintro i env L ⟨hsub, hE, hi, hno⟩
  refine swp_sub _ hsub ?_
  refine swp_ent hE ?_
  clear hsub hE env L
  refine swp_seq ?_
  refine swp_sr ?_
  refine s_mv rfl ?_
  first | refine s_pu (pu_fieldAddr0 rfl) ?_ | refine s_pu (pu_fieldAddr rfl) ?_
  refine s_rd (rd_load rfl rfl) ?_
  refine s_pu (pu_len_row h rfl) ?_
  refine s_pu (pu_lss rfl rfl) ?_
  refine swl_sub _ (sc0 0 rfl (sc0 3 rfl (sc0 5 rfl (sc0 10 rfl .nil)))) ?_
  refine swl_nn ?_
  refine swp_cond (b := _) rfl (fun h10 => ?_) (fun h10 => ?_)
  · skip   -- 10 T
    have h10' : i < c.1.length := by have := of_decide_eq_true h10; omega
    obtain ⟨x, hx⟩ : ∃ x, c.1[i]? = some x := ⟨_, List.getElem?_eq_getElem h10'⟩
    obtain ⟨gb, off, cap, hv, hc⟩ := int_at h hx
    refine swp_skip ?_
    refine then_n ?_
    refine swp_seq ?_
    refine swp_block ?_
    refine swp_seq ?_
    refine swp_draw [1, 4, 8] _ [] (by simp only [List.append_nil]; exact Ent.refl _) kr0 ?_
    first | refine d_pu 0 rfl (pu_fieldAddr0 rfl) kr0 kr0 kr0 ?_ | refine d_pu 0 rfl (pu_fieldAddr rfl) kr0 kr0 kr0 ?_
    refine d_rd 1 rfl (rd_load rfl rfl) rfl kr0 kr0 kr0 ?_
    refine d_pu 2 rfl (pu_move rfl) kr0 kr0 kr0 ?_
    refine d_pu 3 rfl (pu_indexAddr (off + i * 1) (congrArg some hv) rfl om0 om0 (by rw [Int.toNat_natCast])) kr0 kr0 kr0 ?_
    refine d_rd 4 rfl (rd_ro rfl hc) rfl kr0 kr0 kr0 ?_
    refine d_pu 5 rfl (pu_move rfl) kr0 kr0 kr0 ?_
    first | refine d_pu 6 rfl (pu_nilCheck rfl) kr0 kr0 kr0 ?_ | refine d_pu 6 rfl (pu_nilCheck_fn rfl) kr0 kr0 kr0 ?_ | refine d_pu 6 rfl (pu_nilCheck_if rfl) kr0 kr0 kr0 ?_
    first | refine d_pu 7 rfl (pu_fieldAddr0 rfl) kr0 kr0 kr0 ?_ | refine d_pu 7 rfl (pu_fieldAddr rfl) kr0 kr0 kr0 ?_
    refine d_rd 8 rfl (rd_load rfl rfl) rfl kr0 kr0 kr0 ?_
    refine d_pu 9 rfl (pu_len rfl) kr0 kr0 kr0 ?_
    refine d_pu 10 rfl (pu_geq rfl rfl) kr0 kr0 kr0 ?_
    refine d_sub _ (sc0 0 rfl (sc0 3 rfl (sc0 5 rfl (sc0 23 rfl .nil)))) ?_
    first | refine d_nilt kr0 ?_ | refine d_nilf kr0 ?_
    refine then_n ?_
    refine swp_cond (b := _) rfl (fun h23 => ?_) (fun h23 => ?_)
    · skip   -- 23 T
      refine swp_sr ?_
      refine s_as rfl ?_
      refine swl_sub _ (sc0 4 rfl .nil) ?_
      refine swl_nn ?_
      refine swp_ret ?_
      refine block_r ?_
      refine then_r ?_
      refine then_r ?_
      refine block_r ?_
      refine then_r ?_
      have hk : knownS T.length C.length c = false := by
        rw [knownS_eq, List.any_eq_true.2 ⟨x, List.mem_of_getElem? hx, h23⟩, Bool.not_true, Bool.and_false]
      exact done_ret [rsH p ⟨q, .slice A1 T.length c1, .slice A2 C.length c2, T, C, dead⟩, ro μ] (.tmp rfl .nil) ⟨congrArg Value.bool hk.symm, rfl⟩ sp0
    · skip   -- 23 F
      refine swp_skip ?_
      refine block_n ?_
      refine then_n ?_
      refine swp_region ?_
      refine s_mv rfl ?_
      refine s_pu (pu_add_as ((i + 1 : Nat) : Int) rfl rfl om0 om0 om0) ?_
      refine s_as rfl ?_
      refine swl_sub _ (sc0 0 rfl (sc0 3 rfl (sc0 5 rfl .nil))) ?_
      refine swl_nil ?_
      refine then_n ⟨i + 1, ⟨⟨rfl, rfl, rfl, trivial⟩, Split.ent' sp0, h10', fun y hy => ?_⟩, by omega⟩
      rw [List.take_add_one, hx] at hy
      rcases List.mem_append.1 hy with hy | hy
      · exact hno y hy
      · obtain rfl : y = x := by simpa using hy
        exact h23
  · skip   -- 10 F
    have h10' := of_decide_eq_false h10
    obtain rfl : i = c.1.length := by omega
    rw [List.take_length] at hno
    refine swp_exit ?_
    refine then_x ?_
    refine then_x ?_
    refine block_hit rfl ?_
    refine then_n ?_
    refine swp_seq ?_
    refine swp_draw [1, 5] _ [] (by simp only [List.append_nil]; exact Ent.refl _) kr0 ?_
    first | refine d_pu 0 rfl (pu_fieldAddr0 rfl) kr0 kr0 kr0 ?_ | refine d_pu 0 rfl (pu_fieldAddr rfl) kr0 kr0 kr0 ?_
    refine d_rd 1 rfl (rd_load rfl rfl) rfl kr0 kr0 kr0 ?_
    refine d_pu 2 rfl (pu_move rfl) kr0 kr0 kr0 ?_
    first | refine d_pu 3 rfl (pu_nilCheck rfl) kr0 kr0 kr0 ?_ | refine d_pu 3 rfl (pu_nilCheck_fn rfl) kr0 kr0 kr0 ?_ | refine d_pu 3 rfl (pu_nilCheck_if rfl) kr0 kr0 kr0 ?_
    first | refine d_pu 4 rfl (pu_fieldAddr0 rfl) kr0 kr0 kr0 ?_ | refine d_pu 4 rfl (pu_fieldAddr rfl) kr0 kr0 kr0 ?_
    refine d_rd 5 rfl (rd_load rfl rfl) rfl kr0 kr0 kr0 ?_
    refine d_pu 6 rfl (pu_len rfl) kr0 kr0 kr0 ?_
    refine d_pu 7 rfl (pu_lss rfl rfl) kr0 kr0 kr0 ?_
    refine d_pu 8 rfl (pu_assign rfl) kr0 kr0 kr0 ?_
    refine d_sub _ (sc0 4 rfl .nil) ?_
    first | refine d_nilt kr0 ?_ | refine d_nilf kr0 ?_
    refine then_n ?_
    refine swp_ret ?_
    have ha : (c.1.any fun p => decide ((C.length : Int) ≤ p)) = false := by
      rw [List.any_eq_false]
      exact fun y hy => by rw [hno y hy]; decide
    have hk : knownS T.length C.length c = decide (c.2 < (T.length : Int)) := by
      rw [knownS_eq, ha, Bool.not_false, Bool.and_true]
    exact done_ret [rsH p ⟨q, .slice A1 T.length c1, .slice A2 C.length c2, T, C, dead⟩, ro μ] (.tmp rfl .nil) ⟨congrArg Value.bool hk.symm, rfl⟩ sp0
end SX
namespace SX
open Go Go.Proofs
end SX
namespace SX
open Go Go.Proofs
end SX
namespace SX
open Go Go.Proofs
end SX
namespace SX
open Go Go.Proofs
/-! ## the document's first example -/
abbrev hel : List UInt8 := [104, 101, 108, 108, 111]
end SX
namespace SX
open Go Go.Proofs
/-! ## the document's disk -/
abbrev rF1 (f : Fl) : List Value := [.string ⟨f.bytes.toArray⟩, .int .i64 (f.safe : Nat)]
abbrev rN1 (x : Nm) : List Value := [.string x.1, .int .i64 (x.2 : Nat)]
abbrev rC1 (c : Cg) : List Value := [.string c.gone, .string c.come, .int .i64 (c.file : Nat)]
structure RX where
  fv : Value
  sv : Value
  av : Value
  wv : Value
abbrev rdC (q : Int) (fv sv av wv : Value) (fa : Int) (off : Bool) : List Value := [.int .i64 q, fv, sv, av, wv, .int .i64 fa, .bool off]
abbrev rdH (p : Nat) (d : Dk) (x : RX) : Assn := blk p 92 (rdC d.quota x.fv x.sv x.av x.wv d.falls d.off)
def RDA (p : Nat) (d : Dk) : Assn := exA fun x : RX => [rdH p d x, own 96 2 x.fv d.files.length (d.files.flatMap rF1), own 138 2 x.sv d.seen.length (d.seen.flatMap rN1), own 138 2 x.av d.safe.length (d.safe.flatMap rN1), own 99 3 x.wv d.pend.length (d.pend.flatMap rC1)]
theorem rd_close {p : Nat} {d : Dk} {x : RX} {L : List Assn} : Ent (rdH p d x :: own 96 2 x.fv d.files.length (d.files.flatMap rF1) :: own 138 2 x.sv d.seen.length (d.seen.flatMap rN1) :: own 138 2 x.av d.safe.length (d.safe.flatMap rN1) :: own 99 3 x.wv d.pend.length (d.pend.flatMap rC1) :: L) (RDA p d :: L) :=
  ent_ex (F := fun x : RX => [rdH p d x, own 96 2 x.fv d.files.length (d.files.flatMap rF1), own 138 2 x.sv d.seen.length (d.seen.flatMap rN1), own 138 2 x.av d.safe.length (d.safe.flatMap rN1), own 99 3 x.wv d.pend.length (d.pend.flatMap rC1)]) x sp0
theorem RDA.open' {p : Nat} {d : Dk} {f : FuncId} {args : List Value} {L : List Assn} {post : Value → List Assn → Prop}
    (h : ∀ x : RX, Spec Tryz.prog f args (rdH p d x :: own 96 2 x.fv d.files.length (d.files.flatMap rF1) :: own 138 2 x.sv d.seen.length (d.seen.flatMap rN1) :: own 138 2 x.av d.safe.length (d.safe.flatMap rN1) :: own 99 3 x.wv d.pend.length (d.pend.flatMap rC1) :: L) post) : Spec Tryz.prog f args (RDA p d :: L) post := Spec.exA' fun x => h x
theorem rgood_spec (s : ByteArray) : Spec Tryz.prog 40 [.string s] [] (fun r L => r = .bool (goodN s) ∧ L = []) := by
  have hb := bsize s
  refine Spec.of 28 Tryz.func40 rfl rfl rfl ?_
  refine swp_sr ?_
  refine s_as rfl ?_
  refine swl_sub _ (sc0 0 rfl .nil) ?_
  refine swl_nn ?_
  refine swp_seq ?_
  refine swp_sr ?_
  refine s_mv rfl ?_
  refine s_pu (pu_strlen rfl) ?_
  refine s_pu (pu_lss rfl rfl) ?_
  refine s_mv rfl ?_
  refine s_split 7 rfl (fun h7 => ?_) (fun h7 => ?_)
  · skip   -- 7 T
    refine s_off rfl rfl rfl ?_
    refine s_off rfl rfl rfl ?_
    refine s_off rfl rfl rfl ?_
    first | refine s_pu (pu_pick_t rfl rfl) ?_ | refine s_pu (pu_pick_f rfl rfl) ?_
    refine swl_sub _ (sc0 0 rfl (sc0 11 rfl .nil)) ?_
    refine swl_nn ?_
    refine swp_cond (b := _) rfl (fun h11 => ?_) (fun h11 => by cases h11)
    refine swp_sr ?_
    refine s_as rfl ?_
    refine swl_sub _ (sc0 2 rfl .nil) ?_
    refine swl_nn ?_
    refine swp_ret ?_
    refine then_r ?_
    refine done_ret [] (.tmp rfl .nil) ⟨?_, rfl⟩ sp0
    have h7' := of_decide_eq_true h7
    unfold goodN
    rw [decide_eq_false (show ¬ 1 ≤ s.size by omega)]; rfl
  · skip   -- 7 F
    refine s_on rfl rfl ?_
    refine s_mv rfl ?_
    refine s_on rfl rfl ?_
    refine s_pu (pu_strlen rfl) ?_
    refine s_on rfl rfl ?_
    refine s_pu (pu_gtr rfl rfl) ?_
    first | refine s_pu (pu_pick_t rfl rfl) ?_ | refine s_pu (pu_pick_f rfl rfl) ?_
    refine swl_sub _ (sc0 0 rfl (sc0 11 rfl .nil)) ?_
    refine swl_nn ?_
    refine swp_cond (b := _) rfl (fun h11 => ?_) (fun h11 => ?_)
    · skip   -- 11 T
      refine swp_sr ?_
      refine s_as rfl ?_
      refine swl_sub _ (sc0 2 rfl .nil) ?_
      refine swl_nn ?_
      refine swp_ret ?_
      refine then_r ?_
      refine done_ret [] (.tmp rfl .nil) ⟨?_, rfl⟩ sp0
      have h11' := of_decide_eq_true h11
      unfold goodN
      rw [decide_eq_false (show ¬ s.size ≤ 32 by omega), Bool.false_and, Bool.and_false]; rfl
    · skip   -- 11 F
      have h7' : 1 ≤ s.size := by have := of_decide_eq_false h7; omega
      have h11' : s.size ≤ 32 := by have := of_decide_eq_false h11; omega
      have key : goodN s = s.data.toList.all fun b => decide (33 ≤ b.toNat) && decide (b.toNat ≤ 126) := by
        unfold goodN; rw [decide_eq_true h7', decide_eq_true h11']; rfl
      refine swp_skip ?_
      refine then_n ?_
      refine swp_seq ?_
      refine swp_sr ?_
      refine s_as rfl ?_
      refine swl_sub _ (sc0 0 rfl (sc0 3 rfl .nil)) ?_
      refine swl_nn ?_
      refine swp_block ?_
      refine swp_loop (ι := Nat) (fun i env L => Sub env [(0, .string s), (3, .int .i64 (i : Nat))] ∧ Ent L [] ∧ i ≤ s.size ∧ (s.data.toList.take i).all (fun b => decide (33 ≤ b.toNat) && decide (b.toNat ≤ 126)) = true) (fun i => s.size - i) 0 ⟨⟨rfl, rfl, trivial⟩, Split.ent' sp0, Nat.zero_le _, rfl⟩ ?_
      rintro i env L ⟨hsub, hE, hi, hall⟩
      refine swp_sub _ hsub ?_
      refine swp_ent hE ?_
      clear hsub hE env L
      refine swp_seq ?_
      refine swp_sr ?_
      refine s_mv rfl ?_
      refine s_mv rfl ?_
      refine s_pu (pu_strlen rfl) ?_
      refine s_pu (pu_lss rfl rfl) ?_
      refine swl_sub _ (sc0 0 rfl (sc0 3 rfl (sc0 15 rfl .nil))) ?_
      refine swl_nn ?_
      refine swp_cond (b := _) rfl (fun h15 => ?_) (fun h15 => ?_)
      · skip   -- 15 T
        have h15' : i < s.size := by have := of_decide_eq_true h15; omega
        obtain ⟨b, hbb⟩ : ∃ b, s.data.toList[i]? = some b := ⟨_, List.getElem?_eq_getElem om0⟩
        have hstep : (s.data.toList.take (i + 1)).all (fun b => decide (33 ≤ b.toNat) && decide (b.toNat ≤ 126)) = (decide (33 ≤ b.toNat) && decide (b.toNat ≤ 126)) := by
          rw [List.take_add_one, hbb, List.all_append, hall]; simp
        refine swp_skip ?_
        refine then_n ?_
        refine swp_seq ?_
        refine swp_block ?_
        refine swp_sr ?_
        refine s_mv rfl ?_
        refine s_mv rfl ?_
        refine s_pu (pu_str_index rfl rfl rfl hbb) ?_
        refine s_pu (pu_lss rfl rfl) ?_
        refine s_mv rfl ?_
        refine s_split 22 rfl (fun h22 => ?_) (fun h22 => ?_)
        · skip   -- 22 T
          refine s_off rfl rfl rfl ?_
          refine s_off rfl rfl rfl ?_
          refine s_off rfl rfl rfl ?_
          refine s_off rfl rfl rfl ?_
          first | refine s_pu (pu_pick_t rfl rfl) ?_ | refine s_pu (pu_pick_f rfl rfl) ?_
          refine swl_sub _ (sc0 0 rfl (sc0 3 rfl (sc0 27 rfl .nil))) ?_
          refine swl_nn ?_
          refine swp_cond (b := _) rfl (fun h27 => ?_) (fun h27 => by cases h27)
          refine swp_sr ?_
          refine s_as rfl ?_
          refine swl_sub _ (sc0 2 rfl .nil) ?_
          refine swl_nn ?_
          refine swp_ret ?_
          refine block_r ?_
          refine then_r ?_
          refine then_r ?_
          refine block_r ?_
          refine then_r ?_
          refine done_ret [] (.tmp rfl .nil) ⟨?_, rfl⟩ sp0
          rw [key]
          refine congrArg Value.bool ?_
          symm
          refine Bool.eq_false_iff.2 fun hh => ?_
          have := List.all_eq_true.1 hh b (List.mem_of_getElem? hbb)
          rw [Bool.and_eq_true, decide_eq_true_eq, decide_eq_true_eq] at this
          first
            | (have h22' := of_decide_eq_true h22; omega)
            | (have h27' := of_decide_eq_true h27; omega)
        · skip   -- 22 F
          refine s_on rfl rfl ?_
          refine s_mv rfl ?_
          refine s_on rfl rfl ?_
          refine s_mv rfl ?_
          refine s_on rfl rfl ?_
          refine s_pu (pu_str_index rfl rfl rfl hbb) ?_
          refine s_on rfl rfl ?_
          refine s_pu (pu_gtr rfl rfl) ?_
          first | refine s_pu (pu_pick_t rfl rfl) ?_ | refine s_pu (pu_pick_f rfl rfl) ?_
          refine swl_sub _ (sc0 0 rfl (sc0 3 rfl (sc0 27 rfl .nil))) ?_
          refine swl_nn ?_
          refine swp_cond (b := _) rfl (fun h27 => ?_) (fun h27 => ?_)
          · skip   -- 27 T
            refine swp_sr ?_
            refine s_as rfl ?_
            refine swl_sub _ (sc0 2 rfl .nil) ?_
            refine swl_nn ?_
            refine swp_ret ?_
            refine block_r ?_
            refine then_r ?_
            refine then_r ?_
            refine block_r ?_
            refine then_r ?_
            refine done_ret [] (.tmp rfl .nil) ⟨?_, rfl⟩ sp0
            rw [key]
            refine congrArg Value.bool ?_
            symm
            refine Bool.eq_false_iff.2 fun hh => ?_
            have := List.all_eq_true.1 hh b (List.mem_of_getElem? hbb)
            rw [Bool.and_eq_true, decide_eq_true_eq, decide_eq_true_eq] at this
            first
              | (have h22' := of_decide_eq_true h22; omega)
              | (have h27' := of_decide_eq_true h27; omega)
          · skip   -- 27 F
            refine swp_skip ?_
            refine block_n ?_
            refine then_n ?_
            refine swp_region ?_
            refine s_mv rfl ?_
            refine s_pu (pu_add_as ((i + 1 : Nat) : Int) rfl rfl om0 om0 om0) ?_
            refine s_as rfl ?_
            refine swl_sub _ (sc0 0 rfl (sc0 3 rfl .nil)) ?_
            refine swl_nil ?_
            have h22' := of_decide_eq_false h22
            have h27' := of_decide_eq_false h27
            refine then_n ⟨i + 1, ⟨⟨rfl, rfl, trivial⟩, Split.ent' sp0, h15', ?_⟩, by omega⟩
            rw [hstep, decide_eq_true (show 33 ≤ b.toNat by omega), decide_eq_true (show b.toNat ≤ 126 by omega)]; rfl
      · skip   -- 15 F
        have h15' : i = s.size := by have := of_decide_eq_false h15; omega
        rw [h15', ← hb, List.take_length] at hall
        refine swp_exit ?_
        refine then_x ?_
        refine then_x ?_
        refine block_hit rfl ?_
        refine then_n ?_
        refine swp_sr ?_
        refine s_as rfl ?_
        refine swl_sub _ (sc0 2 rfl .nil) ?_
        refine swl_nn ?_
        refine swp_ret ?_
        refine done_ret [] (.tmp rfl .nil) ⟨by rw [key, hall]; rfl, rfl⟩ sp0
theorem rfind_spec (v : Value) (l : List Nm) (s : ByteArray) (_ : l.length ≤ 1048576) : Spec Tryz.prog 41 [v, .string s] [own 138 2 v l.length (l.flatMap rN1)]
    (fun r L => (∃ i : Int, r = .int .i64 i ∧ ((i < 0 ∧ findN l s = none) ∨ ∃ (k : Nat) (y : Nm), i = (k : Int) ∧ l[k]? = some y ∧ findN l s = some y.2)) ∧ L = [own 138 2 v l.length (l.flatMap rN1)]) := by
  refine Spec.fact' (fun m h => own_cap2 h) fun ⟨A, c, hv, hlc, hcm, hA, hA2⟩ => ?_
  simp only [maxLen] at hcm
  subst hv
  refine Spec.of 20 Tryz.func41 rfl rfl rfl ?_
  refine swp_sr ?_
  refine s_as rfl ?_
  refine swl_sub _ (sc0 0 rfl (sc0 1 rfl .nil)) ?_
  refine swl_nn ?_
  refine swp_seq ?_
  refine swp_sr ?_
  refine s_as rfl ?_
  refine swl_sub _ (sc0 0 rfl (sc0 1 rfl (sc0 5 rfl .nil))) ?_
  refine swl_nn ?_
  refine swp_block ?_
  refine swp_loop (ι := Nat) (fun i env L => Sub env [(0, .slice A l.length c), (1, .string s), (5, .int .i64 (i : Nat))] ∧ Ent L [own 138 2 (.slice A l.length c) l.length (l.flatMap rN1)] ∧ i ≤ l.length ∧ findN (l.take i) s = none) (fun i => l.length - i) 0 ⟨⟨rfl, rfl, rfl, trivial⟩, Split.ent' sp0, Nat.zero_le _, rfl⟩ ?_
  rintro i env L ⟨hsub, hE, hi, hn⟩
  refine swp_sub _ hsub ?_
  refine swp_ent hE ?_
  clear hsub hE env L
  refine swp_seq ?_
  refine swp_sr ?_
  refine s_mv rfl ?_
  refine s_mv rfl ?_
  refine s_pu (pu_len rfl) ?_
  refine s_pu (pu_lss rfl rfl) ?_
  refine swl_sub _ (sc0 0 rfl (sc0 1 rfl (sc0 5 rfl (sc0 9 rfl .nil)))) ?_
  refine swl_nn ?_
  refine swp_cond (b := _) rfl (fun h9 => ?_) (fun h9 => ?_)
  · skip   -- 9 T
    have h9' : i < l.length := by have := of_decide_eq_true h9; omega
    obtain ⟨a, ha⟩ : ∃ a, A = some a := by cases A with | none => have := hA rfl; omega | some a => exact ⟨a, rfl⟩
    obtain ⟨b, rfl⟩ := hA2 a ha
    subst ha
    obtain ⟨y, hy⟩ : ∃ y, l[i]? = some y := ⟨_, List.getElem?_eq_getElem h9'⟩
    have hcell := flat_at (f := rN1) (n := 2) (fun _ => rfl) hy 0 _ rfl
    have hdrop : l.drop i = y :: l.drop (i + 1) := by rw [List.drop_eq_getElem_cons h9', (List.getElem?_eq_some_iff.1 hy).2]
    refine swp_skip ?_
    refine then_n ?_
    refine swp_seq ?_
    refine swp_block ?_
    refine swp_sr ?_
    refine s_mv rfl ?_
    refine s_mv rfl ?_
    refine s_pu (pu_indexAddr (0 + i * 2) rfl rfl om0 om0 (by rw [Int.toNat_natCast])) ?_
    first | refine s_pu (pu_fieldAddr0 rfl) ?_ | refine s_pu (pu_fieldAddr rfl) ?_
    refine s_rd (rd_own rfl tk0 (by rw [Nat.zero_add]; exact hcell)) ?_
    refine s_mv rfl ?_
    refine s_pu (pu_str_eql rfl rfl) ?_
    refine swl_sub _ (sc0 0 rfl (sc0 1 rfl (sc0 5 rfl (sc0 18 rfl .nil)))) ?_
    refine swl_nn ?_
    refine swp_cond (b := _) rfl (fun h18 => ?_) (fun h18 => ?_)
    · skip   -- 18 T
      refine swp_sr ?_
      refine s_mv rfl ?_
      refine s_as rfl ?_
      refine swl_sub _ (sc0 4 rfl .nil) ?_
      refine swl_nn ?_
      refine swp_ret ?_
      refine block_r ?_
      refine then_r ?_
      refine then_r ?_
      refine block_r ?_
      refine then_r ?_
      refine done_ret [own 138 2 (.slice (some ⟨b, 0, none⟩) l.length c) l.length (l.flatMap rN1)] (.tmp rfl .nil) ⟨⟨i, rfl, .inr ⟨i, y, rfl, hy, ?_⟩⟩, rfl⟩ sp0
      rw [← List.take_append_drop i l, find_app, hn, hdrop, findN_cons, if_pos h18]; rfl
    · skip   -- 18 F
      refine swp_skip ?_
      refine block_n ?_
      refine then_n ?_
      refine swp_region ?_
      refine s_mv rfl ?_
      refine s_pu (pu_add_as ((i + 1 : Nat) : Int) rfl rfl om0 om0 om0) ?_
      refine s_as rfl ?_
      refine swl_sub _ (sc0 0 rfl (sc0 1 rfl (sc0 5 rfl .nil))) ?_
      refine swl_nil ?_
      refine then_n ⟨i + 1, ⟨⟨rfl, rfl, rfl, trivial⟩, Split.ent' sp0, h9', ?_⟩, by omega⟩
      rw [List.take_add_one, hy, find_app, hn]
      show findN [y] s = none
      rw [findN_cons, if_neg (by rw [h18]; decide)]; rfl
  · skip   -- 9 F
    have h9' : i = l.length := by have := of_decide_eq_false h9; omega
    rw [h9', List.take_length] at hn
    refine swp_exit ?_
    refine then_x ?_
    refine then_x ?_
    refine block_hit rfl ?_
    refine then_n ?_
    refine swp_sr ?_
    refine s_as rfl ?_
    refine swl_sub _ (sc0 4 rfl .nil) ?_
    refine swl_nn ?_
    refine swp_ret ?_
    exact done_ret [own 138 2 (.slice A l.length c) l.length (l.flatMap rN1)] (.tmp rfl .nil) ⟨⟨-1, rfl, .inl ⟨by omega, hn⟩⟩, rfl⟩ sp0
end SX
namespace SX
open Go Go.Proofs
/-- what the number of a name's file is, or the error -/
def FileR (d : Dk) (s : ByteArray) (k e : Int) : Prop := (e ≠ 0 ∧ readD d s = ([], e) ∧ ∀ f, onFile d s f = (d, e)) ∨ (e = 0 ∧ ∃ j : Nat, k = (j : Int) ∧ findN d.seen s = some j ∧ readD d s = ((d.fl j).bytes, 0) ∧ ∀ f, onFile d s f = f j)
theorem rfile_spec (p : Nat) (d : Dk) (hd : d.Ok) (x : RX) (s : ByteArray) : Spec Tryz.prog 72 [pv p, .string s] [rdH p d x, own 138 2 x.sv d.seen.length (d.seen.flatMap rN1)] (fun r L => (∃ k e, r = .tuple #[.int .i64 k, .int .i64 e] ∧ FileR d s k e) ∧ L = [rdH p d x, own 138 2 x.sv d.seen.length (d.seen.flatMap rN1)]) := by
  have hsl := hd.seenLe
  refine Spec.pre (pre := [own 138 2 x.sv d.seen.length (d.seen.flatMap rN1), rdH p d x]) ?_ Ent.swap
  refine Spec.fact' (fun m h => own_cap2 h) fun ⟨A, c, hv, hlc, hcm, hA, hA2⟩ => ?_
  simp only [maxLen] at hcm
  refine Spec.of 27 Tryz.func72 rfl rfl rfl ?_
  refine swp_sr ?_
  refine s_as rfl ?_
  refine s_as rfl ?_
  refine swl_sub _ (sc0 0 rfl (sc0 1 rfl .nil)) ?_
  refine swl_nn ?_
  refine swp_seq ?_
  refine swp_sr ?_
  refine s_mv rfl ?_
  first | refine s_pu (pu_nilCheck rfl) ?_ | refine s_pu (pu_nilCheck_fn rfl) ?_ | refine s_pu (pu_nilCheck_if rfl) ?_
  first | refine s_pu (pu_fieldAddr0 rfl) ?_ | refine s_pu (pu_fieldAddr rfl) ?_
  refine s_rd (rd_load rfl rfl) ?_
  refine swl_sub _ (sc0 0 rfl (sc0 1 rfl (sc0 10 rfl .nil))) ?_
  refine swl_nn ?_
  refine swp_cond (b := _) rfl (fun h10 => ?_) (fun h10 => ?_)
  · skip   -- 10 T
    refine swp_sr ?_
    refine s_as rfl ?_
    refine s_as rfl ?_
    refine swl_sub _ (sc0 4 rfl (sc0 5 rfl .nil)) ?_
    refine swl_nn ?_
    refine swp_ret ?_
    refine then_r ?_
    refine done_ret [rdH p d x, own 138 2 x.sv d.seen.length (d.seen.flatMap rN1)] (.tmp rfl (.tmp rfl .nil)) ⟨⟨0, 8, rfl, .inl ⟨by decide, ?_, fun f => ?_⟩⟩, rfl⟩ sp0
    · unfold readD; rw [if_pos h10]
    · unfold onFile; rw [if_pos h10]
  · skip   -- 10 F
    have hoff : ¬ d.off = true := by rw [h10]; decide
    refine swp_skip ?_
    refine then_n ?_
    refine swp_sr ?_
    refine s_mv rfl ?_
    first | refine s_pu (pu_nilCheck rfl) ?_ | refine s_pu (pu_nilCheck_fn rfl) ?_ | refine s_pu (pu_nilCheck_if rfl) ?_
    first | refine s_pu (pu_fieldAddr0 rfl) ?_ | refine s_pu (pu_fieldAddr rfl) ?_
    refine s_rd (rd_load rfl rfl) ?_
    refine s_mv rfl ?_
    refine s_ef (ef_fn (rfind_spec x.sv d.seen s om0) rfl rfl sp0) ?_
    rintro v16 L1 ⟨⟨i, rfl, hi⟩, rfl⟩
    refine swl_app ?_
    refine s_as rfl ?_
    refine swl_sub _ (sc0 0 rfl (sc0 6 rfl .nil)) ?_
    refine swl_nn ?_
    refine swp_seq ?_
    refine swp_sr ?_
    refine s_mv rfl ?_
    refine s_pu (pu_lss rfl rfl) ?_
    refine swl_sub _ (sc0 0 rfl (sc0 6 rfl (sc0 18 rfl .nil))) ?_
    refine swl_nn ?_
    refine swp_cond (b := _) rfl (fun h18 => ?_) (fun h18 => ?_)
    · skip   -- 18 T
      refine swp_sr ?_
      refine s_as rfl ?_
      refine s_as rfl ?_
      refine swl_sub _ (sc0 4 rfl (sc0 5 rfl .nil)) ?_
      refine swl_nn ?_
      refine swp_ret ?_
      refine then_r ?_
      have h18' := of_decide_eq_true h18
      have hf : findN d.seen s = none := by
        rcases hi with ⟨_, h⟩ | ⟨k, y, h, _⟩
        · exact h
        · omega
      refine done_ret [rdH p d x, own 138 2 x.sv d.seen.length (d.seen.flatMap rN1)] (.tmp rfl (.tmp rfl .nil)) ⟨⟨0, 6, rfl, .inl ⟨by decide, ?_, fun f => ?_⟩⟩, rfl⟩ sp0
      · unfold readD; rw [if_neg hoff, hf]
      · unfold onFile; rw [if_neg hoff, hf]
    · skip   -- 18 F
      have h18' := of_decide_eq_false h18
      obtain ⟨k, y, rfl, hy, hf⟩ : ∃ (k : Nat) (y : Nm), i = (k : Int) ∧ d.seen[k]? = some y ∧ findN d.seen s = some y.2 := by
        rcases hi with ⟨h, _⟩ | h
        · omega
        · exact h
      have hk : k < d.seen.length := (List.getElem?_eq_some_iff.1 hy).1
      obtain ⟨a, ha⟩ : ∃ a, A = some a := by cases A with | none => have := hA rfl; omega | some a => exact ⟨a, rfl⟩
      obtain ⟨b, rfl⟩ := hA2 a ha
      subst ha
      have hcell := flat_at (f := rN1) (n := 2) (fun _ => rfl) hy 1 _ rfl
      rw [hv]
      refine swp_skip ?_
      refine then_n ?_
      refine swp_sr ?_
      refine s_mv rfl ?_
      first | refine s_pu (pu_nilCheck rfl) ?_ | refine s_pu (pu_nilCheck_fn rfl) ?_ | refine s_pu (pu_nilCheck_if rfl) ?_
      first | refine s_pu (pu_fieldAddr0 rfl) ?_ | refine s_pu (pu_fieldAddr rfl) ?_
      refine s_rd (rd_load rfl rfl) ?_
      refine s_mv rfl ?_
      refine s_pu (pu_indexAddr (0 + k * 2) (congrArg some hv) rfl om0 om0 (by rw [Int.toNat_natCast])) ?_
      first | refine s_pu (pu_fieldAddr0 rfl) ?_ | refine s_pu (pu_fieldAddr rfl) ?_
      refine s_rd (rd_own rfl tk0 (by rw [Nat.zero_add]; exact hcell)) ?_
      refine s_as rfl ?_
      refine s_as rfl ?_
      refine swl_sub _ (sc0 4 rfl (sc0 5 rfl .nil)) ?_
      refine swl_nn ?_
      refine swp_ret ?_
      rw [← hv]
      refine done_ret [rdH p d x, own 138 2 x.sv d.seen.length (d.seen.flatMap rN1)] (.tmp rfl (.tmp rfl .nil)) ⟨⟨y.2, 0, rfl, .inr ⟨rfl, y.2, rfl, hf, ?_, fun f => ?_⟩⟩, rfl⟩ sp0
      · unfold readD; rw [if_neg hoff, hf]
      · unfold onFile; rw [if_neg hoff, hf]
theorem rstep_spec (p : Nat) (q : Int) (fv sv av wv : Value) (fa : Int) (off : Bool) (h0 : 0 ≤ fa ∧ fa ≤ 9223372036854775807) : Spec Tryz.prog 42 [pv p] [blk p 92 (rdC q fv sv av wv fa off)]
    (fun r L => (fa = 1 ∧ r = .int .i64 8 ∧ L = [blk p 92 (rdC q fv sv av wv 0 true)]) ∨ (fa ≠ 1 ∧ r = .int .i64 0 ∧ L = [blk p 92 (rdC q fv sv av wv (if 0 < fa then fa - 1 else fa) off)])) := by
  refine Spec.of 23 Tryz.func42 rfl rfl rfl ?_
  refine swp_sr ?_
  refine s_as rfl ?_
  refine swl_sub _ (sc0 0 rfl .nil) ?_
  refine swl_nn ?_
  refine swp_seq ?_
  refine swp_sr ?_
  refine s_mv rfl ?_
  first | refine s_pu (pu_nilCheck rfl) ?_ | refine s_pu (pu_nilCheck_fn rfl) ?_ | refine s_pu (pu_nilCheck_if rfl) ?_
  first | refine s_pu (pu_fieldAddr0 rfl) ?_ | refine s_pu (pu_fieldAddr rfl) ?_
  refine s_rd (rd_load rfl rfl) ?_
  refine s_pu (pu_gtr rfl rfl) ?_
  refine swl_sub _ (sc0 0 rfl (sc0 7 rfl .nil)) ?_
  refine swl_nn ?_
  refine swp_cond (b := _) rfl (fun h7 => ?_) (fun h7 => ?_)
  · skip   -- 7 T
    have h7' : 0 < fa := by have := of_decide_eq_true h7; omega
    refine swp_sr ?_
    refine s_mv rfl ?_
    first | refine s_pu (pu_nilCheck rfl) ?_ | refine s_pu (pu_nilCheck_fn rfl) ?_ | refine s_pu (pu_nilCheck_if rfl) ?_
    first | refine s_pu (pu_fieldAddr0 rfl) ?_ | refine s_pu (pu_fieldAddr rfl) ?_
    refine s_rd (rd_load rfl rfl) ?_
    first | refine s_pu (pu_sub_in rfl rfl om0 om0) ?_ | refine s_pu (pu_sub rfl rfl) ?_
    first | refine s_pu (pu_nilCheck rfl) ?_ | refine s_pu (pu_nilCheck_fn rfl) ?_ | refine s_pu (pu_nilCheck_if rfl) ?_
    first | refine s_pu (pu_fieldAddr0 rfl) ?_ | refine s_pu (pu_fieldAddr rfl) ?_
    refine s_ef0 (ef_store rfl rfl rfl) ?_
    refine swl_sub _ (sc0 0 rfl .nil) ?_
    refine swl_nn ?_
    refine swp_sr ?_
    refine s_mv rfl ?_
    first | refine s_pu (pu_nilCheck rfl) ?_ | refine s_pu (pu_nilCheck_fn rfl) ?_ | refine s_pu (pu_nilCheck_if rfl) ?_
    first | refine s_pu (pu_fieldAddr0 rfl) ?_ | refine s_pu (pu_fieldAddr rfl) ?_
    refine s_rd (rd_load rfl rfl) ?_
    refine s_pu (pu_eql rfl rfl) ?_
    refine swl_sub _ (sc0 0 rfl (sc0 19 rfl .nil)) ?_
    refine swl_nn ?_
    refine swp_cond (b := _) rfl (fun h19 => ?_) (fun h19 => ?_)
    · skip   -- 19 T
      have h19' : fa = 1 := by have := of_decide_eq_true h19; omega
      refine swp_sr ?_
      refine s_mv rfl ?_
      first | refine s_pu (pu_nilCheck rfl) ?_ | refine s_pu (pu_nilCheck_fn rfl) ?_ | refine s_pu (pu_nilCheck_if rfl) ?_
      first | refine s_pu (pu_fieldAddr0 rfl) ?_ | refine s_pu (pu_fieldAddr rfl) ?_
      refine s_ef0 (ef_store rfl rfl rfl) ?_
      refine swl_sub _ .nil ?_
      refine swl_nn ?_
      refine swp_sr ?_
      refine s_as rfl ?_
      refine swl_sub _ (sc0 2 rfl .nil) ?_
      refine swl_nn ?_
      refine swp_ret ?_
      refine then_r ?_
      refine done_retE [blk p 92 (rdC q fv sv av wv 0 true)] (.tmp rfl .nil) (.inl ⟨h19', rfl, rfl⟩) ?_
      rw [show fa - 1 = 0 by omega]; exact Ent.refl _
    · skip   -- 19 F
      refine swp_skip ?_
      refine then_n ?_
      refine swp_sr ?_
      refine s_as rfl ?_
      refine swl_sub _ (sc0 2 rfl .nil) ?_
      refine swl_nn ?_
      refine swp_ret ?_
      have h19' : fa ≠ 1 := by have := of_decide_eq_false h19; omega
      refine done_ret [blk p 92 (rdC q fv sv av wv (if 0 < fa then fa - 1 else fa) off)] (.tmp rfl .nil) (.inr ⟨h19', rfl, rfl⟩) (R := []) ?_
      rw [if_pos h7']; exact sp0
  · skip   -- 7 F
    refine swp_skip ?_
    refine then_n ?_
    refine swp_sr ?_
    refine s_as rfl ?_
    refine swl_sub _ (sc0 2 rfl .nil) ?_
    refine swl_nn ?_
    refine swp_ret ?_
    have h7' : ¬ 0 < fa := by have := of_decide_eq_false h7; omega
    refine done_ret [blk p 92 (rdC q fv sv av wv (if 0 < fa then fa - 1 else fa) off)] (.tmp rfl .nil) (.inr ⟨by omega, rfl, rfl⟩) (R := []) ?_
    rw [if_neg h7']; exact sp0
set_option maxHeartbeats 2000000 in
theorem changed_spec (v : Value) (l : List Nm) (hl : l.length ≤ 1048576) (c : Cg) : Spec Tryz.prog 88 [v, .agg (rC1 c).toArray] [own 138 2 v l.length (l.flatMap rN1)]
    (fun r L => (∃ A c', r = .slice A (chgN l c).length c') ∧ L = [own 138 2 r (chgN l c).length ((chgN l c).flatMap rN1), own 138 2 v l.length (l.flatMap rN1)]) := by
  refine Spec.fact' (fun m h => own_cap2 h) fun ⟨A, cap, hv, hlc, hcm, hA, hA2⟩ => ?_
  simp only [maxLen] at hcm
  subst hv
  refine Spec.of 50 Tryz.func88 rfl rfl rfl ?_
  refine swp_sr ?_
  refine s_ef (ef_box rfl rfl) ?_
  intro b3
  refine s_as rfl ?_
  refine swl_sub _ (sc0 0 rfl (sc0 3 rfl .nil)) ?_
  refine swl_nn ?_
  refine swp_sr ?_
  refine s_as rfl ?_
  refine swl_sub _ (sc0 0 rfl (sc0 3 rfl (sc0 5 rfl .nil))) ?_
  refine swl_nn ?_
  refine swp_seq ?_
  refine swp_sr ?_
  refine s_as rfl ?_
  refine swl_sub _ (sc0 0 rfl (sc0 3 rfl (sc0 5 rfl (sc0 6 rfl .nil)))) ?_
  refine swl_nn ?_
  refine swp_block ?_
  refine swp_ent (own_nil_ent (e := 138) (n := 2)) ?_
  refine swp_loop (ι := Nat) (fun i env L => ∃ u, Sub env [(0, .slice A l.length cap), (3, pv b3), (5, u), (6, .int .i64 (i : Nat))] ∧ Ent L [own 138 2 u ((l.take i).filter (keepN c)).length (((l.take i).filter (keepN c)).flatMap rN1), own 138 2 (.slice A l.length cap) l.length (l.flatMap rN1), blk b3 99 (rC1 c)] ∧ i ≤ l.length) (fun i => l.length - i) 0 ⟨.slice none 0 0, ⟨rfl, rfl, rfl, rfl, trivial⟩, (show Ent _ [own 138 2 (.slice none 0 0) 0 [], own 138 2 (.slice A l.length cap) l.length (l.flatMap rN1), blk b3 99 (rC1 c)] from Split.ent' sp0), Nat.zero_le _⟩ ?_
  rintro i env L ⟨u, hsub, hE, hi⟩
  refine swp_sub _ hsub ?_
  refine swp_ent hE ?_
  clear hsub hE env L
  have hfl : ((l.take i).filter (keepN c)).length ≤ 1048576 := by
    have h1 := List.length_filter_le (keepN c) (l.take i)
    rw [List.length_take] at h1; omega
  refine swp_seq ?_
  refine swp_sr ?_
  refine s_mv rfl ?_
  refine s_mv rfl ?_
  refine s_pu (pu_len rfl) ?_
  refine s_pu (pu_lss rfl rfl) ?_
  refine swl_sub _ (sc0 0 rfl (sc0 3 rfl (sc0 5 rfl (sc0 6 rfl (sc0 10 rfl .nil))))) ?_
  refine swl_nn ?_
  refine swp_cond (b := _) rfl (fun h10 => ?_) (fun h10 => ?_)
  · skip   -- 10 T
    have h10' : i < l.length := by have := of_decide_eq_true h10; omega
    obtain ⟨a, ha⟩ : ∃ a, A = some a := by cases A with | none => have := hA rfl; omega | some a => exact ⟨a, rfl⟩
    obtain ⟨b, rfl⟩ := hA2 a ha
    subst ha
    obtain ⟨y, hy⟩ : ∃ y, l[i]? = some y := ⟨_, List.getElem?_eq_getElem h10'⟩
    have hat := flat_at (f := rN1) (n := 2) (fun _ => rfl) hy
    have hcell := hat 0 _ rfl
    have htk : (l.take (i + 1)).filter (keepN c) = (l.take i).filter (keepN c) ++ (if keepN c y = true then [y] else []) := by
      rw [List.take_add_one, hy, List.filter_append]
      congr 1
      by_cases hk : keepN c y = true
      · rw [if_pos hk]; simp [hk]
      · rw [if_neg hk]; simp [hk]
    refine swp_skip ?_
    refine then_n ?_
    refine swp_seq ?_
    refine swp_block ?_
    refine swp_seq ?_
    refine swp_draw [4, 6, 13, 15] _ [] (by simp only [List.append_nil]; exact Ent.refl _) kr0 ?_
    refine d_pu 0 rfl (pu_move rfl) kr0 kr0 kr0 ?_
    refine d_pu 1 rfl (pu_move rfl) kr0 kr0 kr0 ?_
    refine d_pu 2 rfl (pu_indexAddr (0 + i * 2) rfl rfl om0 om0 (by rw [Int.toNat_natCast])) kr0 kr0 kr0 ?_
    first | refine d_pu 3 rfl (pu_fieldAddr0 rfl) kr0 kr0 kr0 ?_ | refine d_pu 3 rfl (pu_fieldAddr rfl) kr0 kr0 kr0 ?_
    refine d_rd 4 rfl (rd_own rfl tk0 (by rw [Nat.zero_add]; exact hcell)) rfl kr0 kr0 kr0 ?_
    first | refine d_pu 5 rfl (pu_fieldAddr0 rfl) kr0 kr0 kr0 ?_ | refine d_pu 5 rfl (pu_fieldAddr rfl) kr0 kr0 kr0 ?_
    refine d_rd 6 rfl (rd_load rfl rfl) rfl kr0 kr0 kr0 ?_
    refine d_pu 7 rfl (pu_str_neq rfl rfl) kr0 kr0 kr0 ?_
    refine d_pu 8 rfl (pu_move rfl) kr0 kr0 kr0 ?_
    refine d_split 21 rfl (fun h21 => ?_) (fun h21 => ?_)
    · skip   -- 21 T
      refine d_pu_on 9 rfl rfl rfl (pu_move rfl) kr0 kr0 kr0 ?_
      refine d_pu_on 10 rfl rfl rfl (pu_move rfl) kr0 kr0 kr0 ?_
      refine d_pu_on 11 rfl rfl rfl (pu_indexAddr (0 + i * 2) rfl rfl om0 om0 (by rw [Int.toNat_natCast])) kr0 kr0 kr0 ?_
      first | refine d_pu_on 12 rfl rfl rfl (pu_fieldAddr0 rfl) kr0 kr0 kr0 ?_ | refine d_pu_on 12 rfl rfl rfl (pu_fieldAddr rfl) kr0 kr0 kr0 ?_
      refine d_rd_on 13 rfl rfl rfl (rd_own rfl tk0 (by rw [Nat.zero_add]; exact hcell)) rfl kr0 kr0 kr0 ?_
      first | refine d_pu_on 14 rfl rfl rfl (pu_fieldAddr0 rfl) kr0 kr0 kr0 ?_ | refine d_pu_on 14 rfl rfl rfl (pu_fieldAddr rfl) kr0 kr0 kr0 ?_
      refine d_rd_on 15 rfl rfl rfl (rd_load rfl rfl) rfl kr0 kr0 kr0 ?_
      refine d_pu_on 16 rfl rfl rfl (pu_str_neq rfl rfl) kr0 kr0 kr0 ?_
      first | refine d_pu 17 rfl (pu_pick_t rfl rfl) kr0 kr0 kr0 ?_ | refine d_pu 17 rfl (pu_pick_f rfl rfl) kr0 kr0 kr0 ?_
      refine d_sub _ (sc0 0 rfl (sc0 3 rfl (sc0 5 rfl (sc0 6 rfl (sc0 30 rfl .nil))))) ?_
      first | refine d_nilt kr0 ?_ | refine d_nilf kr0 ?_
      refine then_n ?_
      refine swp_cond (b := _) rfl (fun h30 => ?_) (fun h30 => ?_)
      · skip   -- 30 T
        refine swp_region ?_
        refine s_mv rfl ?_
        refine s_mv rfl ?_
        refine s_mv rfl ?_
        refine s_pu (pu_indexAddr (0 + i * 2) rfl rfl om0 om0 (by rw [Int.toNat_natCast])) ?_
        refine s_rd (rd_ownA (vs := rN1 y) rfl tk0 rfl (fun j v hj => by rw [Nat.zero_add]; exact hat j v hj)) ?_
        refine s_ef (ef_bldS (qs := [(0, _)]) rfl rfl rfl) ?_
        intro b36
        refine s_ef (ef_append_lit (l := ((l.take i).filter (keepN c)).length) (m := 1) rfl rfl sp0 (by simp only [maxLen]; omega) om0) ?_
        rintro v' hv'
        skip
        refine s_as rfl ?_
        refine swl_sub _ (sc0 0 rfl (sc0 3 rfl (sc0 5 rfl (sc0 6 rfl .nil)))) ?_
        refine swl_nil ?_
        refine block_n ?_
        refine then_n ?_
        refine swp_region ?_
        refine s_mv rfl ?_
        refine s_pu (pu_add_as ((i + 1 : Nat) : Int) rfl rfl om0 om0 om0) ?_
        refine s_as rfl ?_
        refine swl_sub _ (sc0 0 rfl (sc0 3 rfl (sc0 5 rfl (sc0 6 rfl .nil)))) ?_
        refine swl_nil ?_
        have hk : keepN c y = true := by unfold keepN; rw [not_t h21, not_t h30]; rfl
        refine then_n ⟨i + 1, ⟨v', ⟨rfl, rfl, rfl, rfl, trivial⟩, ?_, h10'⟩, by omega⟩
        rw [htk, if_pos hk, List.length_append, List.flatMap_append]
        simp only [List.length_singleton, List.flatMap_singleton]
        exact Split.ent' sp0
      · skip   -- 30 F
        refine swp_skip ?_
        refine block_n ?_
        refine then_n ?_
        refine swp_region ?_
        refine s_mv rfl ?_
        refine s_pu (pu_add_as ((i + 1 : Nat) : Int) rfl rfl om0 om0 om0) ?_
        refine s_as rfl ?_
        refine swl_sub _ (sc0 0 rfl (sc0 3 rfl (sc0 5 rfl (sc0 6 rfl .nil)))) ?_
        refine swl_nil ?_
        have hk : keepN c y = false := by unfold keepN; rw [not_f h30]; simp
        refine then_n ⟨i + 1, ⟨u, ⟨rfl, rfl, rfl, rfl, trivial⟩, ?_, h10'⟩, by omega⟩
        rw [htk, if_neg (by rw [hk]; decide), List.append_nil]
        exact Split.ent' sp0
    · skip   -- 21 F
      refine d_off 9 rfl rfl rfl rfl kr0 kr0 kr0 ?_
      refine d_off 10 rfl rfl rfl rfl kr0 kr0 kr0 ?_
      refine d_off 11 rfl rfl rfl rfl kr0 kr0 kr0 ?_
      refine d_off 12 rfl rfl rfl rfl kr0 kr0 kr0 ?_
      refine d_off 13 rfl rfl rfl rfl kr0 kr0 kr0 ?_
      refine d_off 14 rfl rfl rfl rfl kr0 kr0 kr0 ?_
      refine d_off 15 rfl rfl rfl rfl kr0 kr0 kr0 ?_
      refine d_off 16 rfl rfl rfl rfl kr0 kr0 kr0 ?_
      first | refine d_pu 17 rfl (pu_pick_t rfl rfl) kr0 kr0 kr0 ?_ | refine d_pu 17 rfl (pu_pick_f rfl rfl) kr0 kr0 kr0 ?_
      refine d_sub _ (sc0 0 rfl (sc0 3 rfl (sc0 5 rfl (sc0 6 rfl (sc0 30 rfl .nil))))) ?_
      first | refine d_nilt kr0 ?_ | refine d_nilf kr0 ?_
      refine then_n ?_
      refine swp_cond (b := _) rfl (fun h30 => by cases h30) (fun h30 => ?_)
      refine swp_skip ?_
      refine block_n ?_
      refine then_n ?_
      refine swp_region ?_
      refine s_mv rfl ?_
      refine s_pu (pu_add_as ((i + 1 : Nat) : Int) rfl rfl om0 om0 om0) ?_
      refine s_as rfl ?_
      refine swl_sub _ (sc0 0 rfl (sc0 3 rfl (sc0 5 rfl (sc0 6 rfl .nil)))) ?_
      refine swl_nil ?_
      have hk : keepN c y = false := by unfold keepN; rw [not_f h21]; rfl
      refine then_n ⟨i + 1, ⟨u, ⟨rfl, rfl, rfl, rfl, trivial⟩, ?_, h10'⟩, by omega⟩
      rw [htk, if_neg (by rw [hk]; decide), List.append_nil]
      exact Split.ent' sp0
  · skip   -- 10 F
    have h10' : i = l.length := by have := of_decide_eq_false h10; omega
    subst h10'
    rw [List.take_length] at hfl ⊢
    refine swp_fact (fun m h => own_form h) fun hform => ?_
    refine swp_exit ?_
    refine then_x ?_
    refine then_x ?_
    refine block_hit rfl ?_
    refine then_n ?_
    refine swp_seq ?_
    refine swp_sr ?_
    first | refine s_pu (pu_fieldAddr0 rfl) ?_ | refine s_pu (pu_fieldAddr rfl) ?_
    refine s_rd (rd_load rfl rfl) ?_
    refine s_pu (pu_str_neq rfl rfl) ?_
    refine swl_sub _ (sc0 3 rfl (sc0 5 rfl (sc0 40 rfl .nil))) ?_
    refine swl_nn ?_
    refine swp_cond (b := _) rfl (fun h40 => ?_) (fun h40 => ?_)
    · skip   -- 40 T
      refine swp_region ?_
      refine s_mv rfl ?_
      first | refine s_pu (pu_fieldAddr0 rfl) ?_ | refine s_pu (pu_fieldAddr rfl) ?_
      refine s_rd (rd_load rfl rfl) ?_
      first | refine s_pu (pu_fieldAddr0 rfl) ?_ | refine s_pu (pu_fieldAddr rfl) ?_
      refine s_rd (rd_load rfl rfl) ?_
      refine s_pu (pu_bld (qs := [(0, _), (1, _)]) rfl) ?_
      refine s_ef (ef_bldS (qs := [(0, _)]) rfl rfl rfl) ?_
      intro b47
      refine s_ef (ef_append_lit (l := (l.filter (keepN c)).length) (m := 1) rfl rfl sp0 (by simp only [maxLen]; omega) om0) ?_
      rintro v' hv'
      skip
      refine s_as rfl ?_
      refine swl_sub _ (sc0 5 rfl .nil) ?_
      refine swl_nn ?_
      refine swp_sr ?_
      refine s_mv rfl ?_
      refine s_as rfl ?_
      refine swl_sub _ (sc0 4 rfl .nil) ?_
      refine swl_nn ?_
      refine swp_ret ?_
      have hk : strEq c.come nos = false := not_t h40
      have key : chgN l c = l.filter (keepN c) ++ [(c.come, c.file)] := by unfold chgN; rw [if_neg (by rw [hk]; decide)]
      rw [key, List.length_append, List.flatMap_append]
      simp only [List.length_singleton, List.flatMap_singleton]
      exact done_ret [own 138 2 v' ((l.filter (keepN c)).length + 1) ((l.filter (keepN c)).flatMap rN1 ++ [.string c.come, .int .i64 (c.file : Nat)]), own 138 2 (.slice A l.length cap) l.length (l.flatMap rN1)] (.tmp rfl .nil) ⟨by obtain ⟨g, c', h⟩ := hv' (by decide); exact ⟨_, _, h⟩, rfl⟩ sp0
    · skip   -- 40 F
      refine swp_skip ?_
      refine then_n ?_
      refine swp_sr ?_
      refine s_mv rfl ?_
      refine s_as rfl ?_
      refine swl_sub _ (sc0 4 rfl .nil) ?_
      refine swl_nn ?_
      refine swp_ret ?_
      have hk : strEq c.come nos = true := not_f h40
      have key : chgN l c = l.filter (keepN c) := by unfold chgN; rw [if_pos hk, List.append_nil]
      rw [key]
      exact done_ret [own 138 2 u (l.filter (keepN c)).length ((l.filter (keepN c)).flatMap rN1), own 138 2 (.slice A l.length cap) l.length (l.flatMap rN1)] (.tmp rfl .nil) ⟨hform, rfl⟩ sp0
end SX
namespace SX
open Go Go.Proofs
theorem own_pos {e n : Nat} {v : Value} {l : Nat} {xs : List Value} {L : List Assn} {m : PH} (h : Sat (own e n v l xs :: L) m) (hl : 0 < l) : ∃ b c, v = .slice (some ⟨b, 0, none⟩) l c ∧ l ≤ c ∧ c ≤ 9223372036854775807 := by
  obtain ⟨A, c, hv, h1, h2, h3, h4⟩ := own_cap2 h
  simp only [maxLen] at h2
  cases A with
  | none => have := h3 rfl; omega
  | some a => obtain ⟨b, rfl⟩ := h4 a rfl; exact ⟨b, c, hv, h1, by omega⟩
theorem set_safe : ∀ {l : List Fl} {k : Nat} {f : Fl}, l[k]? = some f → ∀ s : Nat, (l.flatMap rF1).set (0 + k * 2 + 1) (.int .i64 (s : Nat)) = (l.set k ⟨f.bytes, s⟩).flatMap rF1
  | [], _, _, h, _ => by cases h
  | g :: l, 0, f, h, s => by
    simp at h; subst h; rfl
  | g :: l, k + 1, f, h, s => by
    have ih := set_safe (l := l) (k := k) (by simpa using h) s
    rw [List.set_cons_succ, List.flatMap_cons, List.flatMap_cons, ← ih, show 0 + (k + 1) * 2 + 1 = (0 + k * 2 + 1) + 2 by omega]; rfl
theorem set_bytes : ∀ {l : List Fl} {k : Nat} {f : Fl}, l[k]? = some f → ∀ B : List UInt8, (l.flatMap rF1).set (0 + k * 2 + 0) (.string ⟨B.toArray⟩) = (l.set k ⟨B, f.safe⟩).flatMap rF1
  | [], _, _, h, _ => by cases h
  | g :: l, 0, f, h, s => by
    simp at h; subst h; rfl
  | g :: l, k + 1, f, h, s => by
    have ih := set_bytes (l := l) (k := k) (by simpa using h) s
    rw [List.set_cons_succ, List.flatMap_cons, List.flatMap_cons, ← ih, show 0 + (k + 1) * 2 + 0 = (0 + k * 2 + 0) + 2 by omega]; rfl
theorem fl_at {d : Dk} {k : Nat} (h : k < d.files.length) : d.files[k]? = some (d.fl k) := by
  unfold Dk.fl; rw [List.getElem?_eq_getElem h]; rfl
theorem file_lt {d : Dk} (hd : d.Ok) {s : ByteArray} {k : Nat} (h : findN d.seen s = some k) : k < d.files.length := (hd.seenOk.good _ (findN_mem h)).2
theorem tsize (l : List UInt8) : (⟨l.toArray⟩ : ByteArray).size = l.length := by show l.toArray.size = _; simp
theorem str_app (l : List UInt8) (t : ByteArray) : (⟨l.toArray⟩ : ByteArray) ++ t = ⟨(l ++ t.data.toList).toArray⟩ := by
  apply ByteArray.ext
  rw [ByteArray.data_append]
  apply Array.toList_inj.1
  simp
theorem rnew_spec (q : Int) : Spec Tryz.prog 10 [.int .i64 q] [] (fun r L => (¬ newOk q ∧ r = .tuple #[.pointer none, .int .i64 1] ∧ L = []) ∨ (newOk q ∧ ∃ p, r = .tuple #[pv p, .int .i64 0] ∧ L = [RDA p (newD q)])) := by
  refine Spec.of 13 Tryz.func10 rfl rfl rfl ?_
  refine swp_sr ?_
  refine s_as rfl ?_
  refine s_as rfl ?_
  refine swl_sub _ (sc0 0 rfl .nil) ?_
  refine swl_nn ?_
  refine swp_seq ?_
  refine swp_sr ?_
  refine s_mv rfl ?_
  refine s_pu (pu_lss rfl rfl) ?_
  refine s_mv rfl ?_
  refine s_split 6 rfl (fun h6 => ?_) (fun h6 => ?_)
  · skip   -- 6 T
    refine s_off rfl rfl rfl ?_
    refine s_off rfl rfl rfl ?_
    first | refine s_pu (pu_pick_t rfl rfl) ?_ | refine s_pu (pu_pick_f rfl rfl) ?_
    refine swl_sub _ (sc0 0 rfl (sc0 9 rfl .nil)) ?_
    refine swl_nn ?_
    refine swp_cond (b := _) rfl (fun h9 => ?_) (fun h9 => by cases h9)
    refine swp_sr ?_
    refine s_as rfl ?_
    refine s_as rfl ?_
    refine swl_sub _ (sc0 2 rfl (sc0 3 rfl .nil)) ?_
    refine swl_nn ?_
    refine swp_ret ?_
    refine then_r ?_
    exact done_ret [] (.tmp rfl (.tmp rfl .nil)) (.inl ⟨fun h => by have := of_decide_eq_true h6; have := h.1; omega, rfl, rfl⟩) sp0
  · skip   -- 6 F
    refine s_on rfl rfl ?_
    refine s_mv rfl ?_
    refine s_on rfl rfl ?_
    refine s_pu (pu_gtr rfl rfl) ?_
    first | refine s_pu (pu_pick_t rfl rfl) ?_ | refine s_pu (pu_pick_f rfl rfl) ?_
    refine swl_sub _ (sc0 0 rfl (sc0 9 rfl .nil)) ?_
    refine swl_nn ?_
    refine swp_cond (b := _) rfl (fun h9 => ?_) (fun h9 => ?_)
    · skip   -- 9 T
      refine swp_sr ?_
      refine s_as rfl ?_
      refine s_as rfl ?_
      refine swl_sub _ (sc0 2 rfl (sc0 3 rfl .nil)) ?_
      refine swl_nn ?_
      refine swp_ret ?_
      refine then_r ?_
      exact done_ret [] (.tmp rfl (.tmp rfl .nil)) (.inl ⟨fun h => by have := of_decide_eq_true h9; have := h.2; omega, rfl, rfl⟩) sp0
    · skip   -- 9 F
      refine swp_skip ?_
      refine then_n ?_
      refine swp_sr ?_
      refine s_mv rfl ?_
      refine s_pu (pu_bld (qs := [(0, _)]) rfl) ?_
      refine s_ef (ef_box rfl rfl) ?_
      intro b12
      refine s_as rfl ?_
      refine s_as rfl ?_
      refine swl_sub _ (sc0 2 rfl (sc0 3 rfl .nil)) ?_
      refine swl_nn ?_
      refine swp_ret ?_
      refine done_retE [RDA b12 (newD q)] (.tmp rfl (.tmp rfl .nil)) (.inr ⟨⟨by have := of_decide_eq_false h6; omega, by have := of_decide_eq_false h9; omega⟩, b12, rfl, rfl⟩) ?_
      refine Ent.trans (own_nil_ent (e := 99) (n := 3)) ?_
      refine Ent.trans (own_nil_ent (e := 138) (n := 2)) ?_
      refine Ent.trans (own_nil_ent (e := 138) (n := 2)) ?_
      refine Ent.trans (own_nil_ent (e := 96) (n := 2)) ?_
      exact Ent.trans (Split.ent' (K := [blk b12 92 [.int .i64 q, .slice none 0 0, .slice none 0 0, .slice none 0 0, .slice none 0 0, .int .i64 0, .bool false], own 96 2 (.slice none 0 0) 0 [], own 138 2 (.slice none 0 0) 0 [], own 138 2 (.slice none 0 0) 0 [], own 99 3 (.slice none 0 0) 0 []]) sp0) (rd_close (d := newD q) (x := ⟨.slice none 0 0, .slice none 0 0, .slice none 0 0, .slice none 0 0⟩))
theorem rchange_spec (p : Nat) (q : Int) (fv sv av wv : Value) (fa : Int) (off : Bool) (l : List Nm) (ps : List Cg) (hl : l.length ≤ 1048576) (hp : ps.length ≤ 1048576) (c : Cg) :
    Spec Tryz.prog 43 [pv p, .agg (rC1 c).toArray] [blk p 92 (rdC q fv sv av wv fa off), own 138 2 sv l.length (l.flatMap rN1), own 99 3 wv ps.length (ps.flatMap rC1)]
      (fun _ L => ∃ sv' wv', L = [blk p 92 (rdC q fv sv' av wv' fa off), own 138 2 sv' (chgN l c).length ((chgN l c).flatMap rN1), own 99 3 wv' (ps ++ [c]).length ((ps ++ [c]).flatMap rC1)]) := by
  have hps : (ps ++ [c]).flatMap rC1 = ps.flatMap rC1 ++ rC1 c := by rw [List.flatMap_append, List.flatMap_singleton]
  have hpl : (ps ++ [c]).length = ps.length + 1 := by rw [List.length_append]; rfl
  refine Spec.of 23 Tryz.func43 rfl rfl rfl ?_
  refine swp_sr ?_
  refine s_ef (ef_box rfl rfl) ?_
  intro b3
  refine swl_sub _ (sc0 0 rfl (sc0 3 rfl .nil)) ?_
  refine swl_nn ?_
  refine swp_seq ?_
  refine swp_draw [4, 5] _ [] (by simp only [List.append_nil]; exact Ent.refl _) kr0 ?_
  refine d_pu 0 rfl (pu_move rfl) kr0 kr0 kr0 ?_
  refine d_pu 1 rfl (pu_move rfl) kr0 kr0 kr0 ?_
  first | refine d_pu 2 rfl (pu_nilCheck rfl) kr0 kr0 kr0 ?_ | refine d_pu 2 rfl (pu_nilCheck_fn rfl) kr0 kr0 kr0 ?_ | refine d_pu 2 rfl (pu_nilCheck_if rfl) kr0 kr0 kr0 ?_
  first | refine d_pu 3 rfl (pu_fieldAddr0 rfl) kr0 kr0 kr0 ?_ | refine d_pu 3 rfl (pu_fieldAddr rfl) kr0 kr0 kr0 ?_
  refine d_rd 4 rfl (rd_load rfl rfl) rfl kr0 kr0 kr0 ?_
  first | refine d_rd 5 rfl (rd_loadW rfl rfl) rfl kr0 kr0 kr0 ?_ | refine d_rd 5 rfl (rd_loadX rfl rfl rfl) rfl kr0 kr0 kr0 ?_
  first | refine d_fint 6 rfl kr0 kr0 (ef_fn (changed_spec sv l hl c) rfl rfl sp0) ?_ | refine d_finf 6 rfl kr0 kr0 (ef_fn (changed_spec sv l hl c) rfl rfl sp0) ?_
  rintro v10 L1 ⟨⟨A1, c1, rfl⟩, rfl⟩
  refine swd_app ?_
  first | refine d_pu 7 rfl (pu_nilCheck rfl) kr0 kr0 kr0 ?_ | refine d_pu 7 rfl (pu_nilCheck_fn rfl) kr0 kr0 kr0 ?_ | refine d_pu 7 rfl (pu_nilCheck_if rfl) kr0 kr0 kr0 ?_
  first | refine d_pu 8 rfl (pu_fieldAddr0 rfl) kr0 kr0 kr0 ?_ | refine d_pu 8 rfl (pu_fieldAddr rfl) kr0 kr0 kr0 ?_
  first | refine d_fin0t 9 rfl kr0 kr0 (ef_store rfl rfl rfl) ?_ | refine d_fin0f 9 rfl kr0 kr0 (ef_store rfl rfl rfl) ?_
  refine d_sub _ (sc0 0 rfl (sc0 3 rfl .nil)) ?_
  first | refine d_nilt kr0 ?_ | refine d_nilf kr0 ?_
  refine then_n ?_
  refine swp_draw [4, 5] _ [] (by simp only [List.append_nil]; exact Ent.refl _) kr0 ?_
  refine d_pu 0 rfl (pu_move rfl) kr0 kr0 kr0 ?_
  refine d_pu 1 rfl (pu_move rfl) kr0 kr0 kr0 ?_
  first | refine d_pu 2 rfl (pu_nilCheck rfl) kr0 kr0 kr0 ?_ | refine d_pu 2 rfl (pu_nilCheck_fn rfl) kr0 kr0 kr0 ?_ | refine d_pu 2 rfl (pu_nilCheck_if rfl) kr0 kr0 kr0 ?_
  first | refine d_pu 3 rfl (pu_fieldAddr0 rfl) kr0 kr0 kr0 ?_ | refine d_pu 3 rfl (pu_fieldAddr rfl) kr0 kr0 kr0 ?_
  refine d_rd 4 rfl (rd_load rfl rfl) rfl kr0 kr0 kr0 ?_
  first | refine d_rd 5 rfl (rd_loadW rfl rfl) rfl kr0 kr0 kr0 ?_ | refine d_rd 5 rfl (rd_loadX rfl rfl rfl) rfl kr0 kr0 kr0 ?_
  refine d_eft 6 rfl kr0 (ef_bldS (qs := [(0, _)]) rfl rfl rfl) ?_
  intro b19
  refine ⟨_, Split.ent sp0, ?_⟩
  first | refine d_fint 7 rfl kr0 kr0 (ef_append_lit (l := ps.length) (m := 1) (news := rC1 c) rfl rfl sp0 (by simp only [maxLen]; omega) om0) ?_ | refine d_finf 7 rfl kr0 kr0 (ef_append_lit (l := ps.length) (m := 1) (news := rC1 c) rfl rfl sp0 (by simp only [maxLen]; omega) om0) ?_
  rintro w' hw'
  obtain ⟨g7, c7, rfl⟩ := hw' (by decide)
  first | refine d_pu 8 rfl (pu_nilCheck rfl) kr0 kr0 kr0 ?_ | refine d_pu 8 rfl (pu_nilCheck_fn rfl) kr0 kr0 kr0 ?_ | refine d_pu 8 rfl (pu_nilCheck_if rfl) kr0 kr0 kr0 ?_
  first | refine d_pu 9 rfl (pu_fieldAddr0 rfl) kr0 kr0 kr0 ?_ | refine d_pu 9 rfl (pu_fieldAddr rfl) kr0 kr0 kr0 ?_
  first | refine d_fin0t 10 rfl kr0 kr0 (ef_store rfl rfl rfl) ?_ | refine d_fin0f 10 rfl kr0 kr0 (ef_store rfl rfl rfl) ?_
  refine d_sub _ .nil ?_
  first | refine d_nilt kr0 ?_ | refine d_nilf kr0 ?_
  rw [hps, hpl]
  exact done_end [blk p 92 (rdC q fv (.slice A1 (chgN l c).length c1) av (.slice (some ⟨g7, 0, none⟩) (ps.length + 1) c7) fa off), own 138 2 (.slice A1 (chgN l c).length c1) (chgN l c).length ((chgN l c).flatMap rN1), own 99 3 (.slice (some ⟨g7, 0, none⟩) (ps.length + 1) c7) (ps.length + 1) (ps.flatMap rC1 ++ rC1 c)] .nil ⟨_, _, rfl⟩ sp0
end SX
namespace SX
open Go Go.Proofs
def sE (fa : Int) : Int := if fa = 1 then 8 else 0
def sA (fa : Int) : Int := if fa = 1 then 0 else if 0 < fa then fa - 1 else fa
def sO (fa : Int) (off : Bool) : Bool := if fa = 1 then true else off
theorem sE_1 {fa : Int} (h : fa = 1) : sE fa = 8 := if_pos h
theorem sE_n {fa : Int} (h : fa ≠ 1) : sE fa = 0 := if_neg h
theorem sE_t {fa : Int} (h : sE fa ≠ 0) : fa = 1 := by
  unfold sE at h; split at h
  · assumption
  · exact absurd rfl h
theorem sE_f {fa : Int} (h : sE fa = 0) : fa ≠ 1 := fun k => by rw [sE_1 k] at h; cases h
theorem rstep' (p : Nat) (q : Int) (fv sv av wv : Value) (fa : Int) (off : Bool) (h0 : 0 ≤ fa ∧ fa ≤ 9223372036854775807) : Spec Tryz.prog 42 [pv p] [blk p 92 (rdC q fv sv av wv fa off)]
    (fun r L => r = .int .i64 (sE fa) ∧ L = [blk p 92 (rdC q fv sv av wv (sA fa) (sO fa off))]) :=
  (rstep_spec p q fv sv av wv fa off h0).mono fun r L h => by
    unfold sE sA sO
    rcases h with ⟨h, rfl, rfl⟩ | ⟨h, rfl, rfl⟩
    · rw [if_pos h, if_pos h, if_pos h]; exact ⟨rfl, rfl⟩
    · rw [if_neg h, if_neg h, if_neg h]; exact ⟨rfl, rfl⟩
theorem st_1 {fa : Int} {off : Bool} (h : fa = 1) : sA fa = 0 ∧ sO fa off = true := ⟨if_pos h, if_pos h⟩
theorem st_n {fa : Int} {off : Bool} (h : fa ≠ 1) : sA fa = (if 0 < fa then fa - 1 else fa) ∧ sO fa off = off := ⟨if_neg h, if_neg h⟩
theorem isNone_of {l : List Nm} {s : ByteArray} (h : findN l s = none) : (findN l s).isNone = true := by rw [h]; rfl
set_option maxHeartbeats 4000000 in
theorem rcreate_spec (p : Nat) (d : Dk) (hd : d.Ok) (hw : Few d) (s : ByteArray) : Spec Tryz.prog 11 [pv p, .string s] [RDA p d] (fun r L => r = .int .i64 (createD d s).2 ∧ L = [RDA p (createD d s).1]) := by
  refine RDA.open' fun ⟨fv, sv, av, wv⟩ => ?_
  refine Spec.pre (pre := [own 138 2 sv d.seen.length (d.seen.flatMap rN1), blk p 92 (rdC d.quota fv sv av wv d.falls d.off), own 96 2 fv d.files.length (d.files.flatMap rF1), own 138 2 av d.safe.length (d.safe.flatMap rN1), own 99 3 wv d.pend.length (d.pend.flatMap rC1)]) ?_ (Split.ent' sp0)
  refine Spec.fact' (fun m h => own_form h) fun hsv => ?_
  have hsl := hd.seenLe
  have hff := hw.1
  have hpp := hw.2
  refine Spec.of 53 Tryz.func11 rfl rfl rfl ?_
  refine swp_sr ?_
  refine s_as rfl ?_
  refine swl_sub _ (sc0 0 rfl (sc0 1 rfl .nil)) ?_
  refine swl_nn ?_
  refine swp_seq ?_
  refine swp_sr ?_
  refine s_mv rfl ?_
  first | refine s_pu (pu_nilCheck rfl) ?_ | refine s_pu (pu_nilCheck_fn rfl) ?_ | refine s_pu (pu_nilCheck_if rfl) ?_
  first | refine s_pu (pu_fieldAddr0 rfl) ?_ | refine s_pu (pu_fieldAddr rfl) ?_
  refine s_rd (rd_load rfl rfl) ?_
  refine swl_sub _ (sc0 0 rfl (sc0 1 rfl (sc0 9 rfl .nil))) ?_
  refine swl_nn ?_
  refine swp_cond (b := _) rfl (fun h9 => ?_) (fun h9 => ?_)
  · skip   -- 9 T
    refine swp_sr ?_
    refine s_as rfl ?_
    refine swl_sub _ (sc0 4 rfl .nil) ?_
    refine swl_nn ?_
    refine swp_ret ?_
    refine then_r ?_
    have key : createD d s = (d, 8) := by unfold createD; rw [if_pos h9]
    rw [key]
    exact done_retE [RDA p d] (.tmp rfl .nil) ⟨rfl, rfl⟩ ((Split.ent' (K := [blk p 92 (rdC d.quota fv sv av wv d.falls d.off), own 96 2 fv d.files.length (d.files.flatMap rF1), own 138 2 sv d.seen.length (d.seen.flatMap rN1), own 138 2 av d.safe.length (d.safe.flatMap rN1), own 99 3 wv d.pend.length (d.pend.flatMap rC1)]) sp0).trans (rd_close (x := ⟨fv, sv, av, wv⟩)))
  · skip   -- 9 F
    refine swp_skip ?_
    refine then_n ?_
    refine swp_seq ?_
    refine swp_sr ?_
    refine s_mv rfl ?_
    refine s_ef (ef_fn (rgood_spec s) rfl rfl sp0) ?_
    rintro v11 L1 ⟨rfl, rfl⟩
    refine swl_app ?_
    refine s_pu (pu_not rfl) ?_
    refine swl_sub _ (sc0 0 rfl (sc0 1 rfl (sc0 12 rfl .nil))) ?_
    refine swl_nn ?_
    refine swp_cond (b := _) rfl (fun h12 => ?_) (fun h12 => ?_)
    · skip   -- 12 T
      refine swp_sr ?_
      refine s_as rfl ?_
      refine swl_sub _ (sc0 4 rfl .nil) ?_
      refine swl_nn ?_
      refine swp_ret ?_
      refine then_r ?_
      have key : createD d s = (d, 1) := by unfold createD; rw [if_neg (by rw [h9]; decide), if_pos (by simpa using h12)]
      rw [key]
      exact done_retE [RDA p d] (.tmp rfl .nil) ⟨rfl, rfl⟩ ((Split.ent' (K := [blk p 92 (rdC d.quota fv sv av wv d.falls d.off), own 96 2 fv d.files.length (d.files.flatMap rF1), own 138 2 sv d.seen.length (d.seen.flatMap rN1), own 138 2 av d.safe.length (d.safe.flatMap rN1), own 99 3 wv d.pend.length (d.pend.flatMap rC1)]) sp0).trans (rd_close (x := ⟨fv, sv, av, wv⟩)))
    · skip   -- 12 F
      have h12' : goodN s = true := by simpa using h12
      refine swp_skip ?_
      refine then_n ?_
      refine swp_cut (fun env L => Sub env [(0, pv p), (1, .string s)] ∧ Ent L [blk p 92 (rdC d.quota fv sv av wv d.falls d.off), own 96 2 fv d.files.length (d.files.flatMap rF1), own 138 2 sv d.seen.length (d.seen.flatMap rN1), own 138 2 av d.safe.length (d.safe.flatMap rN1), own 99 3 wv d.pend.length (d.pend.flatMap rC1)] ∧ ¬ ((findN d.seen s).isNone = true ∧ 64 ≤ d.seen.length)) ?_ ?_
      · skip
        refine swp_sr ?_
        refine s_mv rfl ?_
        first | refine s_pu (pu_nilCheck rfl) ?_ | refine s_pu (pu_nilCheck_fn rfl) ?_ | refine s_pu (pu_nilCheck_if rfl) ?_
        first | refine s_pu (pu_fieldAddr0 rfl) ?_ | refine s_pu (pu_fieldAddr rfl) ?_
        refine s_rd (rd_load rfl rfl) ?_
        refine s_mv rfl ?_
        refine s_ef (ef_fn (rfind_spec sv d.seen s om0) rfl rfl sp0) ?_
        rintro v18 L1 ⟨⟨i, rfl, hi⟩, rfl⟩
        refine swl_app ?_
        refine s_pu (pu_lss rfl rfl) ?_
        refine s_mv rfl ?_
        refine s_split 20 rfl (fun h20 => ?_) (fun h20 => ?_)
        · skip   -- 20 T
          refine s_on rfl rfl ?_
          refine s_mv rfl ?_
          refine s_on rfl rfl ?_
          first | refine s_pu (pu_nilCheck rfl) ?_ | refine s_pu (pu_nilCheck_fn rfl) ?_ | refine s_pu (pu_nilCheck_if rfl) ?_
          refine s_on rfl rfl ?_
          first | refine s_pu (pu_fieldAddr0 rfl) ?_ | refine s_pu (pu_fieldAddr rfl) ?_
          refine s_on rfl rfl ?_
          refine s_rd (rd_load rfl rfl) ?_
          refine s_on rfl rfl ?_
          refine s_pu (pu_len_own hsv rfl) ?_
          refine s_on rfl rfl ?_
          refine s_pu (pu_geq rfl rfl) ?_
          first | refine s_pu (pu_pick_t rfl rfl) ?_ | refine s_pu (pu_pick_f rfl rfl) ?_
          refine swl_sub _ (sc0 0 rfl (sc0 1 rfl (sc0 27 rfl .nil))) ?_
          refine swl_nn ?_
          refine swp_cond (b := _) rfl (fun h27 => ?_) (fun h27 => ?_)
          · skip   -- 27 T
            refine swp_sr ?_
            refine s_as rfl ?_
            refine swl_sub _ (sc0 4 rfl .nil) ?_
            refine swl_nn ?_
            refine swp_ret ?_
            refine then_r ?_
            have h20' := of_decide_eq_true h20
            have h27' := of_decide_eq_true h27
            have hf : findN d.seen s = none := by
              rcases hi with ⟨_, h⟩ | ⟨k, y, h, _⟩
              · exact h
              · omega
            have key : createD d s = (d, 7) := by unfold createD; rw [if_neg (by rw [h9]; decide), if_neg (by rw [h12']; decide), if_pos ⟨isNone_of hf, by omega⟩]
            rw [key]
            exact done_retE [RDA p d] (.tmp rfl .nil) ⟨rfl, rfl⟩ ((Split.ent' (K := [blk p 92 (rdC d.quota fv sv av wv d.falls d.off), own 96 2 fv d.files.length (d.files.flatMap rF1), own 138 2 sv d.seen.length (d.seen.flatMap rN1), own 138 2 av d.safe.length (d.safe.flatMap rN1), own 99 3 wv d.pend.length (d.pend.flatMap rC1)]) sp0).trans (rd_close (x := ⟨fv, sv, av, wv⟩)))
          · skip   -- 27 F
            refine swp_skip ?_
            refine then_n ⟨⟨rfl, rfl, trivial⟩, Split.ent' sp0, ?_⟩
            rintro ⟨k1, k2⟩
            first
              | (have h27' := of_decide_eq_false h27; omega)
              | (have h20' := of_decide_eq_false h20
                 rcases hi with ⟨h, _⟩ | ⟨k, y, _, _, h⟩
                 · omega
                 · rw [h] at k1; cases k1)
        · skip   -- 20 F
          refine s_off rfl rfl rfl ?_
          refine s_off rfl rfl rfl ?_
          refine s_off rfl rfl rfl ?_
          refine s_off rfl rfl rfl ?_
          refine s_off rfl rfl rfl ?_
          refine s_off rfl rfl rfl ?_
          first | refine s_pu (pu_pick_t rfl rfl) ?_ | refine s_pu (pu_pick_f rfl rfl) ?_
          refine swl_sub _ (sc0 0 rfl (sc0 1 rfl (sc0 27 rfl .nil))) ?_
          refine swl_nn ?_
          refine swp_cond (b := _) rfl (fun h27 => by cases h27) (fun h27 => ?_)
          refine swp_skip ?_
          refine then_n ⟨⟨rfl, rfl, trivial⟩, Split.ent' sp0, ?_⟩
          rintro ⟨k1, k2⟩
          first
            | (have h27' := of_decide_eq_false h27; omega)
            | (have h20' := of_decide_eq_false h20
               rcases hi with ⟨h, _⟩ | ⟨k, y, _, _, h⟩
               · omega
               · rw [h] at k1; cases k1)
      rintro env L ⟨hsub, hE, h1⟩
      refine swp_sub _ hsub ?_
      refine swp_ent hE ?_
      clear hsub hE env L
      refine swp_sr ?_
      refine s_mv rfl ?_
      refine s_ef (ef_fn (rstep' p d.quota fv sv av wv d.falls d.off hd.falls) rfl rfl sp0) ?_
      rintro v29 L1 ⟨rfl, rfl⟩
      refine swl_app ?_
      refine s_as rfl ?_
      refine swl_sub _ (sc0 0 rfl (sc0 1 rfl (sc0 5 rfl .nil))) ?_
      refine swl_nn ?_
      refine swp_seq ?_
      refine swp_sr ?_
      refine s_mv rfl ?_
      refine s_pu (pu_neq rfl rfl) ?_
      refine swl_sub _ (sc0 0 rfl (sc0 1 rfl (sc0 5 rfl (sc0 31 rfl .nil)))) ?_
      refine swl_nn ?_
      refine swp_cond (b := _) rfl (fun h31 => ?_) (fun h31 => ?_)
      · skip   -- 31 T
        refine swp_sr ?_
        refine s_mv rfl ?_
        refine s_as rfl ?_
        refine swl_sub _ (sc0 4 rfl .nil) ?_
        refine swl_nn ?_
        refine swp_ret ?_
        refine then_r ?_
        have hf1 : d.falls = 1 := sE_t (by simpa using h31)
        have key : createD d s = (fa0 d, 8) := by unfold createD; rw [if_neg (by rw [h9]; decide), if_neg (by rw [h12']; decide), if_neg h1]; exact atStep_1 hf1 _
        rw [key, sE_1 hf1, (st_1 (off := d.off) hf1).1, (st_1 hf1).2]
        exact done_retE [RDA p (fa0 d)] (.tmp rfl .nil) ⟨rfl, rfl⟩ ((Split.ent' (K := [blk p 92 (rdC d.quota fv sv av wv 0 true), own 96 2 fv d.files.length (d.files.flatMap rF1), own 138 2 sv d.seen.length (d.seen.flatMap rN1), own 138 2 av d.safe.length (d.safe.flatMap rN1), own 99 3 wv d.pend.length (d.pend.flatMap rC1)]) sp0).trans (rd_close (d := fa0 d) (x := ⟨fv, sv, av, wv⟩)))
      · skip   -- 31 F
        have hfn : d.falls ≠ 1 := sE_f (by simpa using h31)
        rw [(st_n (off := d.off) hfn).1, (st_n hfn).2]
        have key : createD d s = ((newF (fa1 d)).chg ⟨nos, s, d.files.length⟩, 0) := by unfold createD; rw [if_neg (by rw [h9]; decide), if_neg (by rw [h12']; decide), if_neg h1]; exact atStep_n hfn _
        refine swp_skip ?_
        refine then_n ?_
        refine swp_sr ?_
        refine s_mv rfl ?_
        refine s_mv rfl ?_
        first | refine s_pu (pu_nilCheck rfl) ?_ | refine s_pu (pu_nilCheck_fn rfl) ?_ | refine s_pu (pu_nilCheck_if rfl) ?_
        first | refine s_pu (pu_fieldAddr0 rfl) ?_ | refine s_pu (pu_fieldAddr rfl) ?_
        refine s_rd (rd_load rfl rfl) ?_
        refine s_pu (pu_bld (qs := []) rfl) ?_
        refine s_ef (ef_bldS (qs := [(0, _)]) rfl rfl rfl) ?_
        intro b39
        refine s_ef (ef_append_lit (l := d.files.length) (m := 1) (news := [.string ⟨#[]⟩, .int .i64 0]) rfl rfl sp0 (by simp only [maxLen]; omega) om0) ?_
        rintro fv' hfv'
        obtain ⟨g7, c7, rfl⟩ := hfv' (by decide)
        first | refine s_pu (pu_nilCheck rfl) ?_ | refine s_pu (pu_nilCheck_fn rfl) ?_ | refine s_pu (pu_nilCheck_if rfl) ?_
        first | refine s_pu (pu_fieldAddr0 rfl) ?_ | refine s_pu (pu_fieldAddr rfl) ?_
        refine s_ef0 (ef_store rfl rfl rfl) ?_
        refine swl_sub _ (sc0 0 rfl (sc0 1 rfl .nil)) ?_
        refine swl_nn ?_
        refine swp_sr ?_
        refine s_mv rfl ?_
        refine s_mv rfl ?_
        refine s_mv rfl ?_
        first | refine s_pu (pu_nilCheck rfl) ?_ | refine s_pu (pu_nilCheck_fn rfl) ?_ | refine s_pu (pu_nilCheck_if rfl) ?_
        first | refine s_pu (pu_fieldAddr0 rfl) ?_ | refine s_pu (pu_fieldAddr rfl) ?_
        refine s_rd (rd_load rfl rfl) ?_
        refine s_pu (pu_len rfl) ?_
        refine s_pu (pu_sub_as ((d.files.length : Nat) : Int) rfl rfl om0 om0 om0) ?_
        refine s_pu (pu_bld (qs := [(1, _), (2, _)]) rfl) ?_
        refine s_ef (ef_fn (rchange_spec p d.quota (.slice (some ⟨g7, 0, none⟩) (d.files.length + 1) c7) sv av wv (if 0 < d.falls then d.falls - 1 else d.falls) d.off d.seen d.pend om0 om0 ⟨nos, s, d.files.length⟩) rfl rfl sp0) ?_
        rintro v52 L1 ⟨sv', wv', rfl⟩
        refine swl_app ?_
        refine swl_sub _ .nil ?_
        refine swl_nn ?_
        refine swp_sr ?_
        refine s_as rfl ?_
        refine swl_sub _ (sc0 4 rfl .nil) ?_
        refine swl_nn ?_
        refine swp_ret ?_
        rw [key]
        refine done_retE [RDA p ((newF (fa1 d)).chg ⟨nos, s, d.files.length⟩)] (.tmp rfl .nil) ⟨rfl, rfl⟩ ?_
        have e1 : (d.files ++ [(⟨[], 0⟩ : Fl)]).length = d.files.length + 1 := by rw [List.length_append]; rfl
        have e2 : (d.files ++ [(⟨[], 0⟩ : Fl)]).flatMap rF1 = d.files.flatMap rF1 ++ [.string ⟨#[]⟩, .int .i64 0] := by rw [List.flatMap_append]; rfl
        refine Ent.trans (Split.ent' (K := [blk p 92 (rdC d.quota (.slice (some ⟨g7, 0, none⟩) (d.files.length + 1) c7) sv' av wv' (if 0 < d.falls then d.falls - 1 else d.falls) d.off), own 96 2 (.slice (some ⟨g7, 0, none⟩) (d.files.length + 1) c7) (d.files.length + 1) (d.files.flatMap rF1 ++ [.string ⟨#[]⟩, .int .i64 0]), own 138 2 sv' (chgN d.seen ⟨nos, s, d.files.length⟩).length ((chgN d.seen ⟨nos, s, d.files.length⟩).flatMap rN1), own 138 2 av d.safe.length (d.safe.flatMap rN1), own 99 3 wv' (d.pend ++ [(⟨nos, s, d.files.length⟩ : Cg)]).length ((d.pend ++ [(⟨nos, s, d.files.length⟩ : Cg)]).flatMap rC1)]) sp0) ?_
        rw [← e2, ← e1]
        exact rd_close (d := (newF (fa1 d)).chg ⟨nos, s, d.files.length⟩) (x := ⟨.slice (some ⟨g7, 0, none⟩) (d.files ++ [(⟨[], 0⟩ : Fl)]).length c7, sv', av, wv'⟩)
end SX
namespace SX
open Go Go.Proofs
theorem FileR.err {d : Dk} {s : ByteArray} {k e : Int} (h : FileR d s k e) (he : e ≠ 0) : readD d s = ([], e) ∧ ∀ f, onFile d s f = (d, e) := by
  rcases h with ⟨_, h1, h2⟩ | ⟨h, _⟩
  · exact ⟨h1, h2⟩
  · exact absurd h he
theorem FileR.ok {d : Dk} {s : ByteArray} {k e : Int} (h : FileR d s k e) (he : e = 0) : ∃ j : Nat, k = (j : Int) ∧ findN d.seen s = some j ∧ readD d s = ((d.fl j).bytes, 0) ∧ ∀ f, onFile d s f = f j := by
  rcases h with ⟨h, _⟩ | ⟨_, h⟩
  · exact absurd he h
  · exact h
set_option maxHeartbeats 4000000 in
theorem rsync_spec (p : Nat) (d : Dk) (hd : d.Ok) (hw : Few d) (s : ByteArray) : Spec Tryz.prog 107 [pv p, .string s] [RDA p d] (fun r L => r = .int .i64 (syncD d s).2 ∧ L = [RDA p (syncD d s).1]) := by
  refine RDA.open' fun ⟨fv, sv, av, wv⟩ => ?_
  have hff := hw.1
  refine Spec.of 37 Tryz.func107 rfl rfl rfl ?_
  refine swp_sr ?_
  refine s_as rfl ?_
  refine swl_sub _ (sc0 0 rfl (sc0 1 rfl .nil)) ?_
  refine swl_nn ?_
  refine swp_sr ?_
  refine s_mv rfl ?_
  refine s_mv rfl ?_
  refine s_ef (ef_fn (rfile_spec p d hd ⟨fv, sv, av, wv⟩ s) rfl rfl sp0) ?_
  rintro v10 L1 ⟨⟨k, e, rfl, hR⟩, rfl⟩
  refine swl_app ?_
  refine s_mv rfl ?_
  first | refine s_pu (pu_extractL rfl) ?_ | refine s_pu (pu_extract rfl rfl) ?_
  first | refine s_pu (pu_extractL rfl) ?_ | refine s_pu (pu_extract rfl rfl) ?_
  refine s_as rfl ?_
  refine s_as rfl ?_
  refine swl_sub _ (sc0 0 rfl (sc0 5 rfl (sc0 6 rfl .nil))) ?_
  refine swl_nn ?_
  refine swp_seq ?_
  refine swp_sr ?_
  refine s_mv rfl ?_
  refine s_pu (pu_neq rfl rfl) ?_
  refine swl_sub _ (sc0 0 rfl (sc0 5 rfl (sc0 6 rfl (sc0 14 rfl .nil)))) ?_
  refine swl_nn ?_
  refine swp_cond (b := _) rfl (fun h14 => ?_) (fun h14 => ?_)
  · skip   -- 14 T
    refine swp_sr ?_
    refine s_mv rfl ?_
    refine s_as rfl ?_
    refine swl_sub _ (sc0 4 rfl .nil) ?_
    refine swl_nn ?_
    refine swp_ret ?_
    refine then_r ?_
    unfold syncD
    rw [(hR.err (by simpa using h14)).2]
    exact done_retE [RDA p d] (.tmp rfl .nil) ⟨rfl, rfl⟩ ((Split.ent' (K := [blk p 92 (rdC d.quota fv sv av wv d.falls d.off), own 96 2 fv d.files.length (d.files.flatMap rF1), own 138 2 sv d.seen.length (d.seen.flatMap rN1), own 138 2 av d.safe.length (d.safe.flatMap rN1), own 99 3 wv d.pend.length (d.pend.flatMap rC1)]) sp0).trans (rd_close (x := ⟨fv, sv, av, wv⟩)))
  · skip   -- 14 F
    obtain ⟨j, rfl, hf, _, hon⟩ := hR.ok (by simpa using h14)
    have hj := file_lt hd hf
    refine swp_ent (Split.ent' (K := [own 96 2 fv d.files.length (d.files.flatMap rF1), blk p 92 (rdC d.quota fv sv av wv d.falls d.off), own 138 2 sv d.seen.length (d.seen.flatMap rN1), own 138 2 av d.safe.length (d.safe.flatMap rN1), own 99 3 wv d.pend.length (d.pend.flatMap rC1)]) sp0) ?_
    refine swp_fact (fun m h => own_pos h om0) fun ⟨b, c, hfv, hlc, hcm⟩ => ?_
    have hcell := flat_at (f := rF1) (n := 2) (fun _ => rfl) (fl_at hj) 0 _ rfl
    have hst := set_safe (fl_at hj)
    have hfl : (d.files.flatMap rF1).length = d.files.length * 2 := flat_length (f := rF1) (k := 2) (fun _ => rfl) _
    refine swp_skip ?_
    refine then_n ?_
    refine swp_sr ?_
    refine s_mv rfl ?_
    refine s_ef (ef_fn (rstep' p d.quota fv sv av wv d.falls d.off hd.falls) rfl rfl sp0) ?_
    rintro v17 L1 ⟨rfl, rfl⟩
    refine swl_app ?_
    refine s_as rfl ?_
    refine swl_sub _ (sc0 0 rfl (sc0 5 rfl (sc0 6 rfl .nil))) ?_
    refine swl_nn ?_
    refine swp_seq ?_
    refine swp_sr ?_
    refine s_mv rfl ?_
    refine s_pu (pu_eql rfl rfl) ?_
    refine swl_sub _ (sc0 0 rfl (sc0 5 rfl (sc0 6 rfl (sc0 19 rfl .nil)))) ?_
    refine swl_nn ?_
    refine swp_cond (b := _) rfl (fun h19 => ?_) (fun h19 => ?_)
    · skip   -- 19 T
      have hfn : d.falls ≠ 1 := sE_f (of_decide_eq_true h19)
      rw [(st_n (off := d.off) hfn).1, (st_n hfn).2]
      have key : syncD d s = ((fa1 d).setF j ⟨(d.fl j).bytes, (d.fl j).bytes.length⟩, 0) := by unfold syncD; rw [hon]; exact atStep_n hfn _
      subst hfv
      refine swp_draw [3, 8, 12] _ [] (by simp only [List.append_nil]; exact Ent.refl _) kr0 ?_
      refine d_pu 0 rfl (pu_move rfl) kr0 kr0 kr0 ?_
      first | refine d_pu 1 rfl (pu_nilCheck rfl) kr0 kr0 kr0 ?_ | refine d_pu 1 rfl (pu_nilCheck_fn rfl) kr0 kr0 kr0 ?_ | refine d_pu 1 rfl (pu_nilCheck_if rfl) kr0 kr0 kr0 ?_
      first | refine d_pu 2 rfl (pu_fieldAddr0 rfl) kr0 kr0 kr0 ?_ | refine d_pu 2 rfl (pu_fieldAddr rfl) kr0 kr0 kr0 ?_
      refine d_rd 3 rfl (rd_load rfl rfl) rfl kr0 kr0 kr0 ?_
      refine d_pu 4 rfl (pu_move rfl) kr0 kr0 kr0 ?_
      refine d_pu 5 rfl (pu_move rfl) kr0 kr0 kr0 ?_
      first | refine d_pu 6 rfl (pu_nilCheck rfl) kr0 kr0 kr0 ?_ | refine d_pu 6 rfl (pu_nilCheck_fn rfl) kr0 kr0 kr0 ?_ | refine d_pu 6 rfl (pu_nilCheck_if rfl) kr0 kr0 kr0 ?_
      first | refine d_pu 7 rfl (pu_fieldAddr0 rfl) kr0 kr0 kr0 ?_ | refine d_pu 7 rfl (pu_fieldAddr rfl) kr0 kr0 kr0 ?_
      refine d_rd 8 rfl (rd_load rfl rfl) rfl kr0 kr0 kr0 ?_
      refine d_pu 9 rfl (pu_move rfl) kr0 kr0 kr0 ?_
      refine d_pu 10 rfl (pu_indexAddr (0 + j * 2) rfl rfl om0 om0 (by rw [Int.toNat_natCast])) kr0 kr0 kr0 ?_
      first | refine d_pu 11 rfl (pu_fieldAddr0 rfl) kr0 kr0 kr0 ?_ | refine d_pu 11 rfl (pu_fieldAddr rfl) kr0 kr0 kr0 ?_
      refine d_rd 12 rfl (rd_own rfl tk0 (by rw [Nat.zero_add]; exact hcell)) rfl kr0 kr0 kr0 ?_
      refine d_pu 13 rfl (pu_strlen rfl) kr0 kr0 kr0 ?_
      refine d_pu 14 rfl (pu_indexAddr (0 + j * 2) rfl rfl om0 om0 (by rw [Int.toNat_natCast])) kr0 kr0 kr0 ?_
      first | refine d_pu 15 rfl (pu_fieldAddr0 rfl) kr0 kr0 kr0 ?_ | refine d_pu 15 rfl (pu_fieldAddr rfl) kr0 kr0 kr0 ?_
      first | refine d_fin0t 16 rfl kr0 kr0 (ef_store_own rfl rfl sp0 (by rw [hfl]; omega) rfl) ?_ | refine d_fin0f 16 rfl kr0 kr0 (ef_store_own rfl rfl sp0 (by rw [hfl]; omega) rfl) ?_
      refine d_sub _ (sc0 6 rfl .nil) ?_
      first | refine d_nilt kr0 ?_ | refine d_nilf kr0 ?_
      refine then_n ?_
      refine swp_sr ?_
      refine s_mv rfl ?_
      refine s_as rfl ?_
      refine swl_sub _ (sc0 4 rfl .nil) ?_
      refine swl_nn ?_
      refine swp_ret ?_
      have hE : sE d.falls = 0 := sE_n hfn
      rw [key, hE]
      refine done_retE [RDA p ((fa1 d).setF j ⟨(d.fl j).bytes, (d.fl j).bytes.length⟩)] (.tmp rfl .nil) ⟨rfl, rfl⟩ ?_
      rw [tsize, hst]
      have e1 : (d.files.set j ⟨(d.fl j).bytes, (d.fl j).bytes.length⟩).length = d.files.length := List.length_set
      refine Ent.trans (Split.ent' (K := [blk p 92 (rdC d.quota (.slice (some ⟨b, 0, none⟩) d.files.length c) sv av wv (if 0 < d.falls then d.falls - 1 else d.falls) d.off), own 96 2 (.slice (some ⟨b, 0, none⟩) d.files.length c) d.files.length ((d.files.set j ⟨(d.fl j).bytes, (d.fl j).bytes.length⟩).flatMap rF1), own 138 2 sv d.seen.length (d.seen.flatMap rN1), own 138 2 av d.safe.length (d.safe.flatMap rN1), own 99 3 wv d.pend.length (d.pend.flatMap rC1)]) sp0) ?_
      have := rd_close (p := p) (L := []) (d := (fa1 d).setF j ⟨(d.fl j).bytes, (d.fl j).bytes.length⟩) (x := ⟨.slice (some ⟨b, 0, none⟩) d.files.length c, sv, av, wv⟩)
      rw [show ((fa1 d).setF j ⟨(d.fl j).bytes, (d.fl j).bytes.length⟩).files = d.files.set j ⟨(d.fl j).bytes, (d.fl j).bytes.length⟩ from rfl, e1] at this
      exact this
    · skip   -- 19 F
      refine swp_skip ?_
      refine then_n ?_
      refine swp_sr ?_
      refine s_mv rfl ?_
      refine s_as rfl ?_
      refine swl_sub _ (sc0 4 rfl .nil) ?_
      refine swl_nn ?_
      refine swp_ret ?_
      have hf1 : d.falls = 1 := sE_t (of_decide_eq_false h19)
      have key : syncD d s = (fa0 d, 8) := by unfold syncD; rw [hon]; exact atStep_1 hf1 _
      rw [key, sE_1 hf1, (st_1 (off := d.off) hf1).1, (st_1 hf1).2]
      exact done_retE [RDA p (fa0 d)] (.tmp rfl .nil) ⟨rfl, rfl⟩ ((Split.ent' (K := [blk p 92 (rdC d.quota fv sv av wv 0 true), own 96 2 fv d.files.length (d.files.flatMap rF1), own 138 2 sv d.seen.length (d.seen.flatMap rN1), own 138 2 av d.safe.length (d.safe.flatMap rN1), own 99 3 wv d.pend.length (d.pend.flatMap rC1)]) sp0).trans (rd_close (d := fa0 d) (x := ⟨fv, sv, av, wv⟩)))
end SX
namespace SX
open Go Go.Proofs
theorem sum_take_succ {l : List Nm} {f : Nm → Nat} {i : Nat} {y : Nm} (h : l[i]? = some y) : ((l.take (i + 1)).map f).sum = ((l.take i).map f).sum + f y := by
  rw [List.take_add_one, h, List.map_append, List.sum_append]; simp
set_option maxHeartbeats 4000000 in
theorem rused_spec (p : Nat) (d : Dk) (hd : d.Ok) (hw : Few d) (fv sv av wv : Value) : Spec Tryz.prog 73 [pv p] [blk p 92 (rdC d.quota fv sv av wv d.falls d.off), own 96 2 fv d.files.length (d.files.flatMap rF1), own 138 2 sv d.seen.length (d.seen.flatMap rN1)] (fun r L => r = .int .i64 (d.used : Nat) ∧ L = [blk p 92 (rdC d.quota fv sv av wv d.falls d.off), own 96 2 fv d.files.length (d.files.flatMap rF1), own 138 2 sv d.seen.length (d.seen.flatMap rN1)]) := by
  have hsl := hd.seenLe
  have hff := hw.1
  refine Spec.pre (pre := [own 138 2 sv d.seen.length (d.seen.flatMap rN1), blk p 92 (rdC d.quota fv sv av wv d.falls d.off), own 96 2 fv d.files.length (d.files.flatMap rF1)]) ?_ (Split.ent' sp0)
  refine Spec.fact' (fun m h => own_cap2 h) fun ⟨A, c, hv, hlc, hcm, hA, hA2⟩ => ?_
  simp only [maxLen] at hcm
  subst hv
  refine Spec.of 33 Tryz.func73 rfl rfl rfl ?_
  refine swp_sr ?_
  refine s_as rfl ?_
  refine swl_sub _ (sc0 0 rfl .nil) ?_
  refine swl_nn ?_
  refine swp_sr ?_
  refine s_as rfl ?_
  refine swl_sub _ (sc0 0 rfl (sc0 3 rfl .nil)) ?_
  refine swl_nn ?_
  refine swp_seq ?_
  refine swp_sr ?_
  refine s_as rfl ?_
  refine swl_sub _ (sc0 0 rfl (sc0 3 rfl (sc0 4 rfl .nil))) ?_
  refine swl_nn ?_
  refine swp_block ?_
  refine swp_loop (ι := Nat) (fun i env L => Sub env [(0, pv p), (3, .int .i64 (((d.seen.take i).map fun y => (d.fl y.2).bytes.length).sum : Nat)), (4, .int .i64 (i : Nat))] ∧ Ent L [own 96 2 fv d.files.length (d.files.flatMap rF1), blk p 92 (rdC d.quota fv (.slice A d.seen.length c) av wv d.falls d.off), own 138 2 (.slice A d.seen.length c) d.seen.length (d.seen.flatMap rN1)] ∧ i ≤ d.seen.length) (fun i => d.seen.length - i) 0 ⟨⟨rfl, rfl, rfl, trivial⟩, Split.ent' sp0, Nat.zero_le _⟩ ?_
  rintro i env L ⟨hsub, hE, hi⟩
  refine swp_sub _ hsub ?_
  refine swp_ent hE ?_
  clear hsub hE env L
  refine swp_seq ?_
  refine swp_sr ?_
  refine s_mv rfl ?_
  refine s_mv rfl ?_
  first | refine s_pu (pu_nilCheck rfl) ?_ | refine s_pu (pu_nilCheck_fn rfl) ?_ | refine s_pu (pu_nilCheck_if rfl) ?_
  first | refine s_pu (pu_fieldAddr0 rfl) ?_ | refine s_pu (pu_fieldAddr rfl) ?_
  refine s_rd (rd_load rfl rfl) ?_
  refine s_pu (pu_len rfl) ?_
  refine s_pu (pu_lss rfl rfl) ?_
  refine swl_sub _ (sc0 0 rfl (sc0 3 rfl (sc0 4 rfl (sc0 11 rfl .nil)))) ?_
  refine swl_nn ?_
  refine swp_cond (b := _) rfl (fun h11 => ?_) (fun h11 => ?_)
  · skip   -- 11 T
    have h11' : i < d.seen.length := by have := of_decide_eq_true h11; omega
    obtain ⟨a, ha⟩ : ∃ a, A = some a := by cases A with | none => have := hA rfl; omega | some a => exact ⟨a, rfl⟩
    obtain ⟨b, rfl⟩ := hA2 a ha
    subst ha
    obtain ⟨y, hy⟩ : ∃ y, d.seen[i]? = some y := ⟨_, List.getElem?_eq_getElem h11'⟩
    have hcell := flat_at (f := rN1) (n := 2) (fun _ => rfl) hy 1 _ rfl
    have hj : y.2 < d.files.length := (hd.seenOk.good y (List.mem_of_getElem? hy)).2
    have hcell2 := flat_at (f := rF1) (n := 2) (fun _ => rfl) (fl_at hj) 0 _ rfl
    have hsum := sum_take_succ (f := fun y : Nm => (d.fl y.2).bytes.length) hy
    have hul : ((d.seen.take (i + 1)).map fun y : Nm => (d.fl y.2).bytes.length).sum ≤ 64 * mostF := by
      have h1 := sum_le (fun y : Nm => (d.fl y.2).bytes.length) mostF (d.seen.take (i + 1)) fun y _ => (Dk.fl_ok hd y.2).1
      have h2 : (d.seen.take (i + 1)).length ≤ 64 := by rw [List.length_take]; omega
      exact Nat.le_trans h1 (Nat.mul_le_mul_right _ h2)
    simp only [mostF] at hul
    refine swp_fact (fun m h => own_pos h om0) fun ⟨b2, c2, hfv, hlc2, hcm2⟩ => ?_
    subst hfv
    refine swp_skip ?_
    refine then_n ?_
    refine swp_seq ?_
    refine swp_block ?_
    refine swp_draw [4, 8, 12, 15] _ [] (by simp only [List.append_nil]; exact Ent.refl _) kr0 ?_
    refine d_pu 0 rfl (pu_move rfl) kr0 kr0 kr0 ?_
    refine d_pu 1 rfl (pu_move rfl) kr0 kr0 kr0 ?_
    first | refine d_pu 2 rfl (pu_nilCheck rfl) kr0 kr0 kr0 ?_ | refine d_pu 2 rfl (pu_nilCheck_fn rfl) kr0 kr0 kr0 ?_ | refine d_pu 2 rfl (pu_nilCheck_if rfl) kr0 kr0 kr0 ?_
    first | refine d_pu 3 rfl (pu_fieldAddr0 rfl) kr0 kr0 kr0 ?_ | refine d_pu 3 rfl (pu_fieldAddr rfl) kr0 kr0 kr0 ?_
    refine d_rd 4 rfl (rd_load rfl rfl) rfl kr0 kr0 kr0 ?_
    refine d_pu 5 rfl (pu_move rfl) kr0 kr0 kr0 ?_
    first | refine d_pu 6 rfl (pu_nilCheck rfl) kr0 kr0 kr0 ?_ | refine d_pu 6 rfl (pu_nilCheck_fn rfl) kr0 kr0 kr0 ?_ | refine d_pu 6 rfl (pu_nilCheck_if rfl) kr0 kr0 kr0 ?_
    first | refine d_pu 7 rfl (pu_fieldAddr0 rfl) kr0 kr0 kr0 ?_ | refine d_pu 7 rfl (pu_fieldAddr rfl) kr0 kr0 kr0 ?_
    refine d_rd 8 rfl (rd_load rfl rfl) rfl kr0 kr0 kr0 ?_
    refine d_pu 9 rfl (pu_move rfl) kr0 kr0 kr0 ?_
    refine d_pu 10 rfl (pu_indexAddr (0 + i * 2) rfl rfl om0 om0 (by rw [Int.toNat_natCast])) kr0 kr0 kr0 ?_
    first | refine d_pu 11 rfl (pu_fieldAddr0 rfl) kr0 kr0 kr0 ?_ | refine d_pu 11 rfl (pu_fieldAddr rfl) kr0 kr0 kr0 ?_
    refine d_rd 12 rfl (rd_own rfl tk0 (by rw [Nat.zero_add]; exact hcell)) rfl kr0 kr0 kr0 ?_
    refine d_pu 13 rfl (pu_indexAddr (0 + y.2 * 2) rfl rfl om0 om0 (by rw [Int.toNat_natCast])) kr0 kr0 kr0 ?_
    first | refine d_pu 14 rfl (pu_fieldAddr0 rfl) kr0 kr0 kr0 ?_ | refine d_pu 14 rfl (pu_fieldAddr rfl) kr0 kr0 kr0 ?_
    refine d_rd 15 rfl (rd_own rfl tk0 (by rw [Nat.zero_add]; exact hcell2)) rfl kr0 kr0 kr0 ?_
    refine d_pu 16 rfl (pu_strlen rfl) kr0 kr0 kr0 ?_
    refine d_pu 17 rfl (pu_add_as ((((d.seen.take (i + 1)).map fun y => (d.fl y.2).bytes.length).sum : Nat) : Int) rfl rfl (by rw [hsum, tsize]; omega) om0 om0) kr0 kr0 kr0 ?_
    refine d_pu 18 rfl (pu_assign rfl) kr0 kr0 kr0 ?_
    refine d_sub _ (sc0 0 rfl (sc0 3 rfl (sc0 4 rfl .nil))) ?_
    first | refine d_nilt kr0 ?_ | refine d_nilf kr0 ?_
    refine block_n ?_
    refine then_n ?_
    refine swp_region ?_
    refine s_mv rfl ?_
    refine s_pu (pu_add_as ((i + 1 : Nat) : Int) rfl rfl om0 om0 om0) ?_
    refine s_as rfl ?_
    refine swl_sub _ (sc0 0 rfl (sc0 3 rfl (sc0 4 rfl .nil))) ?_
    refine swl_nil ?_
    exact then_n ⟨i + 1, ⟨⟨rfl, rfl, rfl, trivial⟩, Split.ent' sp0, h11'⟩, by omega⟩
  · skip   -- 11 F
    have h11' : i = d.seen.length := by have := of_decide_eq_false h11; omega
    rw [h11', List.take_length]
    refine swp_exit ?_
    refine then_x ?_
    refine then_x ?_
    refine block_hit rfl ?_
    refine then_n ?_
    refine swp_sr ?_
    refine s_mv rfl ?_
    refine s_as rfl ?_
    refine swl_sub _ (sc0 2 rfl .nil) ?_
    refine swl_nn ?_
    refine swp_ret ?_
    exact done_ret [blk p 92 (rdC d.quota fv (.slice A d.seen.length c) av wv d.falls d.off), own 96 2 fv d.files.length (d.files.flatMap rF1), own 138 2 (.slice A d.seen.length c) d.seen.length (d.seen.flatMap rN1)] (.tmp rfl .nil) ⟨rfl, rfl⟩ sp0
end SX
namespace SX
open Go Go.Proofs
theorem rd_set {p : Nat} {d : Dk} {b c : Nat} {sv av wv : Value} {k : Nat} {f : Fl} {L : List Assn} :
    Ent (blk p 92 (rdC d.quota (.slice (some ⟨b, 0, none⟩) d.files.length c) sv av wv d.falls d.off) :: own 96 2 (.slice (some ⟨b, 0, none⟩) d.files.length c) d.files.length ((d.files.set k f).flatMap rF1) :: own 138 2 sv d.seen.length (d.seen.flatMap rN1) :: own 138 2 av d.safe.length (d.safe.flatMap rN1) :: own 99 3 wv d.pend.length (d.pend.flatMap rC1) :: L) (RDA p (d.setF k f) :: L) := by
  have e1 : (d.files.set k f).length = d.files.length := List.length_set
  have := rd_close (p := p) (L := L) (d := d.setF k f) (x := ⟨.slice (some ⟨b, 0, none⟩) d.files.length c, sv, av, wv⟩)
  rw [show (d.setF k f).files = d.files.set k f from rfl, e1] at this
  exact this
set_option maxHeartbeats 4000000 in
theorem rappend_spec (p : Nat) (d : Dk) (hd : d.Ok) (hw : Few d) (s t : ByteArray) (ht : t.size ≤ 140737488351232) : Spec Tryz.prog 64 [pv p, .string s, .string t] [RDA p d] (fun r L => r = .int .i64 (appendD d s t.data.toList).2 ∧ L = [RDA p (appendD d s t.data.toList).1]) := by
  refine RDA.open' fun ⟨fv, sv, av, wv⟩ => ?_
  have hff := hw.1
  have hul := Dk.used_le hd
  have hbt := bsize t
  have hq := hd.q
  refine Spec.of 55 Tryz.func64 rfl rfl rfl ?_
  refine swp_sr ?_
  refine s_as rfl ?_
  refine swl_sub _ (sc0 0 rfl (sc0 1 rfl (sc0 2 rfl .nil))) ?_
  refine swl_nn ?_
  refine swp_sr ?_
  refine s_mv rfl ?_
  refine s_mv rfl ?_
  refine s_ef (ef_fn (rfile_spec p d hd ⟨fv, sv, av, wv⟩ s) rfl rfl sp0) ?_
  rintro v12 L1 ⟨⟨k, e, rfl, hR⟩, rfl⟩
  refine swl_app ?_
  refine s_mv rfl ?_
  first | refine s_pu (pu_extractL rfl) ?_ | refine s_pu (pu_extract rfl rfl) ?_
  first | refine s_pu (pu_extractL rfl) ?_ | refine s_pu (pu_extract rfl rfl) ?_
  refine s_as rfl ?_
  refine s_as rfl ?_
  refine swl_sub _ (sc0 0 rfl (sc0 2 rfl (sc0 7 rfl (sc0 8 rfl .nil)))) ?_
  refine swl_nn ?_
  refine swp_seq ?_
  refine swp_sr ?_
  refine s_mv rfl ?_
  refine s_pu (pu_neq rfl rfl) ?_
  refine swl_sub _ (sc0 0 rfl (sc0 2 rfl (sc0 7 rfl (sc0 8 rfl (sc0 16 rfl .nil))))) ?_
  refine swl_nn ?_
  refine swp_cond (b := _) rfl (fun h16 => ?_) (fun h16 => ?_)
  · skip   -- 16 T
    refine swp_sr ?_
    refine s_mv rfl ?_
    refine s_as rfl ?_
    refine swl_sub _ (sc0 6 rfl .nil) ?_
    refine swl_nn ?_
    refine swp_ret ?_
    refine then_r ?_
    unfold appendD
    rw [(hR.err (by simpa using h16)).2]
    exact done_retE [RDA p d] (.tmp rfl .nil) ⟨rfl, rfl⟩ ((Split.ent' (K := [blk p 92 (rdC d.quota fv sv av wv d.falls d.off), own 96 2 fv d.files.length (d.files.flatMap rF1), own 138 2 sv d.seen.length (d.seen.flatMap rN1), own 138 2 av d.safe.length (d.safe.flatMap rN1), own 99 3 wv d.pend.length (d.pend.flatMap rC1)]) sp0).trans (rd_close (x := ⟨fv, sv, av, wv⟩)))
  · skip   -- 16 F
    obtain ⟨j, rfl, hf, _, hon⟩ := hR.ok (by simpa using h16)
    have hj := file_lt hd hf
    have hlen := (Dk.fl_ok hd j).1
    simp only [mostF] at hlen
    refine swp_ent (Split.ent' (K := [own 96 2 fv d.files.length (d.files.flatMap rF1), blk p 92 (rdC d.quota fv sv av wv d.falls d.off), own 138 2 sv d.seen.length (d.seen.flatMap rN1), own 138 2 av d.safe.length (d.safe.flatMap rN1), own 99 3 wv d.pend.length (d.pend.flatMap rC1)]) sp0) ?_
    refine swp_fact (fun m h => own_pos h om0) fun ⟨b, c, hfv, hlc, hcm⟩ => ?_
    have hcell := flat_at (f := rF1) (n := 2) (fun _ => rfl) (fl_at hj) 0 _ rfl
    have hst := set_bytes (fl_at hj)
    have hfl : (d.files.flatMap rF1).length = d.files.length * 2 := flat_length (f := rF1) (k := 2) (fun _ => rfl) _
    refine swp_skip ?_
    refine then_n ?_
    refine swp_cut (fun env L => Sub env [(0, pv p), (2, .string t), (7, .int .i64 (j : Nat))] ∧ Ent L [blk p 92 (rdC d.quota fv sv av wv d.falls d.off), own 96 2 fv d.files.length (d.files.flatMap rF1), own 138 2 sv d.seen.length (d.seen.flatMap rN1), own 138 2 av d.safe.length (d.safe.flatMap rN1), own 99 3 wv d.pend.length (d.pend.flatMap rC1)] ∧ ¬ (0 < t.data.toList.length ∧ d.quota < (d.used : Int) + t.data.toList.length)) ?_ ?_
    · skip
      refine swp_seq ?_
      refine swp_draw [12] ([blk p 92 (rdC d.quota fv sv av wv d.falls d.off)]) ([own 96 2 fv d.files.length (d.files.flatMap rF1), own 138 2 sv d.seen.length (d.seen.flatMap rN1), own 138 2 av d.safe.length (d.safe.flatMap rN1), own 99 3 wv d.pend.length (d.pend.flatMap rC1)]) (Split.ent sp0) kr0 ?_
      refine d_pu 0 rfl (pu_move rfl) kr0 kr0 kr0 ?_
      refine d_pu 1 rfl (pu_strlen rfl) kr0 kr0 kr0 ?_
      refine d_pu 2 rfl (pu_gtr rfl rfl) kr0 kr0 kr0 ?_
      refine d_pu 3 rfl (pu_move rfl) kr0 kr0 kr0 ?_
      refine d_split 21 rfl (fun h21 => ?_) (fun h21 => ?_)
      · skip   -- 21 T
        refine d_pu_on 4 rfl rfl rfl (pu_move rfl) kr0 kr0 kr0 ?_
        refine d_pu_on 6 rfl rfl rfl (pu_move rfl) kr0 kr0 kr0 ?_
        refine d_pu_on 7 rfl rfl rfl (pu_strlen rfl) kr0 kr0 kr0 ?_
        refine d_pu_on 9 rfl rfl rfl (pu_move rfl) kr0 kr0 kr0 ?_
        first | refine d_pu_on 10 rfl rfl rfl (pu_nilCheck rfl) kr0 kr0 kr0 ?_ | refine d_pu_on 10 rfl rfl rfl (pu_nilCheck_fn rfl) kr0 kr0 kr0 ?_ | refine d_pu_on 10 rfl rfl rfl (pu_nilCheck_if rfl) kr0 kr0 kr0 ?_
        first | refine d_pu_on 11 rfl rfl rfl (pu_fieldAddr0 rfl) kr0 kr0 kr0 ?_ | refine d_pu_on 11 rfl rfl rfl (pu_fieldAddr rfl) kr0 kr0 kr0 ?_
        refine d_rd_on 12 rfl rfl rfl (rd_load rfl rfl) rfl kr0 kr0 kr0 ?_
        refine d_amb [5] kr0 rfl ?_
        refine dA_ef 5 rfl (GOn.some rfl rfl) (ef_fn (rused_spec p d hd hw fv sv av wv) rfl rfl sp0) ?_
        rintro v23 L1 ⟨rfl, rfl⟩
        refine ⟨_, ent_appC (Split.ent sp0), ?_⟩
        refine d_pu_on 8 rfl rfl rfl (pu_add_as ((d.used + t.size : Nat) : Int) rfl rfl om0 om0 om0) kr0 kr0 kr0 ?_
        refine d_pu_on 13 rfl rfl rfl (pu_gtr rfl rfl) kr0 kr0 kr0 ?_
        first | refine d_pu 14 rfl (pu_pick_t rfl rfl) kr0 kr0 kr0 ?_ | refine d_pu 14 rfl (pu_pick_f rfl rfl) kr0 kr0 kr0 ?_
        refine d_sub _ (sc0 0 rfl (sc0 2 rfl (sc0 7 rfl (sc0 32 rfl .nil)))) ?_
        first | refine d_nilt kr0 ?_ | refine d_nilf kr0 ?_
        refine then_n ?_
        refine swp_cond (b := _) rfl (fun h32 => ?_) (fun h32 => ?_)
        · skip   -- 32 T
          refine swp_sr ?_
          refine s_as rfl ?_
          refine swl_sub _ (sc0 6 rfl .nil) ?_
          refine swl_nn ?_
          refine swp_ret ?_
          refine then_r ?_
          have h21' := of_decide_eq_true h21
          have h32' := of_decide_eq_true h32
          have key : appendD d s t.data.toList = (d, 7) := by unfold appendD; rw [hon, if_pos (by rw [hbt]; exact ⟨by omega, by omega⟩)]
          rw [key]
          exact done_retE [RDA p d] (.tmp rfl .nil) ⟨rfl, rfl⟩ ((Split.ent' (K := [blk p 92 (rdC d.quota fv sv av wv d.falls d.off), own 96 2 fv d.files.length (d.files.flatMap rF1), own 138 2 sv d.seen.length (d.seen.flatMap rN1), own 138 2 av d.safe.length (d.safe.flatMap rN1), own 99 3 wv d.pend.length (d.pend.flatMap rC1)]) sp0).trans (rd_close (x := ⟨fv, sv, av, wv⟩)))
        · skip   -- 32 F
          refine swp_skip ?_
          refine then_n ⟨⟨rfl, rfl, rfl, trivial⟩, Split.ent' sp0, ?_⟩
          rw [hbt]
          first
            | (have h32' := of_decide_eq_false h32; rintro ⟨_, h2⟩; omega)
            | (have h21' := of_decide_eq_false h21; rintro ⟨h1, _⟩; omega)
      · skip   -- 21 F
        refine d_off 4 rfl rfl rfl rfl kr0 kr0 kr0 ?_
        refine d_off 5 rfl rfl rfl rfl kr0 kr0 kr0 ?_
        refine d_off 6 rfl rfl rfl rfl kr0 kr0 kr0 ?_
        refine d_off 7 rfl rfl rfl rfl kr0 kr0 kr0 ?_
        refine d_off 8 rfl rfl rfl rfl kr0 kr0 kr0 ?_
        refine d_off 9 rfl rfl rfl rfl kr0 kr0 kr0 ?_
        refine d_off 10 rfl rfl rfl rfl kr0 kr0 kr0 ?_
        refine d_off 11 rfl rfl rfl rfl kr0 kr0 kr0 ?_
        refine d_off 12 rfl rfl rfl rfl kr0 kr0 kr0 ?_
        refine d_off 13 rfl rfl rfl rfl kr0 kr0 kr0 ?_
        first | refine d_pu 14 rfl (pu_pick_t rfl rfl) kr0 kr0 kr0 ?_ | refine d_pu 14 rfl (pu_pick_f rfl rfl) kr0 kr0 kr0 ?_
        refine d_sub _ (sc0 0 rfl (sc0 2 rfl (sc0 7 rfl (sc0 32 rfl .nil)))) ?_
        first | refine d_nilt kr0 ?_ | refine d_nilf kr0 ?_
        refine then_n ?_
        refine swp_cond (b := _) rfl (fun h32 => by cases h32) (fun h32 => ?_)
        refine swp_skip ?_
        refine then_n ⟨⟨rfl, rfl, rfl, trivial⟩, Split.ent' sp0, ?_⟩
        rw [hbt]
        first
          | (have h32' := of_decide_eq_false h32; rintro ⟨_, h2⟩; omega)
          | (have h21' := of_decide_eq_false h21; rintro ⟨h1, _⟩; omega)
    rintro env L ⟨hsub, hE, h1⟩
    refine swp_sub _ hsub ?_
    refine swp_ent hE ?_
    clear hsub hE env L
    have h1' := h1
    rw [hbt] at h1'
    refine swp_sr ?_
    refine s_mv rfl ?_
    refine s_ef (ef_fn (rstep' p d.quota fv sv av wv d.falls d.off hd.falls) rfl rfl sp0) ?_
    rintro v34 L1 ⟨rfl, rfl⟩
    refine swl_app ?_
    refine s_as rfl ?_
    refine swl_sub _ (sc0 0 rfl (sc0 2 rfl (sc0 7 rfl (sc0 8 rfl .nil)))) ?_
    refine swl_nn ?_
    refine swp_seq ?_
    refine swp_sr ?_
    refine s_mv rfl ?_
    refine s_pu (pu_eql rfl rfl) ?_
    refine swl_sub _ (sc0 0 rfl (sc0 2 rfl (sc0 7 rfl (sc0 8 rfl (sc0 36 rfl .nil))))) ?_
    refine swl_nn ?_
    refine swp_cond (b := _) rfl (fun h36 => ?_) (fun h36 => ?_)
    · skip   -- 36 T
      have hfn : d.falls ≠ 1 := sE_f (of_decide_eq_true h36)
      rw [(st_n (off := d.off) hfn).1, (st_n hfn).2]
      have key : appendD d s t.data.toList = ((fa1 d).setF j ⟨(d.fl j).bytes ++ t.data.toList, (d.fl j).safe⟩, 0) := by unfold appendD; rw [hon, if_neg h1]; exact atStep_n hfn _
      subst hfv
      refine swp_draw [3, 8, 12] _ [] (by simp only [List.append_nil]; exact Ent.refl _) kr0 ?_
      refine d_pu 0 rfl (pu_move rfl) kr0 kr0 kr0 ?_
      first | refine d_pu 1 rfl (pu_nilCheck rfl) kr0 kr0 kr0 ?_ | refine d_pu 1 rfl (pu_nilCheck_fn rfl) kr0 kr0 kr0 ?_ | refine d_pu 1 rfl (pu_nilCheck_if rfl) kr0 kr0 kr0 ?_
      first | refine d_pu 2 rfl (pu_fieldAddr0 rfl) kr0 kr0 kr0 ?_ | refine d_pu 2 rfl (pu_fieldAddr rfl) kr0 kr0 kr0 ?_
      refine d_rd 3 rfl (rd_load rfl rfl) rfl kr0 kr0 kr0 ?_
      refine d_pu 4 rfl (pu_move rfl) kr0 kr0 kr0 ?_
      refine d_pu 5 rfl (pu_move rfl) kr0 kr0 kr0 ?_
      first | refine d_pu 6 rfl (pu_nilCheck rfl) kr0 kr0 kr0 ?_ | refine d_pu 6 rfl (pu_nilCheck_fn rfl) kr0 kr0 kr0 ?_ | refine d_pu 6 rfl (pu_nilCheck_if rfl) kr0 kr0 kr0 ?_
      first | refine d_pu 7 rfl (pu_fieldAddr0 rfl) kr0 kr0 kr0 ?_ | refine d_pu 7 rfl (pu_fieldAddr rfl) kr0 kr0 kr0 ?_
      refine d_rd 8 rfl (rd_load rfl rfl) rfl kr0 kr0 kr0 ?_
      refine d_pu 9 rfl (pu_move rfl) kr0 kr0 kr0 ?_
      refine d_pu 10 rfl (pu_indexAddr (0 + j * 2) rfl rfl om0 om0 (by rw [Int.toNat_natCast])) kr0 kr0 kr0 ?_
      first | refine d_pu 11 rfl (pu_fieldAddr0 rfl) kr0 kr0 kr0 ?_ | refine d_pu 11 rfl (pu_fieldAddr rfl) kr0 kr0 kr0 ?_
      refine d_rd 12 rfl (rd_own rfl tk0 (by rw [Nat.zero_add]; exact hcell)) rfl kr0 kr0 kr0 ?_
      refine d_pu 13 rfl (pu_move rfl) kr0 kr0 kr0 ?_
      refine d_pu 14 rfl (pu_str_add rfl rfl (by rw [tsize]; omega)) kr0 kr0 kr0 ?_
      refine d_pu 15 rfl (pu_indexAddr (0 + j * 2) rfl rfl om0 om0 (by rw [Int.toNat_natCast])) kr0 kr0 kr0 ?_
      first | refine d_pu 16 rfl (pu_fieldAddr0 rfl) kr0 kr0 kr0 ?_ | refine d_pu 16 rfl (pu_fieldAddr rfl) kr0 kr0 kr0 ?_
      first | refine d_fin0t 17 rfl kr0 kr0 (ef_store_own rfl rfl sp0 (by rw [hfl]; omega) rfl) ?_ | refine d_fin0f 17 rfl kr0 kr0 (ef_store_own rfl rfl sp0 (by rw [hfl]; omega) rfl) ?_
      refine d_sub _ (sc0 8 rfl .nil) ?_
      first | refine d_nilt kr0 ?_ | refine d_nilf kr0 ?_
      refine then_n ?_
      refine swp_sr ?_
      refine s_mv rfl ?_
      refine s_as rfl ?_
      refine swl_sub _ (sc0 6 rfl .nil) ?_
      refine swl_nn ?_
      refine swp_ret ?_
      have hE : sE d.falls = 0 := sE_n hfn
      rw [key, hE]
      refine done_retE [RDA p ((fa1 d).setF j ⟨(d.fl j).bytes ++ t.data.toList, (d.fl j).safe⟩)] (.tmp rfl .nil) ⟨rfl, rfl⟩ ?_
      rw [str_app, hst]
      exact Ent.trans (Split.ent' (K := [blk p 92 (rdC d.quota (.slice (some ⟨b, 0, none⟩) d.files.length c) sv av wv (if 0 < d.falls then d.falls - 1 else d.falls) d.off), own 96 2 (.slice (some ⟨b, 0, none⟩) d.files.length c) d.files.length ((d.files.set j ⟨(d.fl j).bytes ++ t.data.toList, (d.fl j).safe⟩).flatMap rF1), own 138 2 sv d.seen.length (d.seen.flatMap rN1), own 138 2 av d.safe.length (d.safe.flatMap rN1), own 99 3 wv d.pend.length (d.pend.flatMap rC1)]) sp0) (rd_set (d := fa1 d))
    · skip   -- 36 F
      refine swp_skip ?_
      refine then_n ?_
      refine swp_sr ?_
      refine s_mv rfl ?_
      refine s_as rfl ?_
      refine swl_sub _ (sc0 6 rfl .nil) ?_
      refine swl_nn ?_
      refine swp_ret ?_
      have hf1 : d.falls = 1 := sE_t (of_decide_eq_false h36)
      have key : appendD d s t.data.toList = (fa0 d, 8) := by unfold appendD; rw [hon, if_neg h1]; exact atStep_1 hf1 _
      rw [key, sE_1 hf1, (st_1 (off := d.off) hf1).1, (st_1 hf1).2]
      exact done_retE [RDA p (fa0 d)] (.tmp rfl .nil) ⟨rfl, rfl⟩ ((Split.ent' (K := [blk p 92 (rdC d.quota fv sv av wv 0 true), own 96 2 fv d.files.length (d.files.flatMap rF1), own 138 2 sv d.seen.length (d.seen.flatMap rN1), own 138 2 av d.safe.length (d.safe.flatMap rN1), own 99 3 wv d.pend.length (d.pend.flatMap rC1)]) sp0).trans (rd_close (d := fa0 d) (x := ⟨fv, sv, av, wv⟩)))
end SX
namespace SX
open Go Go.Proofs
def settle2 (d : Dk) (n len : Nat) : Dk × Int := if (cutRest d n len).2 ≠ 0 then cutRest d n len else syncD (cutRest d n len).1 logN
theorem settle_two (d : Dk) (n len : Nat) : settleD d n len = if (settle2 d n len).2 ≠ 0 then settle2 d n len else syncNamesD (settle2 d n len).1 := by
  unfold settleD settle2
  by_cases h : (cutRest d n len).2 ≠ 0
  · rw [if_pos h, if_pos h, if_pos h]
  · rw [if_neg h, if_neg h]
theorem cutRest_ok {d : Dk} (hd : d.Ok) (n len : Nat) : (cutRest d n len).1.Ok := by
  unfold cutRest
  split
  · exact hd
  · exact cutD_ok hd _ _
theorem settle2_ok {d : Dk} (hd : d.Ok) (n len : Nat) : (settle2 d n len).1.Ok := by
  unfold settle2
  split
  · exact cutRest_ok hd n len
  · exact syncD_ok (cutRest_ok hd n len) _
theorem few_of {m : Nat} {d : Dk} (h : Within m d) (k : m ≤ 999000) : Few d := h.mono om0
end SX
namespace SX
open Go Go.Proofs
theorem rappend_l (q : Nat) (d : Dk) (hd : d.Ok) (hw : Few d) (s : ByteArray) (l : List UInt8) (hl : l.length ≤ 1048576) : Spec Tryz.prog 64 [pv q, .string s, .string (str l)] [RDA q d] (fun r L => r = .int .i64 (appendD d s l).2 ∧ L = [RDA q (appendD d s l).1]) := rappend_spec q d hd hw s (str l) (Nat.le_trans hl (by decide))
set_option maxHeartbeats 2000000 in
theorem rwrite_spec (p : Nat) (W : SW) (d : Dk) (hd : d.Ok) (m : Nat) (hw : Within m d) (hm : m ≤ 990000) (hdd : W.dead = false) (f : Fm) (h1 : 0 < f.1) (h2 : f.1 < 256) (hf : f.2.length ≤ 1048567) : Spec Tryz.prog 52 [pv p, .int .i64 (f.1 : Nat), .string (str f.2)] [RDA W.q d, rsH p W] (fun r L => r = .int .i64 (writeD d f).2 ∧ L = [RDA W.q (writeD d f).1, rsH p { W with dead := decide ((writeD d f).2 = 8) }]) := by
  have hfw := few_of hw om0
  have hfw1 := few_of (appendD_in hw logN (encFm f)) om0
  refine Spec.of 36 Tryz.func52 rfl rfl rfl ?_
  refine swp_sr ?_
  refine s_as rfl ?_
  refine swl_sub _ (sc0 0 rfl (sc0 1 rfl (sc0 2 rfl .nil))) ?_
  refine swl_nn ?_
  refine swp_sr ?_
  refine s_mv rfl ?_
  refine s_mv rfl ?_
  refine s_pu (pu_bld (qs := [(0, _), (1, _)]) rfl) ?_
  refine s_ef (ef_fn (rfenc_spec f h1 h2 om0) rfl rfl sp0) ?_
  rintro v14 L1 ⟨rfl, rfl⟩
  refine swl_app ?_
  refine s_mv rfl ?_
  first | refine s_pu (pu_extractL rfl) ?_ | refine s_pu (pu_extract rfl rfl) ?_
  first | refine s_pu (pu_extractL rfl) ?_ | refine s_pu (pu_extract rfl rfl) ?_
  refine s_as rfl ?_
  refine s_as rfl ?_
  refine swl_sub _ (sc0 0 rfl (sc0 7 rfl .nil)) ?_
  refine swl_nn ?_
  refine swp_sr ?_
  refine s_mv rfl ?_
  first | refine s_pu (pu_nilCheck rfl) ?_ | refine s_pu (pu_nilCheck_fn rfl) ?_ | refine s_pu (pu_nilCheck_if rfl) ?_
  first | refine s_pu (pu_fieldAddr0 rfl) ?_ | refine s_pu (pu_fieldAddr rfl) ?_
  refine s_rd (rd_load rfl rfl) ?_
  refine s_mv rfl ?_
  refine s_ef (ef_fn (rappend_l W.q d hd hfw logN (encFm f) (by rw [encFm_len]; omega)) rfl rfl sp0) ?_
  rintro v22 L1 ⟨rfl, rfl⟩
  refine swl_app ?_
  refine s_as rfl ?_
  refine swl_sub _ (sc0 0 rfl (sc0 9 rfl .nil)) ?_
  refine swl_nn ?_
  refine swp_cut (fun env L => Sub env [(0, pv p), (9, .int .i64 (writeD d f).2)] ∧ Ent L [RDA W.q (writeD d f).1, rsH p W]) ?_ ?_
  · skip
    refine swp_sr ?_
    refine s_mv rfl ?_
    refine s_pu (pu_eql rfl rfl) ?_
    refine swl_sub _ (sc0 0 rfl (sc0 9 rfl (sc0 24 rfl .nil))) ?_
    refine swl_nn ?_
    refine swp_cond (b := _) rfl (fun h24 => ?_) (fun h24 => ?_)
    · skip   -- 24 T
      refine swp_region ?_
      refine s_mv rfl ?_
      first | refine s_pu (pu_nilCheck rfl) ?_ | refine s_pu (pu_nilCheck_fn rfl) ?_ | refine s_pu (pu_nilCheck_if rfl) ?_
      first | refine s_pu (pu_fieldAddr0 rfl) ?_ | refine s_pu (pu_fieldAddr rfl) ?_
      refine s_rd (rd_load rfl rfl) ?_
      refine s_ef (ef_fn (rsync_spec W.q (appendD d logN (encFm f)).1 (appendD_ok hd _ _) hfw1 logN) rfl rfl sp0) ?_
      rintro v29 L1 ⟨rfl, rfl⟩
      refine swl_app ?_
      refine s_as rfl ?_
      refine swl_sub _ (sc0 0 rfl (sc0 9 rfl .nil)) ?_
      refine swl_nil ?_
      have h24' : (appendD d logN (encFm f)).2 = 0 := by simpa using h24
      have e : writeD d f = syncD (appendD d logN (encFm f)).1 logN := by unfold writeD; rw [if_neg (not_not_intro h24')]
      rw [e]
      exact then_n ⟨⟨rfl, rfl, trivial⟩, Split.ent' sp0⟩
    · skip   -- 24 F
      refine swp_skip ?_
      have h24' : (appendD d logN (encFm f)).2 ≠ 0 := by simpa using h24
      have e : writeD d f = appendD d logN (encFm f) := by unfold writeD; rw [if_pos h24']
      rw [e]
      exact then_n ⟨⟨rfl, rfl, trivial⟩, Split.ent' sp0⟩
  rintro env L ⟨hsub, hE⟩
  refine swp_sub _ hsub ?_
  refine swp_ent hE ?_
  clear hsub hE env L
  refine swp_seq ?_
  refine swp_sr ?_
  refine s_mv rfl ?_
  refine s_pu (pu_eql rfl rfl) ?_
  refine swl_sub _ (sc0 0 rfl (sc0 9 rfl (sc0 31 rfl .nil))) ?_
  refine swl_nn ?_
  refine swp_cond (b := _) rfl (fun h31 => ?_) (fun h31 => ?_)
  · skip   -- 31 T
    refine swp_region ?_
    refine s_mv rfl ?_
    first | refine s_pu (pu_nilCheck rfl) ?_ | refine s_pu (pu_nilCheck_fn rfl) ?_ | refine s_pu (pu_nilCheck_if rfl) ?_
    first | refine s_pu (pu_fieldAddr0 rfl) ?_ | refine s_pu (pu_fieldAddr rfl) ?_
    refine s_ef0 (ef_store rfl rfl rfl) ?_
    refine swl_sub _ (sc0 9 rfl .nil) ?_
    refine swl_nn ?_
    refine swp_sr ?_
    refine s_mv rfl ?_
    refine s_as rfl ?_
    refine swl_sub _ (sc0 6 rfl .nil) ?_
    refine swl_nn ?_
    refine swp_ret ?_
    have h31' : decide ((writeD d f).2 = 8) = true := h31
    rw [h31']
    exact done_ret [RDA W.q (writeD d f).1, rsH p { W with dead := true }] (.tmp rfl .nil) ⟨rfl, rfl⟩ sp0
  · skip   -- 31 F
    refine swp_skip ?_
    refine then_n ?_
    refine swp_sr ?_
    refine s_mv rfl ?_
    refine s_as rfl ?_
    refine swl_sub _ (sc0 6 rfl .nil) ?_
    refine swl_nn ?_
    refine swp_ret ?_
    have h31' : decide ((writeD d f).2 = 8) = false := h31
    have e : ({ W with dead := decide ((writeD d f).2 = 8) } : SW) = W := by rw [h31', ← hdd]
    rw [e]
    exact done_ret [RDA W.q (writeD d f).1, rsH p W] (.tmp rfl .nil) ⟨rfl, rfl⟩ sp0
set_option maxHeartbeats 4000000 in
theorem raddtree_spec (μ : PH) (p : Nat) (W : SW) (hW : W.Ok μ) (d : Dk) (hd : d.Ok) (m : Nat) (hw : Within m d) (hm : m ≤ 990000) (v : Value) (t : List En) (hv : Row μ v 2 t.length (ens t)) (hu : U32s t) : Spec Tryz.prog 14 [pv p, v] [RDA W.q d, rsH p W, ttA W, ccA W, ro μ]
    (fun r L => ∃ W' μ', AddQ μ W (addT ⟨d, W.pl, W.dead⟩ t) r W' μ' ∧ L = [RDA W'.q (addT ⟨d, W.pl, W.dead⟩ t).1.d, rsH p W', ttA W', ccA W', ro μ']) := by
  have hW0 := hW
  obtain ⟨⟨A1, c1, e1⟩, ⟨A2, c2, e2⟩, _, _, hT, hC⟩ := hW
  obtain ⟨q, tv, cv, T, C, dead⟩ := W
  dsimp only at e1 e2 hT hC
  subst e1 e2
  have hlen : (SW.pl ⟨q, .slice A1 T.length c1, .slice A2 C.length c2, T, C, dead⟩).1.length = T.length := List.length_map _
  generalize hy : addT ⟨d, SW.pl ⟨q, .slice A1 T.length c1, .slice A2 C.length c2, T, C, dead⟩, dead⟩ t = y
  unfold addT at hy
  dsimp only at hy
  rw [hlen] at hy
  refine Spec.of 53 Tryz.func14 rfl rfl rfl ?_
  refine swp_sr ?_
  refine s_as rfl ?_
  refine s_as rfl ?_
  refine swl_sub _ (sc0 0 rfl (sc0 1 rfl .nil)) ?_
  refine swl_nn ?_
  refine swp_seq ?_
  refine swp_sr ?_
  refine s_mv rfl ?_
  first | refine s_pu (pu_nilCheck rfl) ?_ | refine s_pu (pu_nilCheck_fn rfl) ?_ | refine s_pu (pu_nilCheck_if rfl) ?_
  first | refine s_pu (pu_fieldAddr0 rfl) ?_ | refine s_pu (pu_fieldAddr rfl) ?_
  refine s_rd (rd_load rfl rfl) ?_
  refine swl_sub _ (sc0 0 rfl (sc0 1 rfl (sc0 11 rfl .nil))) ?_
  refine swl_nn ?_
  refine swp_cond (b := _) rfl (fun h11 => ?_) (fun h11 => ?_)
  · skip   -- 11 T
    refine swp_sr ?_
    refine s_as rfl ?_
    refine s_as rfl ?_
    refine swl_sub _ (sc0 4 rfl (sc0 5 rfl .nil)) ?_
    refine swl_nn ?_
    refine swp_ret ?_
    refine then_r ?_
    have ha : (⟨d, SW.pl ⟨q, .slice A1 T.length c1, .slice A2 C.length c2, T, C, dead⟩, dead⟩, 0, 8) = y := by rw [← hy]; exact (addR_dead (x := ⟨d, SW.pl ⟨q, .slice A1 T.length c1, .slice A2 C.length c2, T, C, dead⟩, dead⟩) h11).symm
    subst ha
    exact done_ret [RDA q d, rsH p ⟨q, .slice A1 T.length c1, .slice A2 C.length c2, T, C, dead⟩, ttA ⟨q, .slice A1 T.length c1, .slice A2 C.length c2, T, C, dead⟩, ccA ⟨q, .slice A1 T.length c1, .slice A2 C.length c2, T, C, dead⟩, ro μ] (.tmp rfl (.tmp rfl .nil)) ⟨⟨q, .slice A1 T.length c1, .slice A2 C.length c2, T, C, dead⟩, μ, ⟨Le.refl _, hW0, rfl, rfl, rfl, rfl⟩, rfl⟩ sp0
  · skip   -- 11 F
    have hdd : dead = false := h11
    refine swp_skip ?_
    refine then_n ?_
    refine swp_sr ?_
    refine s_mv rfl ?_
    refine s_ef (ef_fn (renc_spec μ v t hv hu) rfl rfl sp0) ?_
    rintro v14 L1 ⟨rfl, rfl⟩
    refine swl_app ?_
    refine s_mv rfl ?_
    first | refine s_pu (pu_extractL rfl) ?_ | refine s_pu (pu_extract rfl rfl) ?_
    first | refine s_pu (pu_extractL rfl) ?_ | refine s_pu (pu_extract rfl rfl) ?_
    refine s_as rfl ?_
    refine s_as rfl ?_
    refine swl_sub _ (sc0 0 rfl (sc0 1 rfl (sc0 6 rfl (sc0 7 rfl .nil)))) ?_
    refine swl_nn ?_
    refine swp_seq ?_
    refine swp_sr ?_
    refine s_mv rfl ?_
    refine s_pu (pu_eql rfl rfl) ?_
    refine s_mv rfl ?_
    refine s_split 19 rfl (fun h19 => ?_) (fun h19 => ?_)
    · skip   -- 19 T
      have h21' : encErr t = 0 := of_decide_eq_true h19
      obtain ⟨hl1, hl2⟩ := encErr_ok h21'
      have hev : encV t = encT t := by unfold encV; rw [if_pos h21']
      refine s_on rfl rfl ?_
      refine s_mv rfl ?_
      refine s_on rfl rfl ?_
      first | refine s_pu (pu_nilCheck rfl) ?_ | refine s_pu (pu_nilCheck_fn rfl) ?_ | refine s_pu (pu_nilCheck_if rfl) ?_
      refine s_on rfl rfl ?_
      first | refine s_pu (pu_fieldAddr0 rfl) ?_ | refine s_pu (pu_fieldAddr rfl) ?_
      refine s_on rfl rfl ?_
      refine s_rd (rd_load rfl rfl) ?_
      refine s_on rfl rfl ?_
      refine s_pu (pu_len rfl) ?_
      refine s_on rfl rfl ?_
      refine s_pu (pu_geq rfl rfl) ?_
      first | refine s_pu (pu_pick_t rfl rfl) ?_ | refine s_pu (pu_pick_f rfl rfl) ?_
      refine swl_sub _ (sc0 0 rfl (sc0 1 rfl (sc0 6 rfl (sc0 7 rfl (sc0 26 rfl .nil))))) ?_
      refine swl_nn ?_
      refine swp_cond (b := _) rfl (fun h26 => ?_) (fun h26 => ?_)
      · skip   -- 26 T
        have h28' : 65536 ≤ T.length := by have := of_decide_eq_true h26; omega
        refine swp_region ?_
        refine s_as rfl ?_
        refine swl_sub _ (sc0 0 rfl (sc0 1 rfl (sc0 6 rfl (sc0 7 rfl .nil)))) ?_
        refine swl_nn ?_
        refine swp_seq ?_
        refine swp_sr ?_
        refine s_mv rfl ?_
        refine s_pu (pu_eql rfl rfl) ?_
        refine swl_sub _ (sc0 0 rfl (sc0 1 rfl (sc0 6 rfl (sc0 7 rfl (sc0 28 rfl .nil))))) ?_
        refine swl_nn ?_
        refine swp_cond (b := _) rfl (fun h28 => by cases h28) (fun h28 => ?_)
        refine swp_skip ?_
        refine then_n ?_
        refine swp_seq ?_
        refine swp_sr ?_
        refine s_mv rfl ?_
        refine s_pu (pu_neq rfl rfl) ?_
        refine swl_sub _ (sc0 0 rfl (sc0 1 rfl (sc0 7 rfl (sc0 33 rfl .nil)))) ?_
        refine swl_nn ?_
        refine swp_cond (b := _) rfl (fun h33 => ?_) (fun h33 => by cases h33)
        refine swp_sr ?_
        refine s_mv rfl ?_
        refine s_as rfl ?_
        refine s_as rfl ?_
        refine swl_sub _ (sc0 4 rfl (sc0 5 rfl .nil)) ?_
        refine swl_nn ?_
        refine swp_ret ?_
        refine then_r ?_
        have ha : (⟨d, SW.pl ⟨q, .slice A1 T.length c1, .slice A2 C.length c2, T, C, dead⟩, dead⟩, 0, 7) = y := by rw [← hy]; exact (addR_full (x := ⟨d, SW.pl ⟨q, .slice A1 T.length c1, .slice A2 C.length c2, T, C, dead⟩, dead⟩) hdd h21' h28').symm
        subst ha
        exact done_ret [RDA q d, rsH p ⟨q, .slice A1 T.length c1, .slice A2 C.length c2, T, C, dead⟩, ttA ⟨q, .slice A1 T.length c1, .slice A2 C.length c2, T, C, dead⟩, ccA ⟨q, .slice A1 T.length c1, .slice A2 C.length c2, T, C, dead⟩, ro μ] (.tmp rfl (.tmp rfl .nil)) ⟨⟨q, .slice A1 T.length c1, .slice A2 C.length c2, T, C, dead⟩, μ, ⟨Le.refl _, hW0, rfl, rfl, rfl, rfl⟩, rfl⟩ sp0
      · skip   -- 26 F
        have h28' : T.length < 65536 := by have := of_decide_eq_false h26; omega
        refine swp_skip ?_
        refine then_n ?_
        refine swp_seq ?_
        refine swp_sr ?_
        refine s_mv rfl ?_
        refine s_pu (pu_eql rfl rfl) ?_
        refine swl_sub _ (sc0 0 rfl (sc0 1 rfl (sc0 6 rfl (sc0 7 rfl (sc0 28 rfl .nil))))) ?_
        refine swl_nn ?_
        refine swp_cond (b := _) rfl (fun h28 => ?_) (fun h28 => by rw [h21'] at h28; cases h28)
        refine swp_region ?_
        refine s_mv rfl ?_
        refine s_mv rfl ?_
        refine s_ef (ef_fn (rwrite_spec p ⟨q, .slice A1 T.length c1, .slice A2 C.length c2, T, C, dead⟩ d hd m hw hm hdd (1, encV t) (by show 0 < 1; decide) (by show 1 < 256; decide) (by rw [hev]; exact encT_len h21')) rfl rfl sp0) ?_
        rintro v31 L1 ⟨rfl, rfl⟩
        rw [hev]
        refine swl_app ?_
        dsimp only
        refine s_as rfl ?_
        refine swl_sub _ (sc0 0 rfl (sc0 1 rfl (sc0 7 rfl .nil))) ?_
        refine swl_nn ?_
        refine swp_seq ?_
        refine swp_sr ?_
        refine s_mv rfl ?_
        refine s_pu (pu_neq rfl rfl) ?_
        refine swl_sub _ (sc0 0 rfl (sc0 1 rfl (sc0 7 rfl (sc0 33 rfl .nil)))) ?_
        refine swl_nn ?_
        refine swp_cond (b := _) rfl (fun h33 => ?_) (fun h33 => ?_)
        · skip   -- 33 T
          refine swp_sr ?_
          refine s_mv rfl ?_
          refine s_as rfl ?_
          refine s_as rfl ?_
          refine swl_sub _ (sc0 4 rfl (sc0 5 rfl .nil)) ?_
          refine swl_nn ?_
          refine swp_ret ?_
          refine then_r ?_
          have h35' : (writeD d (1, encT t)).2 ≠ 0 := by simpa using h33
          have ha : (⟨(writeD d (1, encT t)).1, SW.pl ⟨q, .slice A1 T.length c1, .slice A2 C.length c2, T, C, dead⟩, decide ((writeD d (1, encT t)).2 = 8)⟩, 0, (writeD d (1, encT t)).2) = y := by rw [← hy]; exact (addR_wr (x := ⟨d, SW.pl ⟨q, .slice A1 T.length c1, .slice A2 C.length c2, T, C, dead⟩, dead⟩) hdd h21' h28' h35').symm
          subst ha
          exact done_ret [RDA q (writeD d (1, encT t)).1, rsH p ⟨q, .slice A1 T.length c1, .slice A2 C.length c2, T, C, decide ((writeD d (1, encT t)).2 = 8)⟩, ttA ⟨q, .slice A1 T.length c1, .slice A2 C.length c2, T, C, dead⟩, ccA ⟨q, .slice A1 T.length c1, .slice A2 C.length c2, T, C, dead⟩, ro μ] (.tmp rfl (.tmp rfl .nil)) ⟨⟨q, .slice A1 T.length c1, .slice A2 C.length c2, T, C, decide ((writeD d (1, encT t)).2 = 8)⟩, μ, ⟨Le.refl _, SW.Ok.dead hW0 _, rfl, rfl, rfl, rfl⟩, rfl⟩ sp0
        · skip   -- 33 F
          have h35' : (writeD d (1, encT t)).2 = 0 := by simpa using h33
          have ha : (⟨(writeD d (1, encT t)).1, ((SW.pl ⟨q, .slice A1 T.length c1, .slice A2 C.length c2, T, C, dead⟩).1 ++ [t], (SW.pl ⟨q, .slice A1 T.length c1, .slice A2 C.length c2, T, C, dead⟩).2), false⟩, ((T.length : Nat) : Int), 0) = y := by rw [← hy]; exact (addR_ok (x := ⟨d, SW.pl ⟨q, .slice A1 T.length c1, .slice A2 C.length c2, T, C, dead⟩, dead⟩) hdd h21' h28' h35').symm
          have hd8 : decide ((writeD d (1, encT t)).2 = 8) = false := by rw [h35']; rfl
          rw [hd8]
          subst ha
          refine swp_skip ?_
          refine then_n ?_
          refine swp_seq ?_
          refine swp_draw [4] ([rsH p ⟨q, .slice A1 T.length c1, .slice A2 C.length c2, T, C, false⟩]) ([RDA q (writeD d (1, encT t)).1, ro μ, ttA ⟨q, .slice A1 T.length c1, .slice A2 C.length c2, T, C, dead⟩, ccA ⟨q, .slice A1 T.length c1, .slice A2 C.length c2, T, C, dead⟩]) (Split.ent sp0) kr0 ?_
          refine d_pu 0 rfl (pu_move rfl) kr0 kr0 kr0 ?_
          refine d_pu 1 rfl (pu_move rfl) kr0 kr0 kr0 ?_
          first | refine d_pu 2 rfl (pu_nilCheck rfl) kr0 kr0 kr0 ?_ | refine d_pu 2 rfl (pu_nilCheck_fn rfl) kr0 kr0 kr0 ?_ | refine d_pu 2 rfl (pu_nilCheck_if rfl) kr0 kr0 kr0 ?_
          first | refine d_pu 3 rfl (pu_fieldAddr0 rfl) kr0 kr0 kr0 ?_ | refine d_pu 3 rfl (pu_fieldAddr rfl) kr0 kr0 kr0 ?_
          refine d_rd 4 rfl (rd_load rfl rfl) rfl kr0 kr0 kr0 ?_
          refine d_pu 6 rfl (pu_move rfl) kr0 kr0 kr0 ?_
          refine d_eft 5 rfl kr0 (ef_bldS (qs := []) rfl rfl rfl) ?_
          intro b40
          refine ⟨_, Split.ent sp0, ?_⟩
          refine d_entx (own_empty (n := 2)) ?_
          refine d_eft 7 rfl kr0 (ef_append_ro hv rfl rfl sp0 (ens_one _) (by simp only [maxLen]; omega) om0) ?_
          rintro v42 -
          rw [Nat.zero_add, List.nil_append]
          refine ⟨_, Split.ent sp0, ?_⟩
          refine swd_factt (p := ∃ A c, v42 = .slice A t.length c) (fun m h => own_form (show Sat (own 47 2 v42 t.length (ens t) :: _) m from Sat.tail (A := rsH p ⟨q, .slice A1 T.length c1, .slice A2 C.length c2, T, C, false⟩) h)) fun ⟨A3, c3, hv42⟩ => ?_
          subst hv42
          refine d_eft 8 rfl kr0 (ef_bldS (qs := [(0, _)]) rfl rfl rfl) ?_
          intro b43
          refine ⟨_, Split.ent sp0, ?_⟩
          first | refine d_fint 9 rfl kr0 kr0 (ef_append_lit (l := T.length) (m := 1) rfl rfl sp0 (by simp only [maxLen]; omega) om0) ?_ | refine d_finf 9 rfl kr0 kr0 (ef_append_lit (l := T.length) (m := 1) rfl rfl sp0 (by simp only [maxLen]; omega) om0) ?_
          rintro v45 -
          first | refine swd_factf (fun m h => own_form h) fun ⟨A45, c45, hv45⟩ => ?_ | refine swd_factt (fun m h => own_form h) fun ⟨A45, c45, hv45⟩ => ?_
          subst hv45
          first | refine d_pu 10 rfl (pu_nilCheck rfl) kr0 kr0 kr0 ?_ | refine d_pu 10 rfl (pu_nilCheck_fn rfl) kr0 kr0 kr0 ?_ | refine d_pu 10 rfl (pu_nilCheck_if rfl) kr0 kr0 kr0 ?_
          first | refine d_pu 11 rfl (pu_fieldAddr0 rfl) kr0 kr0 kr0 ?_ | refine d_pu 11 rfl (pu_fieldAddr rfl) kr0 kr0 kr0 ?_
          first | refine d_fin0t 12 rfl kr0 kr0 (ef_store rfl rfl rfl) ?_ | refine d_fin0f 12 rfl kr0 kr0 (ef_store rfl rfl rfl) ?_
          refine d_sub _ (sc0 0 rfl .nil) ?_
          first | refine d_nilt kr0 ?_ | refine d_nilf kr0 ?_
          refine then_n ?_
          refine swp_seq ?_
          refine swp_share_own (μ := μ) (v := .slice A3 t.length c3) (e := 47) (n := 2) sp0 fun μ' hle hrow => ?_
          refine swp_region ?_
          refine s_mv rfl ?_
          first | refine s_pu (pu_nilCheck rfl) ?_ | refine s_pu (pu_nilCheck_fn rfl) ?_ | refine s_pu (pu_nilCheck_if rfl) ?_
          first | refine s_pu (pu_fieldAddr0 rfl) ?_ | refine s_pu (pu_fieldAddr rfl) ?_
          refine s_rd (rd_load rfl rfl) ?_
          refine s_pu (pu_len rfl) ?_
          refine s_pu (pu_sub_as ((T.length : Nat) : Int) rfl rfl om0 om0 om0) ?_
          refine s_as rfl ?_
          refine s_as rfl ?_
          refine swl_sub _ (sc0 4 rfl (sc0 5 rfl .nil)) ?_
          refine swl_nn ?_
          refine swp_ret ?_
          refine done_ret [RDA q (writeD d (1, encT t)).1, rsH p ⟨q, .slice A45 (T.length + 1) c45, .slice A2 C.length c2, T ++ [(.slice A3 t.length c3, t)], C, false⟩, own 22 1 (.slice A45 (T.length + 1) c45) (T.length + 1) (T.flatMap tcs ++ [.slice A3 t.length c3]), ccA ⟨q, .slice A1 T.length c1, .slice A2 C.length c2, T, C, dead⟩, ro μ'] (.tmp rfl (.tmp rfl .nil)) ⟨⟨q, .slice A45 (T.length + 1) c45, .slice A2 C.length c2, T ++ [(.slice A3 t.length c3, t)], C, false⟩, μ', ⟨hle, SW.Ok.dead (Ok.addT hW0 hle hrow h28') false, rfl, ?_, rfl, rfl⟩, ?_⟩ sp0
          · unfold SW.pl; rw [List.map_append]; rfl
          · simp only [ttA, List.length_append, List.length_singleton, List.flatMap_append]; rfl
    · skip   -- 19 F
      have h21' : encErr t ≠ 0 := of_decide_eq_false h19
      refine s_off rfl rfl rfl ?_
      refine s_off rfl rfl rfl ?_
      refine s_off rfl rfl rfl ?_
      refine s_off rfl rfl rfl ?_
      refine s_off rfl rfl rfl ?_
      refine s_off rfl rfl rfl ?_
      first | refine s_pu (pu_pick_t rfl rfl) ?_ | refine s_pu (pu_pick_f rfl rfl) ?_
      refine swl_sub _ (sc0 0 rfl (sc0 1 rfl (sc0 6 rfl (sc0 7 rfl (sc0 26 rfl .nil))))) ?_
      refine swl_nn ?_
      refine swp_cond (b := _) rfl (fun h26 => by cases h26) (fun h26 => ?_)
      refine swp_skip ?_
      refine then_n ?_
      refine swp_seq ?_
      refine swp_sr ?_
      refine s_mv rfl ?_
      refine s_pu (pu_eql rfl rfl) ?_
      refine swl_sub _ (sc0 0 rfl (sc0 1 rfl (sc0 6 rfl (sc0 7 rfl (sc0 28 rfl .nil))))) ?_
      refine swl_nn ?_
      refine swp_cond (b := _) rfl (fun h28 => by exact absurd (of_decide_eq_true h28) h21') (fun h28 => ?_)
      refine swp_skip ?_
      refine then_n ?_
      refine swp_seq ?_
      refine swp_sr ?_
      refine s_mv rfl ?_
      refine s_pu (pu_neq rfl rfl) ?_
      refine swl_sub _ (sc0 0 rfl (sc0 1 rfl (sc0 7 rfl (sc0 33 rfl .nil)))) ?_
      refine swl_nn ?_
      refine swp_cond (b := _) rfl (fun h33 => ?_) (fun h33 => by rw [decide_eq_false h21'] at h33; cases h33)
      refine swp_sr ?_
      refine s_mv rfl ?_
      refine s_as rfl ?_
      refine s_as rfl ?_
      refine swl_sub _ (sc0 4 rfl (sc0 5 rfl .nil)) ?_
      refine swl_nn ?_
      refine swp_ret ?_
      refine then_r ?_
      have ha : (⟨d, SW.pl ⟨q, .slice A1 T.length c1, .slice A2 C.length c2, T, C, dead⟩, dead⟩, 0, encErr t) = y := by rw [← hy]; exact (addR_err (x := ⟨d, SW.pl ⟨q, .slice A1 T.length c1, .slice A2 C.length c2, T, C, dead⟩, dead⟩) hdd h21').symm
      subst ha
      exact done_ret [RDA q d, rsH p ⟨q, .slice A1 T.length c1, .slice A2 C.length c2, T, C, dead⟩, ttA ⟨q, .slice A1 T.length c1, .slice A2 C.length c2, T, C, dead⟩, ccA ⟨q, .slice A1 T.length c1, .slice A2 C.length c2, T, C, dead⟩, ro μ] (.tmp rfl (.tmp rfl .nil)) ⟨⟨q, .slice A1 T.length c1, .slice A2 C.length c2, T, C, dead⟩, μ, ⟨Le.refl _, hW0, rfl, rfl, rfl, rfl⟩, rfl⟩ sp0
end SX
namespace SX
open Go Go.Proofs
set_option maxHeartbeats 4000000 in
theorem raddcommit_spec (μ : PH) (p : Nat) (W : SW) (hW : W.Ok μ) (d : Dk) (hd : d.Ok) (m : Nat) (hw : Within m d) (hm : m ≤ 990000) (v : Value) (c : Cm) (hv : Row μ v 1 c.1.length (c.1.flatMap (icsk .i64))) : Spec Tryz.prog 15 [pv p, cmV v c.2] [RDA W.q d, rsH p W, ttA W, ccA W, ro μ]
    (fun r L => ∃ W' μ', AddQ μ W (addC ⟨d, W.pl, W.dead⟩ c) r W' μ' ∧ L = [RDA W'.q (addC ⟨d, W.pl, W.dead⟩ c).1.d, rsH p W', ttA W', ccA W', ro μ']) := by
  have hW0 := hW
  obtain ⟨⟨A1, c1, e1⟩, ⟨A2, c2, e2⟩, _, _, hT, hC⟩ := hW
  obtain ⟨A5, c5, rfl⟩ := hv.sl
  obtain ⟨q, tv, cv, T, C, dead⟩ := W
  dsimp only at e1 e2 hT hC
  subst e1 e2
  have hlen : (SW.pl ⟨q, .slice A1 T.length c1, .slice A2 C.length c2, T, C, dead⟩).1.length = T.length := List.length_map _
  have hlen2 : (SW.pl ⟨q, .slice A1 T.length c1, .slice A2 C.length c2, T, C, dead⟩).2.length = C.length := List.length_map _
  generalize hy : addC ⟨d, SW.pl ⟨q, .slice A1 T.length c1, .slice A2 C.length c2, T, C, dead⟩, dead⟩ c = y
  unfold addC at hy
  dsimp only at hy
  rw [hlen, hlen2] at hy
  refine Spec.of 65 Tryz.func15 rfl rfl rfl ?_
  refine swp_sr ?_
  refine s_ef (ef_box rfl rfl) ?_
  intro b3
  refine s_as rfl ?_
  refine s_as rfl ?_
  refine swl_sub _ (sc0 0 rfl (sc0 3 rfl .nil)) ?_
  refine swl_nn ?_
  refine swp_seq ?_
  refine swp_sr ?_
  refine s_mv rfl ?_
  first | refine s_pu (pu_nilCheck rfl) ?_ | refine s_pu (pu_nilCheck_fn rfl) ?_ | refine s_pu (pu_nilCheck_if rfl) ?_
  first | refine s_pu (pu_fieldAddr0 rfl) ?_ | refine s_pu (pu_fieldAddr rfl) ?_
  refine s_rd (rd_load rfl rfl) ?_
  refine swl_sub _ (sc0 0 rfl (sc0 3 rfl (sc0 11 rfl .nil))) ?_
  refine swl_nn ?_
  refine swp_cond (b := _) rfl (fun h11 => ?_) (fun h11 => ?_)
  · skip   -- 11 T
    refine swp_sr ?_
    refine s_as rfl ?_
    refine s_as rfl ?_
    refine swl_sub _ (sc0 4 rfl (sc0 5 rfl .nil)) ?_
    refine swl_nn ?_
    refine swp_ret ?_
    refine then_r ?_
    have ha : (⟨d, SW.pl ⟨q, .slice A1 T.length c1, .slice A2 C.length c2, T, C, dead⟩, dead⟩, 0, 8) = y := by rw [← hy]; exact (addR_dead (x := ⟨d, SW.pl ⟨q, .slice A1 T.length c1, .slice A2 C.length c2, T, C, dead⟩, dead⟩) h11).symm
    subst ha
    exact done_ret [RDA q d, rsH p ⟨q, .slice A1 T.length c1, .slice A2 C.length c2, T, C, dead⟩, ttA ⟨q, .slice A1 T.length c1, .slice A2 C.length c2, T, C, dead⟩, ccA ⟨q, .slice A1 T.length c1, .slice A2 C.length c2, T, C, dead⟩, ro μ] (.tmp rfl (.tmp rfl .nil)) ⟨⟨q, .slice A1 T.length c1, .slice A2 C.length c2, T, C, dead⟩, μ, ⟨Le.refl _, hW0, rfl, rfl, rfl, rfl⟩, rfl⟩ sp0
  · skip   -- 11 F
    have hdd : dead = false := h11
    refine swp_skip ?_
    refine then_n ?_
    refine swp_sr ?_
    first | refine s_rd (rd_loadW rfl rfl) ?_ | refine s_rd (rd_loadX rfl rfl rfl) ?_
    refine s_ef (ef_fn (rcenc_spec μ (.slice A5 c.1.length c5) c hv) rfl rfl sp0) ?_
    rintro v14 L1 ⟨rfl, rfl⟩
    refine swl_app ?_
    refine s_mv rfl ?_
    first | refine s_pu (pu_extractL rfl) ?_ | refine s_pu (pu_extract rfl rfl) ?_
    first | refine s_pu (pu_extractL rfl) ?_ | refine s_pu (pu_extract rfl rfl) ?_
    refine s_as rfl ?_
    refine s_as rfl ?_
    refine swl_sub _ (sc0 0 rfl (sc0 3 rfl (sc0 6 rfl (sc0 7 rfl .nil)))) ?_
    refine swl_nn ?_
    refine swp_seq ?_
    refine swp_sr ?_
    refine s_mv rfl ?_
    refine s_pu (pu_eql rfl rfl) ?_
    refine s_mv rfl ?_
    refine s_split 19 rfl (fun h19 => ?_) (fun h19 => ?_)
    · skip   -- 19 T
      have h22' : checkC c = 0 := of_decide_eq_true h19
      rw [if_neg (not_not_intro h22')] at hy
      refine s_on rfl rfl ?_
      refine s_mv rfl ?_
      refine s_on rfl rfl ?_
      first | refine s_rd (rd_loadW rfl rfl) ?_ | refine s_rd (rd_loadX rfl rfl rfl) ?_
      refine s_on rfl rfl ?_
      refine s_ef (ef_fn (rknown_spec μ p ⟨q, .slice A1 T.length c1, .slice A2 C.length c2, T, C, dead⟩ hW0 (.slice A5 c.1.length c5) c hv) rfl rfl sp0) ?_
      rintro v22 L1 ⟨rfl, rfl⟩
      refine swl_app ?_
      refine s_on rfl rfl ?_
      refine s_pu (pu_not rfl) ?_
      first | refine s_pu (pu_pick_t rfl rfl) ?_ | refine s_pu (pu_pick_f rfl rfl) ?_
      refine swl_sub _ (sc0 0 rfl (sc0 3 rfl (sc0 6 rfl (sc0 7 rfl (sc0 24 rfl .nil))))) ?_
      refine swl_nn ?_
      refine swp_cond (b := _) rfl (fun h24 => ?_) (fun h24 => ?_)
      · skip   -- 24 T
        have h25' : knownS T.length C.length c = false := by simpa using h24
        rw [if_pos h25'] at hy
        refine swp_region ?_
        refine s_as rfl ?_
        refine swl_sub _ (sc0 0 rfl (sc0 3 rfl (sc0 6 rfl (sc0 7 rfl .nil)))) ?_
        refine swl_nn ?_
        refine swp_seq ?_
        refine swp_sr ?_
        refine s_mv rfl ?_
        refine s_pu (pu_eql rfl rfl) ?_
        refine s_mv rfl ?_
        refine s_split 27 rfl (fun h27 => by cases h27) (fun h27 => ?_)
        refine s_off rfl rfl rfl ?_
        refine s_off rfl rfl rfl ?_
        refine s_off rfl rfl rfl ?_
        refine s_off rfl rfl rfl ?_
        refine s_off rfl rfl rfl ?_
        refine s_off rfl rfl rfl ?_
        first | refine s_pu (pu_pick_t rfl rfl) ?_ | refine s_pu (pu_pick_f rfl rfl) ?_
        refine swl_sub _ (sc0 0 rfl (sc0 3 rfl (sc0 6 rfl (sc0 7 rfl (sc0 34 rfl .nil))))) ?_
        refine swl_nn ?_
        refine swp_cond (b := _) rfl (fun h34 => by cases h34) (fun h34 => ?_)
        refine swp_skip ?_
        refine then_n ?_
        refine swp_seq ?_
        refine swp_sr ?_
        refine s_mv rfl ?_
        refine s_pu (pu_eql rfl rfl) ?_
        refine swl_sub _ (sc0 0 rfl (sc0 3 rfl (sc0 6 rfl (sc0 7 rfl (sc0 36 rfl .nil))))) ?_
        refine swl_nn ?_
        refine swp_cond (b := _) rfl (fun h36 => by cases h36) (fun h36 => ?_)
        refine swp_skip ?_
        refine then_n ?_
        refine swp_seq ?_
        refine swp_sr ?_
        refine s_mv rfl ?_
        refine s_pu (pu_neq rfl rfl) ?_
        refine swl_sub _ (sc0 0 rfl (sc0 3 rfl (sc0 7 rfl (sc0 41 rfl .nil)))) ?_
        refine swl_nn ?_
        refine swp_cond (b := _) rfl (fun h41 => ?_) (fun h41 => by cases h41)
        refine swp_sr ?_
        refine s_mv rfl ?_
        refine s_as rfl ?_
        refine s_as rfl ?_
        refine swl_sub _ (sc0 4 rfl (sc0 5 rfl .nil)) ?_
        refine swl_nn ?_
        refine swp_ret ?_
        refine then_r ?_
        have ha : (⟨d, SW.pl ⟨q, .slice A1 T.length c1, .slice A2 C.length c2, T, C, dead⟩, dead⟩, 0, 9) = y := by rw [← hy]; exact (addR_err (x := ⟨d, SW.pl ⟨q, .slice A1 T.length c1, .slice A2 C.length c2, T, C, dead⟩, dead⟩) hdd (by decide)).symm
        subst ha
        exact done_ret [RDA q d, rsH p ⟨q, .slice A1 T.length c1, .slice A2 C.length c2, T, C, dead⟩, ttA ⟨q, .slice A1 T.length c1, .slice A2 C.length c2, T, C, dead⟩, ccA ⟨q, .slice A1 T.length c1, .slice A2 C.length c2, T, C, dead⟩, ro μ] (.tmp rfl (.tmp rfl .nil)) ⟨⟨q, .slice A1 T.length c1, .slice A2 C.length c2, T, C, dead⟩, μ, ⟨Le.refl _, hW0, rfl, rfl, rfl, rfl⟩, rfl⟩ sp0
      · skip   -- 24 F
        have h25' : knownS T.length C.length c = true := by simpa using h24
        rw [if_neg (by rw [h25']; decide)] at hy
        refine swp_skip ?_
        refine then_n ?_
        refine swp_seq ?_
        refine swp_sr ?_
        refine s_mv rfl ?_
        refine s_pu (pu_eql rfl rfl) ?_
        refine s_mv rfl ?_
        refine s_split 27 rfl (fun h27 => ?_) (fun h27 => by rw [h22'] at h27; cases h27)
        refine s_on rfl rfl ?_
        refine s_mv rfl ?_
        refine s_on rfl rfl ?_
        first | refine s_pu (pu_nilCheck rfl) ?_ | refine s_pu (pu_nilCheck_fn rfl) ?_ | refine s_pu (pu_nilCheck_if rfl) ?_
        refine s_on rfl rfl ?_
        first | refine s_pu (pu_fieldAddr0 rfl) ?_ | refine s_pu (pu_fieldAddr rfl) ?_
        refine s_on rfl rfl ?_
        refine s_rd (rd_load rfl rfl) ?_
        refine s_on rfl rfl ?_
        refine s_pu (pu_len rfl) ?_
        refine s_on rfl rfl ?_
        refine s_pu (pu_geq rfl rfl) ?_
        first | refine s_pu (pu_pick_t rfl rfl) ?_ | refine s_pu (pu_pick_f rfl rfl) ?_
        refine swl_sub _ (sc0 0 rfl (sc0 3 rfl (sc0 6 rfl (sc0 7 rfl (sc0 34 rfl .nil))))) ?_
        refine swl_nn ?_
        refine swp_cond (b := _) rfl (fun h34 => ?_) (fun h34 => ?_)
        · skip   -- 34 T
          have h30' : 65536 ≤ C.length := by have := of_decide_eq_true h34; omega
          refine swp_region ?_
          refine s_as rfl ?_
          refine swl_sub _ (sc0 0 rfl (sc0 3 rfl (sc0 6 rfl (sc0 7 rfl .nil)))) ?_
          refine swl_nn ?_
          refine swp_seq ?_
          refine swp_sr ?_
          refine s_mv rfl ?_
          refine s_pu (pu_eql rfl rfl) ?_
          refine swl_sub _ (sc0 0 rfl (sc0 3 rfl (sc0 6 rfl (sc0 7 rfl (sc0 36 rfl .nil))))) ?_
          refine swl_nn ?_
          refine swp_cond (b := _) rfl (fun h36 => by cases h36) (fun h36 => ?_)
          refine swp_skip ?_
          refine then_n ?_
          refine swp_seq ?_
          refine swp_sr ?_
          refine s_mv rfl ?_
          refine s_pu (pu_neq rfl rfl) ?_
          refine swl_sub _ (sc0 0 rfl (sc0 3 rfl (sc0 7 rfl (sc0 41 rfl .nil)))) ?_
          refine swl_nn ?_
          refine swp_cond (b := _) rfl (fun h41 => ?_) (fun h41 => by cases h41)
          refine swp_sr ?_
          refine s_mv rfl ?_
          refine s_as rfl ?_
          refine s_as rfl ?_
          refine swl_sub _ (sc0 4 rfl (sc0 5 rfl .nil)) ?_
          refine swl_nn ?_
          refine swp_ret ?_
          refine then_r ?_
          have ha : (⟨d, SW.pl ⟨q, .slice A1 T.length c1, .slice A2 C.length c2, T, C, dead⟩, dead⟩, 0, 7) = y := by rw [← hy]; exact (addR_full (x := ⟨d, SW.pl ⟨q, .slice A1 T.length c1, .slice A2 C.length c2, T, C, dead⟩, dead⟩) hdd rfl h30').symm
          subst ha
          exact done_ret [RDA q d, rsH p ⟨q, .slice A1 T.length c1, .slice A2 C.length c2, T, C, dead⟩, ttA ⟨q, .slice A1 T.length c1, .slice A2 C.length c2, T, C, dead⟩, ccA ⟨q, .slice A1 T.length c1, .slice A2 C.length c2, T, C, dead⟩, ro μ] (.tmp rfl (.tmp rfl .nil)) ⟨⟨q, .slice A1 T.length c1, .slice A2 C.length c2, T, C, dead⟩, μ, ⟨Le.refl _, hW0, rfl, rfl, rfl, rfl⟩, rfl⟩ sp0
        · skip   -- 34 F
          have h30' : C.length < 65536 := by have := of_decide_eq_false h34; omega
          have hbl := (checkC_ok h22').1
          refine swp_skip ?_
          refine then_n ?_
          refine swp_seq ?_
          refine swp_sr ?_
          refine s_mv rfl ?_
          refine s_pu (pu_eql rfl rfl) ?_
          refine swl_sub _ (sc0 0 rfl (sc0 3 rfl (sc0 6 rfl (sc0 7 rfl (sc0 36 rfl .nil))))) ?_
          refine swl_nn ?_
          refine swp_cond (b := _) rfl (fun h36 => ?_) (fun h36 => by rw [h22'] at h36; cases h36)
          refine swp_region ?_
          refine s_mv rfl ?_
          refine s_mv rfl ?_
          refine s_ef (ef_fn (rwrite_spec p ⟨q, .slice A1 T.length c1, .slice A2 C.length c2, T, C, dead⟩ d hd m hw hm hdd (2, comV c) (by show 0 < 2; decide) (by show 2 < 256; decide) (by rw [comV_ok h22']; exact encC_len h22')) rfl rfl sp0) ?_
          rintro v39 L1 ⟨rfl, rfl⟩
          rw [comV_ok h22']
          refine swl_app ?_
          dsimp only
          refine s_as rfl ?_
          refine swl_sub _ (sc0 0 rfl (sc0 3 rfl (sc0 7 rfl .nil))) ?_
          refine swl_nn ?_
          refine swp_seq ?_
          refine swp_sr ?_
          refine s_mv rfl ?_
          refine s_pu (pu_neq rfl rfl) ?_
          refine swl_sub _ (sc0 0 rfl (sc0 3 rfl (sc0 7 rfl (sc0 41 rfl .nil)))) ?_
          refine swl_nn ?_
          refine swp_cond (b := _) rfl (fun h41 => ?_) (fun h41 => ?_)
          · skip   -- 41 T
            refine swp_sr ?_
            refine s_mv rfl ?_
            refine s_as rfl ?_
            refine s_as rfl ?_
            refine swl_sub _ (sc0 4 rfl (sc0 5 rfl .nil)) ?_
            refine swl_nn ?_
            refine swp_ret ?_
            refine then_r ?_
            have h38' : (writeD d (2, encC' c)).2 ≠ 0 := by simpa using h41
            have ha : (⟨(writeD d (2, encC' c)).1, SW.pl ⟨q, .slice A1 T.length c1, .slice A2 C.length c2, T, C, dead⟩, decide ((writeD d (2, encC' c)).2 = 8)⟩, 0, (writeD d (2, encC' c)).2) = y := by rw [← hy]; exact (addR_wr (x := ⟨d, SW.pl ⟨q, .slice A1 T.length c1, .slice A2 C.length c2, T, C, dead⟩, dead⟩) hdd rfl h30' h38').symm
            subst ha
            exact done_ret [RDA q (writeD d (2, encC' c)).1, rsH p ⟨q, .slice A1 T.length c1, .slice A2 C.length c2, T, C, decide ((writeD d (2, encC' c)).2 = 8)⟩, ttA ⟨q, .slice A1 T.length c1, .slice A2 C.length c2, T, C, dead⟩, ccA ⟨q, .slice A1 T.length c1, .slice A2 C.length c2, T, C, dead⟩, ro μ] (.tmp rfl (.tmp rfl .nil)) ⟨⟨q, .slice A1 T.length c1, .slice A2 C.length c2, T, C, decide ((writeD d (2, encC' c)).2 = 8)⟩, μ, ⟨Le.refl _, SW.Ok.dead hW0 _, rfl, rfl, rfl, rfl⟩, rfl⟩ sp0
          · skip   -- 41 F
            have h38' : (writeD d (2, encC' c)).2 = 0 := by simpa using h41
            have ha : (⟨(writeD d (2, encC' c)).1, ((SW.pl ⟨q, .slice A1 T.length c1, .slice A2 C.length c2, T, C, dead⟩).1, (SW.pl ⟨q, .slice A1 T.length c1, .slice A2 C.length c2, T, C, dead⟩).2 ++ [c]), false⟩, ((C.length : Nat) : Int), 0) = y := by rw [← hy]; exact (addR_ok (x := ⟨d, SW.pl ⟨q, .slice A1 T.length c1, .slice A2 C.length c2, T, C, dead⟩, dead⟩) hdd rfl h30' h38').symm
            have hd8 : decide ((writeD d (2, encC' c)).2 = 8) = false := by rw [h38']; rfl
            rw [hd8]
            subst ha
            refine swp_skip ?_
            refine then_n ?_
            refine swp_seq ?_
            refine swp_draw [4, 7, 10] ([rsH p ⟨q, .slice A1 T.length c1, .slice A2 C.length c2, T, C, false⟩, blk b3 25 [.slice A5 c.1.length c5, .int .i64 c.2]]) ([RDA q (writeD d (2, encC' c)).1, ro μ, ttA ⟨q, .slice A1 T.length c1, .slice A2 C.length c2, T, C, dead⟩, ccA ⟨q, .slice A1 T.length c1, .slice A2 C.length c2, T, C, dead⟩]) (Split.ent sp0) kr0 ?_
            refine d_pu 0 rfl (pu_move rfl) kr0 kr0 kr0 ?_
            refine d_pu 1 rfl (pu_move rfl) kr0 kr0 kr0 ?_
            first | refine d_pu 2 rfl (pu_nilCheck rfl) kr0 kr0 kr0 ?_ | refine d_pu 2 rfl (pu_nilCheck_fn rfl) kr0 kr0 kr0 ?_ | refine d_pu 2 rfl (pu_nilCheck_if rfl) kr0 kr0 kr0 ?_
            first | refine d_pu 3 rfl (pu_fieldAddr0 rfl) kr0 kr0 kr0 ?_ | refine d_pu 3 rfl (pu_fieldAddr rfl) kr0 kr0 kr0 ?_
            refine d_rd 4 rfl (rd_load rfl rfl) rfl kr0 kr0 kr0 ?_
            first | refine d_pu 6 rfl (pu_fieldAddr0 rfl) kr0 kr0 kr0 ?_ | refine d_pu 6 rfl (pu_fieldAddr rfl) kr0 kr0 kr0 ?_
            refine d_rd 7 rfl (rd_load rfl rfl) rfl kr0 kr0 kr0 ?_
            first | refine d_pu 9 rfl (pu_fieldAddr0 rfl) kr0 kr0 kr0 ?_ | refine d_pu 9 rfl (pu_fieldAddr rfl) kr0 kr0 kr0 ?_
            refine d_rd 10 rfl (rd_load rfl rfl) rfl kr0 kr0 kr0 ?_
            refine d_eft 5 rfl kr0 (ef_bldS (qs := []) rfl rfl rfl) ?_
            intro b48
            refine ⟨_, Split.ent sp0, ?_⟩
            refine d_entx (own_empty (n := 1)) ?_
            refine d_eft 8 rfl kr0 (ef_append_ro hv rfl rfl sp0 (icsk_one _) (by simp only [maxLen]; omega) om0) ?_
            rintro v51 -
            rw [Nat.zero_add, List.nil_append]
            refine ⟨_, Split.ent sp0, ?_⟩
            refine swd_factt (p := ∃ A k, v51 = .slice A c.1.length k) (fun m h => own_form (show Sat (own 3 1 v51 c.1.length (c.1.flatMap (icsk .i64)) :: _) m from Sat.tail (A := blk b3 25 [.slice A5 c.1.length c5, .int .i64 c.2]) (Sat.tail (A := rsH p ⟨q, .slice A1 T.length c1, .slice A2 C.length c2, T, C, false⟩) h))) fun ⟨A3, c3, hv51⟩ => ?_
            subst hv51
            refine d_pu 11 rfl (pu_bld (qs := [(0, _), (1, _)]) rfl) kr0 kr0 kr0 ?_
            refine d_eft 12 rfl kr0 (ef_bldS (qs := [(0, _)]) rfl rfl rfl) ?_
            intro b55
            refine ⟨_, Split.ent sp0, ?_⟩
            first | refine d_fint 13 rfl kr0 kr0 (ef_append_lit (l := C.length) (m := 1) rfl rfl sp0 (by simp only [maxLen]; omega) om0) ?_ | refine d_finf 13 rfl kr0 kr0 (ef_append_lit (l := C.length) (m := 1) rfl rfl sp0 (by simp only [maxLen]; omega) om0) ?_
            rintro v56 -
            first | refine swd_factf (fun m h => own_form h) fun ⟨A45, c45, hv45⟩ => ?_ | refine swd_factt (fun m h => own_form h) fun ⟨A45, c45, hv45⟩ => ?_
            subst hv45
            first | refine d_pu 14 rfl (pu_nilCheck rfl) kr0 kr0 kr0 ?_ | refine d_pu 14 rfl (pu_nilCheck_fn rfl) kr0 kr0 kr0 ?_ | refine d_pu 14 rfl (pu_nilCheck_if rfl) kr0 kr0 kr0 ?_
            first | refine d_pu 15 rfl (pu_fieldAddr0 rfl) kr0 kr0 kr0 ?_ | refine d_pu 15 rfl (pu_fieldAddr rfl) kr0 kr0 kr0 ?_
            first | refine d_fin0t 16 rfl kr0 kr0 (ef_store rfl rfl rfl) ?_ | refine d_fin0f 16 rfl kr0 kr0 (ef_store rfl rfl rfl) ?_
            refine d_sub _ (sc0 0 rfl .nil) ?_
            first | refine d_nilt kr0 ?_ | refine d_nilf kr0 ?_
            refine then_n ?_
            refine swp_seq ?_
            refine swp_share_own (μ := μ) (v := .slice A3 c.1.length c3) (e := 3) (n := 1) sp0 fun μ' hle hrow => ?_
            refine swp_region ?_
            refine s_mv rfl ?_
            first | refine s_pu (pu_nilCheck rfl) ?_ | refine s_pu (pu_nilCheck_fn rfl) ?_ | refine s_pu (pu_nilCheck_if rfl) ?_
            first | refine s_pu (pu_fieldAddr0 rfl) ?_ | refine s_pu (pu_fieldAddr rfl) ?_
            refine s_rd (rd_load rfl rfl) ?_
            refine s_pu (pu_len rfl) ?_
            refine s_pu (pu_sub_as ((C.length : Nat) : Int) rfl rfl om0 om0 om0) ?_
            refine s_as rfl ?_
            refine s_as rfl ?_
            refine swl_sub _ (sc0 4 rfl (sc0 5 rfl .nil)) ?_
            refine swl_nn ?_
            refine swp_ret ?_
            refine done_ret [RDA q (writeD d (2, encC' c)).1, rsH p ⟨q, .slice A1 T.length c1, .slice A45 (C.length + 1) c45, T, C ++ [(.slice A3 c.1.length c3, c)], false⟩, ttA ⟨q, .slice A1 T.length c1, .slice A2 C.length c2, T, C, dead⟩, own 25 2 (.slice A45 (C.length + 1) c45) (C.length + 1) (C.flatMap ccs ++ [.slice A3 c.1.length c3, .int .i64 c.2]), ro μ'] (.tmp rfl (.tmp rfl .nil)) ⟨⟨q, .slice A1 T.length c1, .slice A45 (C.length + 1) c45, T, C ++ [(.slice A3 c.1.length c3, c)], false⟩, μ', ⟨hle, SW.Ok.dead (Ok.addC hW0 hle hrow h30') false, rfl, ?_, rfl, rfl⟩, ?_⟩ sp0
            · unfold SW.pl; rw [List.map_append]; rfl
            · simp only [ccA, List.length_append, List.length_singleton, List.flatMap_append]; rfl
    · skip   -- 19 F
      have h22' : checkC c ≠ 0 := of_decide_eq_false h19
      rw [if_pos h22'] at hy
      refine s_off rfl rfl rfl ?_
      refine s_off rfl rfl rfl ?_
      refine s_off rfl rfl rfl ?_
      refine s_off rfl rfl rfl ?_
      first | refine s_pu (pu_pick_t rfl rfl) ?_ | refine s_pu (pu_pick_f rfl rfl) ?_
      refine swl_sub _ (sc0 0 rfl (sc0 3 rfl (sc0 6 rfl (sc0 7 rfl (sc0 24 rfl .nil))))) ?_
      refine swl_nn ?_
      refine swp_cond (b := _) rfl (fun h24 => by cases h24) (fun h24 => ?_)
      refine swp_skip ?_
      refine then_n ?_
      refine swp_seq ?_
      refine swp_sr ?_
      refine s_mv rfl ?_
      refine s_pu (pu_eql rfl rfl) ?_
      refine s_mv rfl ?_
      refine s_split 27 rfl (fun h27 => by exact absurd (of_decide_eq_true h27) h22') (fun h27 => ?_)
      refine s_off rfl rfl rfl ?_
      refine s_off rfl rfl rfl ?_
      refine s_off rfl rfl rfl ?_
      refine s_off rfl rfl rfl ?_
      refine s_off rfl rfl rfl ?_
      refine s_off rfl rfl rfl ?_
      first | refine s_pu (pu_pick_t rfl rfl) ?_ | refine s_pu (pu_pick_f rfl rfl) ?_
      refine swl_sub _ (sc0 0 rfl (sc0 3 rfl (sc0 6 rfl (sc0 7 rfl (sc0 34 rfl .nil))))) ?_
      refine swl_nn ?_
      refine swp_cond (b := _) rfl (fun h34 => by cases h34) (fun h34 => ?_)
      refine swp_skip ?_
      refine then_n ?_
      refine swp_seq ?_
      refine swp_sr ?_
      refine s_mv rfl ?_
      refine s_pu (pu_eql rfl rfl) ?_
      refine swl_sub _ (sc0 0 rfl (sc0 3 rfl (sc0 6 rfl (sc0 7 rfl (sc0 36 rfl .nil))))) ?_
      refine swl_nn ?_
      refine swp_cond (b := _) rfl (fun h36 => by exact absurd (of_decide_eq_true h36) h22') (fun h36 => ?_)
      refine swp_skip ?_
      refine then_n ?_
      refine swp_seq ?_
      refine swp_sr ?_
      refine s_mv rfl ?_
      refine s_pu (pu_neq rfl rfl) ?_
      refine swl_sub _ (sc0 0 rfl (sc0 3 rfl (sc0 7 rfl (sc0 41 rfl .nil)))) ?_
      refine swl_nn ?_
      refine swp_cond (b := _) rfl (fun h41 => ?_) (fun h41 => by rw [decide_eq_false h22'] at h41; cases h41)
      refine swp_sr ?_
      refine s_mv rfl ?_
      refine s_as rfl ?_
      refine s_as rfl ?_
      refine swl_sub _ (sc0 4 rfl (sc0 5 rfl .nil)) ?_
      refine swl_nn ?_
      refine swp_ret ?_
      refine then_r ?_
      have ha : (⟨d, SW.pl ⟨q, .slice A1 T.length c1, .slice A2 C.length c2, T, C, dead⟩, dead⟩, 0, checkC c) = y := by rw [← hy]; exact (addR_err (x := ⟨d, SW.pl ⟨q, .slice A1 T.length c1, .slice A2 C.length c2, T, C, dead⟩, dead⟩) hdd h22').symm
      subst ha
      exact done_ret [RDA q d, rsH p ⟨q, .slice A1 T.length c1, .slice A2 C.length c2, T, C, dead⟩, ttA ⟨q, .slice A1 T.length c1, .slice A2 C.length c2, T, C, dead⟩, ccA ⟨q, .slice A1 T.length c1, .slice A2 C.length c2, T, C, dead⟩, ro μ] (.tmp rfl (.tmp rfl .nil)) ⟨⟨q, .slice A1 T.length c1, .slice A2 C.length c2, T, C, dead⟩, μ, ⟨Le.refl _, hW0, rfl, rfl, rfl, rfl⟩, rfl⟩ sp0
end SX
namespace SX
open Go Go.Proofs
set_option maxHeartbeats 2000000 in
theorem rtree_spec (p : Nat) (W : SW) (μ : PH) (hW : W.Ok μ) (n : Int) : Spec Tryz.prog 58 [pv p, .int .i64 n] [rsH p W, ttA W, ro μ] (fun r L => ∃ v, r = .tuple #[v, .int .i64 (treeAt W.pl.1 n).2] ∧ Row μ v 2 (treeAt W.pl.1 n).1.length (ens (treeAt W.pl.1 n).1) ∧ L = [rsH p W, ttA W, ro μ]) := by
  have hW0 := hW
  obtain ⟨⟨A1, c1, e1⟩, ⟨A2, c2, e2⟩, htr, hcr, hT, hC⟩ := hW
  obtain ⟨q, tv, cv, T, C, dead⟩ := W
  dsimp only at e1 e2 htr hcr hT hC
  subst e1 e2
  have hlen : (SW.pl ⟨q, .slice A1 T.length c1, .slice A2 C.length c2, T, C, dead⟩).1.length = T.length := List.length_map _
  refine Spec.of 24 Tryz.func58 rfl rfl rfl ?_
  refine swp_sr ?_
  refine s_as rfl ?_
  refine s_as rfl ?_
  refine swl_sub _ (sc0 0 rfl (sc0 1 rfl .nil)) ?_
  refine swl_nn ?_
  refine swp_seq ?_
  refine swp_sr ?_
  refine s_mv rfl ?_
  refine s_pu (pu_lss rfl rfl) ?_
  refine s_mv rfl ?_
  refine s_split 8 rfl (fun h8 => ?_) (fun h8 => ?_)
  · skip   -- 8 T
    have h12' : n < 0 := of_decide_eq_true h8
    rw [treeAt_no (.inl h12')]
    refine s_off rfl rfl rfl ?_
    refine s_off rfl rfl rfl ?_
    refine s_off rfl rfl rfl ?_
    refine s_off rfl rfl rfl ?_
    refine s_off rfl rfl rfl ?_
    refine s_off rfl rfl rfl ?_
    refine s_off rfl rfl rfl ?_
    first | refine s_pu (pu_pick_t rfl rfl) ?_ | refine s_pu (pu_pick_f rfl rfl) ?_
    refine swl_sub _ (sc0 0 rfl (sc0 1 rfl (sc0 16 rfl .nil))) ?_
    refine swl_nn ?_
    refine swp_cond (b := _) rfl (fun h16 => ?_) (fun h16 => by cases h16)
    refine swp_sr ?_
    refine s_as rfl ?_
    refine s_as rfl ?_
    refine swl_sub _ (sc0 4 rfl (sc0 5 rfl .nil)) ?_
    refine swl_nn ?_
    refine swp_ret ?_
    refine then_r ?_
    exact done_ret [rsH p ⟨q, .slice A1 T.length c1, .slice A2 C.length c2, T, C, dead⟩, ttA ⟨q, .slice A1 T.length c1, .slice A2 C.length c2, T, C, dead⟩, ro μ] (.tmp rfl (.tmp rfl .nil)) ⟨.slice none 0 0, rfl, Row.nil _ _, rfl⟩ sp0
  · skip   -- 8 F
    have h12' : 0 ≤ n := by have := of_decide_eq_false h8; omega
    refine s_on rfl rfl ?_
    refine s_mv rfl ?_
    refine s_on rfl rfl ?_
    refine s_mv rfl ?_
    refine s_on rfl rfl ?_
    first | refine s_pu (pu_nilCheck rfl) ?_ | refine s_pu (pu_nilCheck_fn rfl) ?_ | refine s_pu (pu_nilCheck_if rfl) ?_
    refine s_on rfl rfl ?_
    first | refine s_pu (pu_fieldAddr0 rfl) ?_ | refine s_pu (pu_fieldAddr rfl) ?_
    refine s_on rfl rfl ?_
    refine s_rd (rd_load rfl rfl) ?_
    refine s_on rfl rfl ?_
    refine s_pu (pu_len rfl) ?_
    refine s_on rfl rfl ?_
    refine s_pu (pu_geq rfl rfl) ?_
    first | refine s_pu (pu_pick_t rfl rfl) ?_ | refine s_pu (pu_pick_f rfl rfl) ?_
    refine swl_sub _ (sc0 0 rfl (sc0 1 rfl (sc0 16 rfl .nil))) ?_
    refine swl_nn ?_
    refine swp_cond (b := _) rfl (fun h16 => ?_) (fun h16 => ?_)
    · skip   -- 16 T
      refine swp_sr ?_
      refine s_as rfl ?_
      refine s_as rfl ?_
      refine swl_sub _ (sc0 4 rfl (sc0 5 rfl .nil)) ?_
      refine swl_nn ?_
      refine swp_ret ?_
      refine then_r ?_
      have h9' : (T.length : Int) ≤ n := of_decide_eq_true h16
      rw [treeAt_no (.inr (by rw [hlen]; exact h9'))]
      exact done_ret [rsH p ⟨q, .slice A1 T.length c1, .slice A2 C.length c2, T, C, dead⟩, ttA ⟨q, .slice A1 T.length c1, .slice A2 C.length c2, T, C, dead⟩, ro μ] (.tmp rfl (.tmp rfl .nil)) ⟨.slice none 0 0, rfl, Row.nil _ _, rfl⟩ sp0
    · skip   -- 16 F
      have h9' : ¬ (T.length : Int) ≤ n := of_decide_eq_false h16
      obtain ⟨k, rfl⟩ : ∃ k : Nat, n = (k : Int) := ⟨n.toNat, by omega⟩
      have hk : k < T.length := by omega
      obtain ⟨x, hx⟩ : ∃ x, T[k]? = some x := ⟨_, List.getElem?_eq_getElem hk⟩
      have hxt : (SW.pl ⟨q, .slice A1 T.length c1, .slice A2 C.length c2, T, C, dead⟩).1[k]? = some x.2 := by show (T.map (·.2))[k]? = _; rw [List.getElem?_map, hx]; rfl
      rw [treeAt_at hxt]
      have hxm := List.mem_of_getElem? hx
      have hxr := htr x hxm
      refine swp_fact (fun m h => own_shape (e := 22) (n := 1) (v := .slice A1 T.length c1) (l := T.length) (xs := T.flatMap tcs) tk0 h) fun hs => ?_
      obtain ⟨b, rfl⟩ : ∃ b, A1 = some ⟨b, 0, none⟩ := by
        rcases hs with ⟨_, h⟩ | ⟨b, cap, h, _⟩
        · omega
        · injection h with h1; exact ⟨b, h1⟩
      refine swp_skip ?_
      refine then_n ?_
      refine swp_sr ?_
      refine s_mv rfl ?_
      first | refine s_pu (pu_nilCheck rfl) ?_ | refine s_pu (pu_nilCheck_fn rfl) ?_ | refine s_pu (pu_nilCheck_if rfl) ?_
      first | refine s_pu (pu_fieldAddr0 rfl) ?_ | refine s_pu (pu_fieldAddr rfl) ?_
      refine s_rd (rd_load rfl rfl) ?_
      refine s_mv rfl ?_
      refine s_pu (pu_indexAddr (0 + k * 1) rfl rfl om0 om0 (by rw [Int.toNat_natCast])) ?_
      refine s_rd (rd_of_ld rfl (by rw [Nat.zero_add]; exact ld_ownN (e := 22) (n := 1) tk0 (tcs_get hx))) ?_
      refine s_as rfl ?_
      refine s_as rfl ?_
      refine swl_sub _ (sc0 4 rfl (sc0 5 rfl .nil)) ?_
      refine swl_nn ?_
      refine swp_ret ?_
      exact done_ret [rsH p ⟨q, .slice (some ⟨b, 0, none⟩) T.length c1, .slice A2 C.length c2, T, C, dead⟩, ttA ⟨q, .slice (some ⟨b, 0, none⟩) T.length c1, .slice A2 C.length c2, T, C, dead⟩, ro μ] (.tmp rfl (.tmp rfl .nil)) ⟨x.1, rfl, hxr, rfl⟩ sp0
set_option maxHeartbeats 2000000 in
theorem rcommit_spec (p : Nat) (W : SW) (μ : PH) (hW : W.Ok μ) (n : Int) : Spec Tryz.prog 59 [pv p, .int .i64 n] [rsH p W, ccA W, ro μ] (fun r L => ∃ v, r = .tuple #[cmV v (comAt W.pl.2 n).1.2, .int .i64 (comAt W.pl.2 n).2] ∧ Row μ v 1 (comAt W.pl.2 n).1.1.length ((comAt W.pl.2 n).1.1.flatMap (icsk .i64)) ∧ L = [rsH p W, ccA W, ro μ]) := by
  have hW0 := hW
  obtain ⟨⟨A1, c1, e1⟩, ⟨A2, c2, e2⟩, htr, hcr, hT, hC⟩ := hW
  obtain ⟨q, tv, cv, T, C, dead⟩ := W
  dsimp only at e1 e2 htr hcr hT hC
  subst e1 e2
  have hlen : (SW.pl ⟨q, .slice A1 T.length c1, .slice A2 C.length c2, T, C, dead⟩).2.length = C.length := List.length_map _
  refine Spec.of 25 Tryz.func59 rfl rfl rfl ?_
  refine swp_sr ?_
  refine s_ef (ef_alloc) ?_
  intro b4
  refine s_as rfl ?_
  refine swl_sub _ (sc0 0 rfl (sc0 1 rfl (sc0 4 rfl .nil))) ?_
  refine swl_nn ?_
  refine swp_seq ?_
  refine swp_sr ?_
  refine s_mv rfl ?_
  refine s_pu (pu_lss rfl rfl) ?_
  refine s_mv rfl ?_
  refine s_split 8 rfl (fun h8 => ?_) (fun h8 => ?_)
  · skip   -- 8 T
    have h12' : n < 0 := of_decide_eq_true h8
    rw [comAt_no (.inl h12')]
    refine s_off rfl rfl rfl ?_
    refine s_off rfl rfl rfl ?_
    refine s_off rfl rfl rfl ?_
    refine s_off rfl rfl rfl ?_
    refine s_off rfl rfl rfl ?_
    refine s_off rfl rfl rfl ?_
    refine s_off rfl rfl rfl ?_
    first | refine s_pu (pu_pick_t rfl rfl) ?_ | refine s_pu (pu_pick_f rfl rfl) ?_
    refine swl_sub _ (sc0 0 rfl (sc0 1 rfl (sc0 4 rfl (sc0 16 rfl .nil)))) ?_
    refine swl_nn ?_
    refine swp_cond (b := _) rfl (fun h16 => ?_) (fun h16 => by cases h16)
    refine swp_sr ?_
    refine s_pu (pu_bld (qs := []) rfl) ?_
    refine s_ef0 (ef_storeA rfl rfl rfl rfl) ?_
    refine s_as rfl ?_
    refine swl_sub _ (sc0 4 rfl (sc0 5 rfl .nil)) ?_
    refine swl_nn ?_
    refine swp_ret ?_
    refine then_r ?_
    exact done_ret [rsH p ⟨q, .slice A1 T.length c1, .slice A2 C.length c2, T, C, dead⟩, ccA ⟨q, .slice A1 T.length c1, .slice A2 C.length c2, T, C, dead⟩, ro μ] (.cell rfl (ld_whole rfl) (.tmp rfl .nil)) ⟨.slice none 0 0, rfl, Row.nil _ _, rfl⟩ sp0
  · skip   -- 8 F
    have h12' : 0 ≤ n := by have := of_decide_eq_false h8; omega
    refine s_on rfl rfl ?_
    refine s_mv rfl ?_
    refine s_on rfl rfl ?_
    refine s_mv rfl ?_
    refine s_on rfl rfl ?_
    first | refine s_pu (pu_nilCheck rfl) ?_ | refine s_pu (pu_nilCheck_fn rfl) ?_ | refine s_pu (pu_nilCheck_if rfl) ?_
    refine s_on rfl rfl ?_
    first | refine s_pu (pu_fieldAddr0 rfl) ?_ | refine s_pu (pu_fieldAddr rfl) ?_
    refine s_on rfl rfl ?_
    refine s_rd (rd_load rfl rfl) ?_
    refine s_on rfl rfl ?_
    refine s_pu (pu_len rfl) ?_
    refine s_on rfl rfl ?_
    refine s_pu (pu_geq rfl rfl) ?_
    first | refine s_pu (pu_pick_t rfl rfl) ?_ | refine s_pu (pu_pick_f rfl rfl) ?_
    refine swl_sub _ (sc0 0 rfl (sc0 1 rfl (sc0 4 rfl (sc0 16 rfl .nil)))) ?_
    refine swl_nn ?_
    refine swp_cond (b := _) rfl (fun h16 => ?_) (fun h16 => ?_)
    · skip   -- 16 T
      refine swp_sr ?_
      refine s_pu (pu_bld (qs := []) rfl) ?_
      refine s_ef0 (ef_storeA rfl rfl rfl rfl) ?_
      refine s_as rfl ?_
      refine swl_sub _ (sc0 4 rfl (sc0 5 rfl .nil)) ?_
      refine swl_nn ?_
      refine swp_ret ?_
      refine then_r ?_
      have h9' : (C.length : Int) ≤ n := of_decide_eq_true h16
      rw [comAt_no (.inr (by rw [hlen]; exact h9'))]
      exact done_ret [rsH p ⟨q, .slice A1 T.length c1, .slice A2 C.length c2, T, C, dead⟩, ccA ⟨q, .slice A1 T.length c1, .slice A2 C.length c2, T, C, dead⟩, ro μ] (.cell rfl (ld_whole rfl) (.tmp rfl .nil)) ⟨.slice none 0 0, rfl, Row.nil _ _, rfl⟩ sp0
    · skip   -- 16 F
      have h9' : ¬ (C.length : Int) ≤ n := of_decide_eq_false h16
      obtain ⟨k, rfl⟩ : ∃ k : Nat, n = (k : Int) := ⟨n.toNat, by omega⟩
      have hk : k < C.length := by omega
      obtain ⟨x, hx⟩ : ∃ x, C[k]? = some x := ⟨_, List.getElem?_eq_getElem hk⟩
      have hxt : (SW.pl ⟨q, .slice A1 T.length c1, .slice A2 C.length c2, T, C, dead⟩).2[k]? = some x.2 := by show (C.map (·.2))[k]? = _; rw [List.getElem?_map, hx]; rfl
      rw [comAt_at hxt]
      have hxm := List.mem_of_getElem? hx
      have hxr := hcr x hxm
      obtain ⟨A6, c6, hx1⟩ := hxr.sl
      have hrow := ccs_row hx
      rw [hx1] at hrow hxr
      refine swp_fact (fun m h => own_shape (e := 25) (n := 2) (v := .slice A2 C.length c2) (l := C.length) (xs := C.flatMap ccs) tk0 h) fun hs => ?_
      obtain ⟨b, rfl⟩ : ∃ b, A2 = some ⟨b, 0, none⟩ := by
        rcases hs with ⟨_, h⟩ | ⟨b, cap, h, _⟩
        · omega
        · injection h with h1; exact ⟨b, h1⟩
      refine swp_skip ?_
      refine then_n ?_
      refine swp_sr ?_
      refine s_mv rfl ?_
      first | refine s_pu (pu_nilCheck rfl) ?_ | refine s_pu (pu_nilCheck_fn rfl) ?_ | refine s_pu (pu_nilCheck_if rfl) ?_
      first | refine s_pu (pu_fieldAddr0 rfl) ?_ | refine s_pu (pu_fieldAddr rfl) ?_
      refine s_rd (rd_load rfl rfl) ?_
      refine s_mv rfl ?_
      refine s_pu (pu_indexAddr (0 + k * 2) rfl rfl om0 om0 (by rw [Int.toNat_natCast])) ?_
      refine s_rd (rd_of_ld rfl (ld_ownA (e := 25) (n := 2) (vs := [.slice A6 x.2.1.length c6, .int .i64 x.2.2]) tk0 rfl hrow)) ?_
      refine s_ef0 (ef_storeA rfl rfl rfl rfl) ?_
      refine s_as rfl ?_
      refine swl_sub _ (sc0 4 rfl (sc0 5 rfl .nil)) ?_
      refine swl_nn ?_
      refine swp_ret ?_
      exact done_ret [rsH p ⟨q, .slice A1 T.length c1, .slice (some ⟨b, 0, none⟩) C.length c2, T, C, dead⟩, ccA ⟨q, .slice A1 T.length c1, .slice (some ⟨b, 0, none⟩) C.length c2, T, C, dead⟩, ro μ] (.cell rfl (ld_whole rfl) (.tmp rfl .nil)) ⟨.slice A6 x.2.1.length c6, rfl, hxr, rfl⟩ sp0
theorem samel_spec (μ : PH) (u v : Value) (xs ys : List Int) (hu : Row μ u 1 xs.length (xs.flatMap (icsk .i64))) (hv : Row μ v 1 ys.length (ys.flatMap (icsk .i64))) : Spec Tryz.prog 55 [u, v] [ro μ] (fun r L => r = .bool (decide (xs = ys)) ∧ L = [ro μ]) := by
  have hs1 := hu.small
  have hs2 := hv.small
  refine Spec.of 26 Tryz.func55 rfl rfl rfl ?_
  refine swp_sr ?_
  refine s_as rfl ?_
  refine swl_sub _ (sc0 0 rfl (sc0 1 rfl .nil)) ?_
  refine swl_nn ?_
  refine swp_seq ?_
  refine swp_sr ?_
  refine s_mv rfl ?_
  refine s_pu (pu_len_row hu rfl) ?_
  refine s_mv rfl ?_
  refine s_pu (pu_len_row hv rfl) ?_
  refine s_pu (pu_neq rfl rfl) ?_
  refine swl_sub _ (sc0 0 rfl (sc0 1 rfl (sc0 10 rfl .nil))) ?_
  refine swl_nn ?_
  refine swp_cond (b := _) rfl (fun h10 => ?_) (fun h10 => ?_)
  · skip   -- 10 T
    refine swp_sr ?_
    refine s_as rfl ?_
    refine swl_sub _ (sc0 4 rfl .nil) ?_
    refine swl_nn ?_
    refine swp_ret ?_
    refine then_r ?_
    simp only [Bool.not_eq_true', decide_eq_false_iff_not] at h10
    exact done_ret [ro μ] (.tmp rfl .nil) ⟨by rw [decide_eq_false (fun e => h10 (by rw [e]))]; rfl, rfl⟩ sp0
  · skip   -- 10 F
    refine swp_skip ?_
    refine then_n ?_
    refine swp_seq ?_
    refine swp_sr ?_
    refine s_as rfl ?_
    refine swl_sub _ (sc0 0 rfl (sc0 1 rfl (sc0 5 rfl .nil))) ?_
    refine swl_nn ?_
    refine swp_block ?_
    have hlen : xs.length = ys.length := by
      simp only [Bool.not_eq_false', decide_eq_true_eq] at h10; omega
    refine swp_loop (ι := Nat) (fun i env L => Sub env [(0, u), (1, v), (5, .int .i64 (i : Nat))] ∧ L = [ro μ] ∧ i ≤ xs.length ∧ ∀ j, j < i → xs[j]? = ys[j]?) (fun i => xs.length - i) 0 ⟨⟨rfl, rfl, rfl, trivial⟩, rfl, Nat.zero_le _, fun j h => by omega⟩ ?_
    rintro i env L ⟨hsub, rfl, hi, hlo⟩
    refine swp_sub _ hsub ?_
    clear hsub env
    refine swp_seq ?_
    refine swp_sr ?_
    refine s_mv rfl ?_
    refine s_mv rfl ?_
    refine s_pu (pu_len_row hu rfl) ?_
    refine s_pu (pu_lss rfl rfl) ?_
    refine swl_sub _ (sc0 0 rfl (sc0 1 rfl (sc0 5 rfl (sc0 14 rfl .nil)))) ?_
    refine swl_nn ?_
    refine swp_cond (b := _) rfl (fun h14 => ?_) (fun h14 => ?_)
    · skip   -- 14 T
      have h14' : i < xs.length := by have := of_decide_eq_true h14; omega
      obtain ⟨x, hx⟩ : ∃ x, xs[i]? = some x := ⟨_, List.getElem?_eq_getElem h14'⟩
      obtain ⟨y, hy⟩ : ∃ y, ys[i]? = some y := ⟨_, List.getElem?_eq_getElem om0⟩
      obtain ⟨ab, ao, ac, hav, hxl⟩ := int_at hu hx
      obtain ⟨bb, bo, bc, hbv, hyl⟩ := int_at hv hy
      refine swp_skip ?_
      refine then_n ?_
      refine swp_seq ?_
      refine swp_block ?_
      refine swp_seq ?_
      refine swp_draw [3, 7] _ [] (by simp only [List.append_nil]; exact Ent.refl _) kr0 ?_
      refine d_pu 0 rfl (pu_move rfl) kr0 kr0 kr0 ?_
      refine d_pu 1 rfl (pu_move rfl) kr0 kr0 kr0 ?_
      refine d_pu 2 rfl (pu_indexAddr (ao + i * 1) (congrArg some hav) rfl om0 om0 (by rw [Int.toNat_natCast])) kr0 kr0 kr0 ?_
      refine d_rd 3 rfl (rd_ro rfl hxl) rfl kr0 kr0 kr0 ?_
      refine d_pu 4 rfl (pu_move rfl) kr0 kr0 kr0 ?_
      refine d_pu 5 rfl (pu_move rfl) kr0 kr0 kr0 ?_
      refine d_pu 6 rfl (pu_indexAddr (bo + i * 1) (congrArg some hbv) rfl om0 om0 (by rw [Int.toNat_natCast])) kr0 kr0 kr0 ?_
      refine d_rd 7 rfl (rd_ro rfl hyl) rfl kr0 kr0 kr0 ?_
      refine d_pu 8 rfl (pu_neq rfl rfl) kr0 kr0 kr0 ?_
      refine d_sub _ (sc0 0 rfl (sc0 1 rfl (sc0 5 rfl (sc0 25 rfl .nil)))) ?_
      first | refine d_nilt kr0 ?_ | refine d_nilf kr0 ?_
      refine then_n ?_
      refine swp_cond (b := _) rfl (fun h25 => ?_) (fun h25 => ?_)
      · skip   -- 25 T
        refine swp_sr ?_
        refine s_as rfl ?_
        refine swl_sub _ (sc0 4 rfl .nil) ?_
        refine swl_nn ?_
        refine swp_ret ?_
        refine block_r ?_
        refine then_r ?_
        refine then_r ?_
        refine block_r ?_
        refine then_r ?_
        simp only [Bool.not_eq_true', decide_eq_false_iff_not] at h25
        exact done_ret [ro μ] (.tmp rfl .nil) ⟨by rw [decide_eq_false (fun e => h25 (by subst e; rw [hx] at hy; exact Option.some.inj hy))]; rfl, rfl⟩ sp0
      · skip   -- 25 F
        refine swp_skip ?_
        refine block_n ?_
        refine then_n ?_
        refine swp_region ?_
        refine s_mv rfl ?_
        refine s_pu (pu_add_as ((i + 1 : Nat) : Int) rfl rfl om0 om0 om0) ?_
        refine s_as rfl ?_
        refine swl_sub _ (sc0 0 rfl (sc0 1 rfl (sc0 5 rfl .nil))) ?_
        refine swl_nil ?_
        simp only [Bool.not_eq_false', decide_eq_true_eq] at h25
        exact then_n ⟨i + 1, ⟨⟨rfl, rfl, rfl, trivial⟩, rfl, h14', fun j hj => by
          by_cases e : j = i
          · subst e; rw [hx, hy, h25]
          · exact hlo j om0⟩, by omega⟩
    · skip   -- 14 F
      have h14' := of_decide_eq_false h14
      obtain rfl : i = xs.length := by omega
      refine swp_exit ?_
      refine then_x ?_
      refine then_x ?_
      refine block_hit rfl ?_
      refine then_n ?_
      refine swp_sr ?_
      refine s_as rfl ?_
      refine swl_sub _ (sc0 4 rfl .nil) ?_
      refine swl_nn ?_
      refine swp_ret ?_
      exact done_ret [ro μ] (.tmp rfl .nil) ⟨by rw [decide_eq_true (List.ext_getElem? fun j => by
        by_cases hj : j < xs.length
        · exact hlo j hj
        · rw [List.getElem?_eq_none om0, List.getElem?_eq_none om0])]; rfl, rfl⟩ sp0
theorem samec_spec (μ : PH) (u v : Value) (a c : Cm) (hu : Row μ u 1 a.1.length (a.1.flatMap (icsk .i64))) (hv : Row μ v 1 c.1.length (c.1.flatMap (icsk .i64))) : Spec Tryz.prog 17 [cmV u a.2, cmV v c.2] [ro μ] (fun r L => r = .bool (decide (a = c)) ∧ L = [ro μ]) := by
  obtain ⟨U, cu, hU⟩ := hu.sl
  obtain ⟨V, cw, hV⟩ := hv.sl
  subst hU hV
  refine Spec.of 17 Tryz.func17 rfl rfl rfl ?_
  refine swp_sr ?_
  refine s_ef (ef_box rfl rfl) ?_
  intro b2
  refine s_ef (ef_box rfl rfl) ?_
  intro b3
  refine s_as rfl ?_
  refine swl_sub _ (sc0 2 rfl (sc0 3 rfl .nil)) ?_
  refine swl_nn ?_
  refine swp_sr ?_
  first | refine s_pu (pu_fieldAddr0 rfl) ?_ | refine s_pu (pu_fieldAddr rfl) ?_
  refine s_rd (rd_load rfl rfl) ?_
  first | refine s_pu (pu_fieldAddr0 rfl) ?_ | refine s_pu (pu_fieldAddr rfl) ?_
  refine s_rd (rd_load rfl rfl) ?_
  refine s_pu (pu_eql rfl rfl) ?_
  refine s_mv rfl ?_
  refine s_split 10 rfl (fun h10 => ?_) (fun h10 => ?_)
  · skip   -- 10 T
    have h10' : a.2 = c.2 := of_decide_eq_true h10
    refine s_on rfl rfl ?_
    first | refine s_pu (pu_fieldAddr0 rfl) ?_ | refine s_pu (pu_fieldAddr rfl) ?_
    refine s_on rfl rfl ?_
    refine s_rd (rd_load rfl rfl) ?_
    refine s_on rfl rfl ?_
    first | refine s_pu (pu_fieldAddr0 rfl) ?_ | refine s_pu (pu_fieldAddr rfl) ?_
    refine s_on rfl rfl ?_
    refine s_rd (rd_load rfl rfl) ?_
    refine s_on rfl rfl ?_
    refine s_ef (ef_fn (samel_spec μ (.slice U a.1.length cu) (.slice V c.1.length cw) a.1 c.1 hu hv) rfl rfl sp0) ?_
    rintro v15 L1 ⟨rfl, rfl⟩
    refine swl_app ?_
    first | refine s_pu (pu_pick_t rfl rfl) ?_ | refine s_pu (pu_pick_f rfl rfl) ?_
    refine s_as rfl ?_
    refine swl_sub _ (sc0 4 rfl .nil) ?_
    refine swl_nn ?_
    refine swp_ret ?_
    refine done_ret [ro μ] (.tmp rfl .nil) ⟨?_, rfl⟩ sp0
    by_cases e : a.1 = c.1
    · rw [decide_eq_true e, decide_eq_true (Prod.ext e h10')]; rfl
    · rw [decide_eq_false e, decide_eq_false (fun k => e (congrArg Prod.fst k))]; rfl
  · skip   -- 10 F
    refine s_off rfl rfl rfl ?_
    refine s_off rfl rfl rfl ?_
    refine s_off rfl rfl rfl ?_
    refine s_off rfl rfl rfl ?_
    refine s_off rfl rfl rfl ?_
    first | refine s_pu (pu_pick_t rfl rfl) ?_ | refine s_pu (pu_pick_f rfl rfl) ?_
    refine s_as rfl ?_
    refine swl_sub _ (sc0 4 rfl .nil) ?_
    refine swl_nn ?_
    refine swp_ret ?_
    have h10' : ¬ a.2 = c.2 := of_decide_eq_false h10
    refine done_ret [ro μ] (.tmp rfl .nil) ⟨?_, rfl⟩ sp0
    rw [decide_eq_false (fun k => h10' (congrArg Prod.snd k))]; rfl
end SX
namespace SX
open Go Go.Proofs
set_option maxHeartbeats 2000000 in
theorem rgraph_spec (p : Nat) (W : SW) (μ : PH) (hW : W.Ok μ) (hlt : ∀ x ∈ W.C, x.2.1.length ≤ 1048576) : Spec Tryz.prog 57 [pv p] [rsH p W, ccA W, ro μ] (fun r L => ∃ μ' G, Le μ μ' ∧ Graph μ' r G ∧ nums G = parS W.pl ∧ L = [rsH p W, ccA W, ro μ']) := by
  have hW0 := hW
  obtain ⟨⟨A1, c1, e1⟩, ⟨A2, c2, e2⟩, htr, hcr, hT, hC⟩ := hW
  obtain ⟨q, tv, cv, T, C, dead⟩ := W
  dsimp only at e1 e2 htr hcr hT hC hlt
  subst e1 e2
  refine Spec.of 28 Tryz.func57 rfl rfl rfl ?_
  refine swp_sr ?_
  refine s_as rfl ?_
  refine swl_sub _ (sc0 0 rfl .nil) ?_
  refine swl_nn ?_
  refine swp_sr ?_
  refine s_as rfl ?_
  refine swl_sub _ (sc0 0 rfl (sc0 3 rfl .nil)) ?_
  refine swl_nn ?_
  refine swp_seq ?_
  refine swp_sr ?_
  refine s_as rfl ?_
  refine swl_sub _ (sc0 0 rfl (sc0 3 rfl (sc0 4 rfl .nil))) ?_
  refine swl_nn ?_
  refine swp_block ?_
  refine swp_ent (own_nil_ent (e := 23) (n := 1)) ?_
  refine swp_loop (ι := Nat × Value × List (Value × List Int) × PH) (fun k env L => Sub env [(0, pv p), (3, k.2.1), (4, .int .i64 (k.1 : Nat))] ∧ Ent L [own 23 1 k.2.1 k.1 (k.2.2.1.flatMap gcs), rsH p ⟨q, .slice A1 T.length c1, .slice A2 C.length c2, T, C, dead⟩, ccA ⟨q, .slice A1 T.length c1, .slice A2 C.length c2, T, C, dead⟩, ro k.2.2.2] ∧ k.1 ≤ C.length ∧ Le μ k.2.2.2 ∧ nums k.2.2.1 = ((C.take k.1).map (·.2)).map (·.1) ∧ (∀ x ∈ k.2.2.1, Row k.2.2.2 x.1 1 x.2.length (x.2.flatMap (icsk .i64)))) (fun k => C.length - k.1) (0, .slice none 0 0, [], μ) ⟨⟨rfl, rfl, rfl, trivial⟩, by show Ent _ [own 23 1 (.slice none 0 0) 0 [], rsH p ⟨q, .slice A1 T.length c1, .slice A2 C.length c2, T, C, dead⟩, ccA ⟨q, .slice A1 T.length c1, .slice A2 C.length c2, T, C, dead⟩, ro μ]; exact Split.ent' sp0, Nat.zero_le _, Le.refl _, rfl, fun x hx => (by cases hx)⟩ ?_
  rintro ⟨k, v3, Gk, μk⟩ env L ⟨hsub, hE, hk, hle, hnk, hrk⟩
  dsimp only at hsub hE hk hle hnk hrk ⊢
  refine swp_sub _ hsub ?_
  refine swp_ent hE ?_
  clear hsub hE env L
  refine swp_seq ?_
  refine swp_sr ?_
  refine s_mv rfl ?_
  refine s_mv rfl ?_
  first | refine s_pu (pu_nilCheck rfl) ?_ | refine s_pu (pu_nilCheck_fn rfl) ?_ | refine s_pu (pu_nilCheck_if rfl) ?_
  first | refine s_pu (pu_fieldAddr0 rfl) ?_ | refine s_pu (pu_fieldAddr rfl) ?_
  refine s_rd (rd_load rfl rfl) ?_
  refine s_pu (pu_len rfl) ?_
  refine s_pu (pu_lss rfl rfl) ?_
  refine swl_sub _ (sc0 0 rfl (sc0 3 rfl (sc0 4 rfl (sc0 11 rfl .nil)))) ?_
  refine swl_nn ?_
  refine swp_cond (b := _) rfl (fun h11 => ?_) (fun h11 => ?_)
  · skip   -- 11 T
    have h8' : k < C.length := by have := of_decide_eq_true h11; omega
    obtain ⟨x, hx⟩ : ∃ x, C[k]? = some x := ⟨_, List.getElem?_eq_getElem h8'⟩
    have hxm := List.mem_of_getElem? hx
    have hxr := (hcr x hxm).le hle
    have hlx := hlt x hxm
    have hx0 := (ccs_get hx).1
    refine swp_fact (fun m h => own_shape (e := 25) (n := 2) (v := .slice A2 C.length c2) (l := C.length) (xs := C.flatMap ccs) tk0 h) fun hs => ?_
    obtain ⟨b, hA2⟩ : ∃ b, A2 = some ⟨b, 0, none⟩ := by
      rcases hs with ⟨_, h⟩ | ⟨b, cap, h, _⟩
      · omega
      · injection h with h1; exact ⟨b, h1⟩
    rw [hA2]
    refine swp_skip ?_
    refine then_n ?_
    refine swp_seq ?_
    refine swp_block ?_
    refine swp_region ?_
    refine s_mv rfl ?_
    refine s_ef (ef_bldS (qs := []) rfl rfl rfl) ?_
    intro b15
    refine swl_ent (own_empty (n := 1)) ?_
    refine s_mv rfl ?_
    first | refine s_pu (pu_nilCheck rfl) ?_ | refine s_pu (pu_nilCheck_fn rfl) ?_ | refine s_pu (pu_nilCheck_if rfl) ?_
    first | refine s_pu (pu_fieldAddr0 rfl) ?_ | refine s_pu (pu_fieldAddr rfl) ?_
    refine s_rd (rd_load rfl rfl) ?_
    refine s_mv rfl ?_
    refine s_pu (pu_indexAddr (0 + k * 2) rfl rfl om0 om0 (by rw [Int.toNat_natCast])) ?_
    first | refine s_pu (pu_fieldAddr0 rfl) ?_ | refine s_pu (pu_fieldAddr rfl) ?_
    refine s_rd (rd_of_ld rfl (by rw [Nat.zero_add]; exact ld_ownN (e := 25) (n := 2) tk0 hx0)) ?_
    refine s_ef (ef_append_ro hxr rfl rfl sp0 (icsk_one _) (by simp only [maxLen]; omega) om0) ?_
    rintro v24 -
    rw [Nat.zero_add x.2.1.length, List.nil_append]
    refine swl_fact (fun m h => own_form h) fun ⟨A3, c3, hv3⟩ => ?_
    subst hv3
    refine s_ef (ef_bldS (qs := [(0, _)]) rfl rfl rfl) ?_
    intro b25
    refine s_ef (ef_append_lit (l := k) (m := 1) rfl rfl sp0 (by simp only [maxLen]; omega) om0) ?_
    rintro v26 -
    skip
    refine s_as rfl ?_
    refine swl_sub _ (sc0 0 rfl (sc0 3 rfl (sc0 4 rfl .nil))) ?_
    rw [← hA2]
    refine swl_share_own (μ := μk) (v := .slice A3 x.2.1.length c3) (e := 3) (n := 1) sp0 fun μ' hle' hrow' => ?_
    refine swl_nil ?_
    refine block_n ?_
    refine then_n ?_
    refine swp_region ?_
    refine s_mv rfl ?_
    refine s_pu (pu_add_as ((k + 1 : Nat) : Int) rfl rfl om0 om0 om0) ?_
    refine s_as rfl ?_
    refine swl_sub _ (sc0 0 rfl (sc0 3 rfl (sc0 4 rfl .nil))) ?_
    refine swl_nil ?_
    refine then_n ⟨(k + 1, v26, Gk ++ [(.slice A3 x.2.1.length c3, x.2.1)], μ'), ⟨⟨rfl, rfl, rfl, trivial⟩, ?_, h8', hle.trans hle', ?_, fun y hy => ?_⟩, by show C.length - (k + 1) < C.length - k; omega⟩
    · show Ent _ [own 23 1 v26 (k + 1) ((Gk ++ [(Value.slice A3 x.2.1.length c3, x.2.1)]).flatMap gcs), rsH p ⟨q, .slice A1 T.length c1, .slice A2 C.length c2, T, C, dead⟩, ccA ⟨q, .slice A1 T.length c1, .slice A2 C.length c2, T, C, dead⟩, ro μ']
      rw [show (Gk ++ [(Value.slice A3 x.2.1.length c3, x.2.1)]).flatMap gcs = Gk.flatMap gcs ++ [Value.slice A3 x.2.1.length c3] by rw [List.flatMap_append]; rfl]
      exact Split.ent' sp0
    · show List.map (·.2) (Gk ++ [((_ : Value), x.2.1)]) = ((C.take (k + 1)).map (·.2)).map (·.1)
      rw [List.map_append, List.take_add_one, hx, List.map_append, List.map_append, ← hnk]; rfl
    · rcases List.mem_append.1 hy with hy | hy
      · exact (hrk y hy).le hle'
      · obtain rfl : y = (Value.slice A3 x.2.1.length c3, x.2.1) := by simpa using hy
        exact hrow'
  · skip   -- 11 F
    have h8' := of_decide_eq_false h11
    obtain rfl : k = C.length := by omega
    rw [List.take_length] at hnk
    refine swp_exit ?_
    refine then_x ?_
    refine then_x ?_
    refine block_hit rfl ?_
    refine then_n ?_
    refine swp_seq ?_
    refine swp_share_own (μ := μk) (v := v3) (e := 23) (n := 1) sp0 fun μ' hle' hrow' => ?_
    refine swp_region ?_
    refine s_mv rfl ?_
    refine s_as rfl ?_
    refine swl_sub _ (sc0 2 rfl .nil) ?_
    refine swl_nn ?_
    refine swp_ret ?_
    have hGl : C.length = Gk.length := by
      have := congrArg List.length hnk
      simp only [nums, List.length_map] at this
      exact this.symm
    rw [hGl] at hrow'
    exact done_ret [rsH p ⟨q, .slice A1 T.length c1, .slice A2 C.length c2, T, C, dead⟩, ccA ⟨q, .slice A1 T.length c1, .slice A2 C.length c2, T, C, dead⟩, ro μ'] (.tmp rfl .nil) ⟨μ', Gk, hle.trans hle', ⟨hrow', fun x hx => (hrk x hx).le hle'⟩, hnk, rfl⟩ sp0
theorem gr_at {μ : PH} {v : Value} {G : List (Value × List Int)} (h : Graph μ v G) {i : Nat} {x : Value × List Int} (hi : G[i]? = some x) : ∃ b off cap, v = .slice (some ⟨b, off, none⟩) G.length cap ∧ CellAt μ b (off + i * 1) x.1 ∧ Row μ x.1 1 x.2.length (x.2.flatMap (icsk .i64)) ∧ (nums G)[i]? = some x.2 := by
  have hl := (List.getElem?_eq_some_iff.1 hi).1
  obtain ⟨b, off, cap, hv, _, _, hr⟩ := h.1.pos om0
  refine ⟨b, off, cap, hv, (hr.elem (f := gcs) (n := 1) (fun _ => rfl) hi).cell, h.2 x (List.mem_of_getElem? hi), ?_⟩
  show (G.map (·.2))[i]? = _
  rw [List.getElem?_map, hi]; rfl
theorem sameg_spec (μ : PH) (u v : Value) (Ga Gb : List (Value × List Int)) (hu : Graph μ u Ga) (hv : Graph μ v Gb) : Spec Tryz.prog 56 [u, v] [ro μ] (fun r L => r = .bool (decide (nums Ga = nums Gb)) ∧ L = [ro μ]) := by
  have hs1 := hu.1.small
  have hs2 := hv.1.small
  have hla : (nums Ga).length = Ga.length := List.length_map _
  have hlb : (nums Gb).length = Gb.length := List.length_map _
  refine Spec.of 27 Tryz.func56 rfl rfl rfl ?_
  refine swp_sr ?_
  refine s_as rfl ?_
  refine swl_sub _ (sc0 0 rfl (sc0 1 rfl .nil)) ?_
  refine swl_nn ?_
  refine swp_seq ?_
  refine swp_sr ?_
  refine s_mv rfl ?_
  refine s_pu (pu_len_row hu.1 rfl) ?_
  refine s_mv rfl ?_
  refine s_pu (pu_len_row hv.1 rfl) ?_
  refine s_pu (pu_neq rfl rfl) ?_
  refine swl_sub _ (sc0 0 rfl (sc0 1 rfl (sc0 10 rfl .nil))) ?_
  refine swl_nn ?_
  refine swp_cond (b := _) rfl (fun h10 => ?_) (fun h10 => ?_)
  · skip   -- 10 T
    refine swp_sr ?_
    refine s_as rfl ?_
    refine swl_sub _ (sc0 4 rfl .nil) ?_
    refine swl_nn ?_
    refine swp_ret ?_
    refine then_r ?_
    simp only [Bool.not_eq_true', decide_eq_false_iff_not] at h10
    exact done_ret [ro μ] (.tmp rfl .nil) ⟨by rw [decide_eq_false (fun e => h10 (by rw [← hla, ← hlb, e]))]; rfl, rfl⟩ sp0
  · skip   -- 10 F
    refine swp_skip ?_
    refine then_n ?_
    refine swp_seq ?_
    refine swp_sr ?_
    refine s_as rfl ?_
    refine swl_sub _ (sc0 0 rfl (sc0 1 rfl (sc0 5 rfl .nil))) ?_
    refine swl_nn ?_
    refine swp_block ?_
    have hlen : Ga.length = Gb.length := by
      simp only [Bool.not_eq_false', decide_eq_true_eq] at h10; omega
    refine swp_loop (ι := Nat) (fun i env L => Sub env [(0, u), (1, v), (5, .int .i64 (i : Nat))] ∧ L = [ro μ] ∧ i ≤ Ga.length ∧ ∀ j, j < i → (nums Ga)[j]? = (nums Gb)[j]?) (fun i => Ga.length - i) 0 ⟨⟨rfl, rfl, rfl, trivial⟩, rfl, Nat.zero_le _, fun j h => by omega⟩ ?_
    rintro i env L ⟨hsub, rfl, hi, hlo⟩
    refine swp_sub _ hsub ?_
    clear hsub env
    refine swp_seq ?_
    refine swp_sr ?_
    refine s_mv rfl ?_
    refine s_mv rfl ?_
    refine s_pu (pu_len_row hu.1 rfl) ?_
    refine s_pu (pu_lss rfl rfl) ?_
    refine swl_sub _ (sc0 0 rfl (sc0 1 rfl (sc0 5 rfl (sc0 14 rfl .nil)))) ?_
    refine swl_nn ?_
    refine swp_cond (b := _) rfl (fun h14 => ?_) (fun h14 => ?_)
    · skip   -- 14 T
      have h14' : i < Ga.length := by have := of_decide_eq_true h14; omega
      obtain ⟨x, hx⟩ : ∃ x, Ga[i]? = some x := ⟨_, List.getElem?_eq_getElem h14'⟩
      obtain ⟨y, hy⟩ : ∃ y, Gb[i]? = some y := ⟨_, List.getElem?_eq_getElem om0⟩
      obtain ⟨ab, ao, ac, hav, hxl, hxr, hxn⟩ := gr_at hu hx
      obtain ⟨bb, bo, bc, hbv, hyl, hyr, hyn⟩ := gr_at hv hy
      refine swp_skip ?_
      refine then_n ?_
      refine swp_seq ?_
      refine swp_block ?_
      refine swp_seq ?_
      refine swp_draw [3, 7] _ [] (by simp only [List.append_nil]; exact Ent.refl _) kr0 ?_
      refine d_pu 0 rfl (pu_move rfl) kr0 kr0 kr0 ?_
      refine d_pu 1 rfl (pu_move rfl) kr0 kr0 kr0 ?_
      refine d_pu 2 rfl (pu_indexAddr (ao + i * 1) (congrArg some hav) rfl om0 om0 (by rw [Int.toNat_natCast])) kr0 kr0 kr0 ?_
      refine d_rd 3 rfl (rd_ro rfl hxl) rfl kr0 kr0 kr0 ?_
      refine d_pu 4 rfl (pu_move rfl) kr0 kr0 kr0 ?_
      refine d_pu 5 rfl (pu_move rfl) kr0 kr0 kr0 ?_
      refine d_pu 6 rfl (pu_indexAddr (bo + i * 1) (congrArg some hbv) rfl om0 om0 (by rw [Int.toNat_natCast])) kr0 kr0 kr0 ?_
      refine d_rd 7 rfl (rd_ro rfl hyl) rfl kr0 kr0 kr0 ?_
      first | refine d_fint 8 rfl kr0 kr0 (ef_fn (samel_spec μ x.1 y.1 x.2 y.2 hxr hyr) rfl rfl sp0) ?_ | refine d_finf 8 rfl kr0 kr0 (ef_fn (samel_spec μ x.1 y.1 x.2 y.2 hxr hyr) rfl rfl sp0) ?_
      rintro v25 L1 ⟨rfl, rfl⟩
      refine swd_app ?_
      refine d_pu 9 rfl (pu_not rfl) kr0 kr0 kr0 ?_
      refine d_sub _ (sc0 0 rfl (sc0 1 rfl (sc0 5 rfl (sc0 26 rfl .nil)))) ?_
      first | refine d_nilt kr0 ?_ | refine d_nilf kr0 ?_
      refine then_n ?_
      refine swp_cond (b := _) rfl (fun h26 => ?_) (fun h26 => ?_)
      · skip   -- 26 T
        refine swp_sr ?_
        refine s_as rfl ?_
        refine swl_sub _ (sc0 4 rfl .nil) ?_
        refine swl_nn ?_
        refine swp_ret ?_
        refine block_r ?_
        refine then_r ?_
        refine then_r ?_
        refine block_r ?_
        refine then_r ?_
        simp only [Bool.not_eq_true', decide_eq_false_iff_not] at h26
        exact done_ret [ro μ] (.tmp rfl .nil) ⟨by rw [decide_eq_false (fun e => h26 (by rw [e, hyn] at hxn; exact (Option.some.inj hxn).symm))]; rfl, rfl⟩ sp0
      · skip   -- 26 F
        refine swp_skip ?_
        refine block_n ?_
        refine then_n ?_
        refine swp_region ?_
        refine s_mv rfl ?_
        refine s_pu (pu_add_as ((i + 1 : Nat) : Int) rfl rfl om0 om0 om0) ?_
        refine s_as rfl ?_
        refine swl_sub _ (sc0 0 rfl (sc0 1 rfl (sc0 5 rfl .nil))) ?_
        refine swl_nil ?_
        simp only [Bool.not_eq_false', decide_eq_true_eq] at h26
        exact then_n ⟨i + 1, ⟨⟨rfl, rfl, rfl, trivial⟩, rfl, h14', fun j hj => by
          by_cases e : j = i
          · subst e; rw [hxn, hyn, h26]
          · exact hlo j om0⟩, by omega⟩
    · skip   -- 14 F
      have h14' := of_decide_eq_false h14
      obtain rfl : i = Ga.length := by omega
      refine swp_exit ?_
      refine then_x ?_
      refine then_x ?_
      refine block_hit rfl ?_
      refine then_n ?_
      refine swp_sr ?_
      refine s_as rfl ?_
      refine swl_sub _ (sc0 4 rfl .nil) ?_
      refine swl_nn ?_
      refine swp_ret ?_
      exact done_ret [ro μ] (.tmp rfl .nil) ⟨by rw [decide_eq_true (List.ext_getElem? fun j => by
        by_cases hj : j < Ga.length
        · exact hlo j hj
        · rw [List.getElem?_eq_none om0, List.getElem?_eq_none om0])]; rfl, rfl⟩ sp0
end SX
