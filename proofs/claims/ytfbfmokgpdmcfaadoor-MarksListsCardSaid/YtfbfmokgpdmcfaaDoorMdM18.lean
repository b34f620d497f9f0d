/- A part of the proof: walks of the seat's functions, by the rules of the texts that it imports. -/
import Derived.Test.YtfbfmokgpdmcfaaDoorMdM16
import Derived.Test.YtfbfmokgpdmcfaaDoorSxAppZ
namespace SX
open Go Go.Proofs

/-- the numbers of a list in their row, with -1 ahead and n behind -/
def ee (E : List Int) (n i : Nat) : Int := if i = 0 then -1 else (E[i - 1]?).getD n
theorem ee_zero (E : List Int) (n : Nat) : ee E n 0 = -1 := rfl
theorem ee_succ (E : List Int) (n i : Nat) : ee E n (i + 1) = (E[i]?).getD n := by simp [ee]
theorem ee_at {E : List Int} {n i : Nat} {v : Int} (h : E[i]? = some v) : ee E n (i + 1) = v := by rw [ee_succ, h]; rfl
theorem ee_end (E : List Int) (n : Nat) : ee E n (E.length + 1) = n := by rw [ee_succ, List.getElem?_eq_none (Nat.le_refl _)]; rfl
theorem elsTo_no {S : Nat → Bool} {n : Nat} (h : S n = false) : elsTo (n + 1) S = elsTo n S := elsTo_skip (by omega) (fun i h1 h2 => by rw [show i = n by omega]; exact h)
theorem ee_gap (S : Nat → Bool) : ∀ n i, i ≤ (elsTo n S).length → -1 ≤ ee (elsTo n S) n i ∧ ee (elsTo n S) n i < ee (elsTo n S) n (i + 1) ∧ ee (elsTo n S) n (i + 1) ≤ n ∧ (∀ j : Nat, ee (elsTo n S) n i < j → (j : Int) < ee (elsTo n S) n (i + 1) → S j = false) ∧ (i < (elsTo n S).length → ∃ k : Nat, ee (elsTo n S) n (i + 1) = k ∧ k < n ∧ S k = true)
  | 0, i, h => by
    have e : elsTo 0 S = [] := rfl
    rw [e] at h ⊢
    obtain rfl : i = 0 := by simpa using h
    refine ⟨by decide, by decide, by decide, fun j h1 h2 => ?_, fun h => by cases h⟩
    simp [ee] at h2
    omega
  | n + 1, i, h => by
    have ih := ee_gap S n
    cases hs : S n with
    | true =>
      rw [elsTo_succ hs] at h ⊢
      rw [List.length_append, List.length_singleton] at h
      have same : ∀ j, j ≤ (elsTo n S).length + 1 → ee (elsTo n S ++ [(n : Int)]) (n + 1) j = ee (elsTo n S) n j := fun j hj => by
        unfold ee
        split
        · rfl
        · rcases Nat.lt_or_ge (j - 1) (elsTo n S).length with h1 | h1
          · rw [List.getElem?_append_left h1, List.getElem?_eq_getElem h1]; rfl
          · obtain e : j - 1 = (elsTo n S).length := by omega
            rw [e, List.getElem?_append_right (Nat.le_refl _), List.getElem?_eq_none (Nat.le_refl _), Nat.sub_self]; rfl
      rcases Nat.lt_or_ge i ((elsTo n S).length + 1) with h1 | h1
      · rw [same i (by omega), same (i + 1) (by omega)]
        obtain ⟨a, b, c, d, f⟩ := ih i (by omega)
        refine ⟨a, b, by omega, d, fun _ => ?_⟩
        rcases Nat.lt_or_ge i (elsTo n S).length with h2 | h2
        · obtain ⟨k, k1, k2, k3⟩ := f h2
          exact ⟨k, k1, by omega, k3⟩
        · obtain rfl : i = (elsTo n S).length := by omega
          exact ⟨n, ee_end _ _, by omega, hs⟩
      · obtain rfl : i = (elsTo n S).length + 1 := by omega
        have e1 : ee (elsTo n S ++ [(n : Int)]) (n + 1) ((elsTo n S).length + 1 + 1) = ((n + 1 : Nat) : Int) := by
          have := ee_end (elsTo n S ++ [(n : Int)]) (n + 1)
          rwa [List.length_append, List.length_singleton] at this
        rw [same _ (Nat.le_refl _), e1, ee_end]
        refine ⟨by omega, by omega, by omega, fun j h2 h3 => by omega, fun h2 => ?_⟩
        rw [List.length_append, List.length_singleton] at h2; omega
    | false =>
      rw [elsTo_no hs] at h ⊢
      have same : ∀ j, j ≤ (elsTo n S).length → ee (elsTo n S) (n + 1) j = ee (elsTo n S) n j := fun j hj => by
        unfold ee
        split
        · rfl
        · rw [List.getElem?_eq_getElem (show j - 1 < (elsTo n S).length by omega)]; rfl
      obtain ⟨a, b, c, d, f⟩ := ih i h
      rcases Nat.lt_or_ge i (elsTo n S).length with h1 | h1
      · rw [same i h, same (i + 1) (by omega)]
        refine ⟨a, b, by omega, d, fun h2 => ?_⟩
        obtain ⟨k, k1, k2, k3⟩ := f h2
        exact ⟨k, k1, by omega, k3⟩
      · obtain rfl : i = (elsTo n S).length := by omega
        rw [same _ h, ee_end]
        rw [ee_end] at b c d
        refine ⟨a, by omega, by omega, fun j h2 h3 => ?_, fun h2 => by omega⟩
        by_cases e : j = n
        · rw [e]; exact hs
        · exact d j h2 (by omega)

set_option maxHeartbeats 4000000 in
theorem lists_spec (μ : PH) (s : Int) (lv : Value) (l : List Int) (hT : RowAt μ 0 0 tabV) (hs0 : 0 ≤ s) (hl : Row μ lv 1 l.length (l.flatMap (icsk .i64))) : Spec Tryd.prog 3 [.int .u16 s, lv] [ro μ] (fun v L => v = .bool true ∧ ∃ μ' R, Le μ μ' ∧ L = ro μ' :: R) := by
  obtain ⟨n, hn⟩ : ∃ n : Nat, s % 3000 = (n : Int) := ⟨(s % 3000).toNat, by omega⟩
  have hn2 : n < 3000 := by omega
  have hw : IntKind.i64.wrap (s.tmod 3000) = n := by
    rw [Int.tmod_eq_emod_of_nonneg hs0, hn]
    exact IntWalk.i64_in _ ⟨by omega, by omega⟩
  have hcl : clampM ((n : Nat) : Int) = n := by unfold clampM; omega
  have hof := of_spec μ lv l ((n : Nat) : Int) hl
  rw [hcl] at hof
  have hSz := inL_out l n
  have hin : ∀ v ∈ l, 0 ≤ v → inL l n v.toNat = decide (v < n) := fun v hv h0 => by
    unfold inL
    rw [show ((v.toNat : Nat) : Int) = v by omega, decide_eq_true hv, Bool.and_true, decide_eq_decide]; omega
  generalize inL l n = S at *
  have hgap := ee_gap S n
  have hEn := elsTo_len n S
  have hb : l.length ≤ maxLen := by obtain ⟨_, _, _, _, h1, h2, _⟩ := hl; omega
  simp only [maxLen] at hb
  obtain ⟨A, cap, hlv⟩ := hl.form'
  subst hlv
  have hlist := list_m μ
  obtain ⟨E, hE⟩ : ∃ E, E = elsTo n S := ⟨_, rfl⟩
  have hlm := fun p => list_m μ p n S hT
  have hcm := fun p => count_m p n S
  rw [← hE] at hgap hEn hlm hcm
  refine Spec.of 141 Tryd.func3 rfl rfl rfl ?_
  refine swp_seq ?_
  refine swp_region ?_
  refine s_pu (pu_assign rfl) ?_
  refine swl_sub _ (.cons (t := 0) rfl (.cons (t := 1) rfl .nil)) ?_
  refine swl_nil ?_
  refine then_n ?_
  refine swp_seq ?_
  refine swp_seq ?_
  refine swp_region ?_
  refine s_ef (ef_fn (holds_spec μ hT) rfl rfl (by repeat (first | exact Split.nil | (apply Split.cons; (repeat (first | with_reducible exact Take.here | apply Take.there)))))) ?_
  rintro v1 L1 ⟨rfl, rfl⟩
  refine swl_app ?_
  refine s_pu (pu_not rfl) ?_
  refine swl_sub _ (.cons (t := 0) rfl (.cons (t := 1) rfl (.cons (t := 17) rfl .nil))) ?_
  refine swl_nil ?_
  refine then_n ?_
  refine swp_cond (b := _) rfl (fun h17 => absurd h17 (by decide)) (fun h17 => ?_)
  refine swp_skip ?_
  refine then_n ?_
  refine swp_seq ?_
  refine swp_region ?_
  refine s_pu (pu_move rfl) ?_
  refine s_pu (pu_rem rfl rfl (by omega)) ?_
  first | refine s_pu (pu_conv_i64 rfl (by omega) (by omega)) ?_ | refine s_pu (pu_conv rfl) ?_
  refine s_pu (pu_assign rfl) ?_
  refine swl_sub _ (.cons (t := 1) rfl (.cons (t := 5) rfl .nil)) ?_
  rw [hw]
  refine swl_nil ?_
  refine then_n ?_
  refine swp_seq ?_
  refine swp_region ?_
  refine s_pu (pu_move rfl) ?_
  refine s_pu (pu_move rfl) ?_
  refine s_ef (ef_fn hof rfl rfl (by repeat (first | exact Split.nil | (apply Split.cons; (repeat (first | with_reducible exact Take.here | apply Take.there)))))) ?_
  rintro v1 L1 ⟨p, rfl, rfl⟩
  refine swl_app ?_
  refine s_pu (pu_assign rfl) ?_
  refine swl_sub _ (.cons (t := 1) rfl (.cons (t := 5) rfl (.cons (t := 6) rfl .nil))) ?_
  refine swl_nil ?_
  refine then_n ?_
  refine swp_seq ?_
  refine swp_region ?_
  refine s_pu (pu_move rfl) ?_
  refine s_ef (ef_fn (hlm p) rfl rfl (by repeat (first | exact Split.nil | (apply Split.cons; (repeat (first | with_reducible exact Take.here | apply Take.there)))))) ?_
  rintro vl L1 rfl
  refine swl_app ?_
  refine swl_fact (fun m h => own_form h) fun hform => ?_
  refine s_pu (pu_assign rfl) ?_
  refine swl_sub _ (.cons (t := 1) rfl (.cons (t := 5) rfl (.cons (t := 6) rfl (.cons (t := 7) rfl .nil)))) ?_
  refine swl_nil ?_
  refine then_n ?_
  refine swp_seq ?_
  refine swp_seq ?_
  refine swp_region ?_
  refine s_pu (pu_move rfl) ?_
  refine s_ef (ef_fn (size_m p n S) rfl rfl (by repeat (first | exact Split.nil | (apply Split.cons; (repeat (first | with_reducible exact Take.here | apply Take.there)))))) ?_
  rintro v1 L1 ⟨rfl, rfl⟩
  refine swl_app ?_
  refine s_pu (pu_move rfl) ?_
  refine s_pu (pu_neq rfl rfl) ?_
  refine s_pu (pu_move rfl) ?_
  refine s_split 30 rfl (fun h30 => by simp at h30) (fun h30 => ?_)
  refine s_on rfl rfl ?_
  refine s_pu (pu_move rfl) ?_
  refine s_on rfl rfl ?_
  refine s_ef (ef_fn (hcm p) rfl rfl (by repeat (first | exact Split.nil | (apply Split.cons; (repeat (first | with_reducible exact Take.here | apply Take.there)))))) ?_
  rintro v1 L1 ⟨rfl, rfl⟩
  refine swl_app ?_
  refine s_on rfl rfl ?_
  refine s_pu (pu_move rfl) ?_
  refine s_on rfl rfl ?_
  refine s_pu (pu_len_own hform rfl) ?_
  refine s_on rfl rfl ?_
  refine s_pu (pu_neq rfl rfl) ?_
  first | refine s_pu (pu_pick_t rfl rfl) ?_ | refine s_pu (pu_pick_f rfl rfl) ?_
  refine swl_sub _ (.cons (t := 1) rfl (.cons (t := 5) rfl (.cons (t := 6) rfl (.cons (t := 7) rfl (.cons (t := 36) rfl .nil))))) ?_
  refine swl_nil ?_
  refine then_n ?_
  refine swp_cond (b := _) rfl (fun h36 => by simp at h36) (fun h36 => ?_)
  refine swp_skip ?_
  refine then_n ?_
  refine swp_seq ?_
  refine swp_region ?_
  refine s_pu (pu_move rfl) ?_
  refine s_pu (pu_assign rfl) ?_
  refine s_pu (pu_assign rfl) ?_
  refine swl_sub _ (.cons (t := 1) rfl (.cons (t := 5) rfl (.cons (t := 6) rfl (.cons (t := 7) rfl (.cons (t := 8) rfl (.cons (t := 9) rfl .nil)))))) ?_
  refine swl_nil ?_
  refine then_n ?_
  refine swp_seq ?_
  refine swp_seq ?_
  refine swp_region ?_
  refine s_pu (pu_move rfl) ?_
  refine s_pu (pu_len_own hform rfl) ?_
  refine s_pu (pu_move rfl) ?_
  refine swl_sub _ (.cons (t := 1) rfl (.cons (t := 5) rfl (.cons (t := 6) rfl (.cons (t := 7) rfl (.cons (t := 8) rfl (.cons (t := 9) rfl (.cons (t := 38) rfl (.cons (t := 39) rfl (.cons (t := 40) rfl .nil))))))))) ?_
  refine swl_ent (Split.ent' (K := [own 3 1 vl E.length (E.flatMap (icsk .i64)), mset p n S, ro μ]) (by repeat (first | exact Split.nil | (apply Split.cons; (repeat (first | with_reducible exact Take.here | apply Take.there)))))) ?_
  refine swl_nil ?_
  refine then_n ?_
  refine swp_block ?_
  refine swp_loop (ι := Nat) (fun i env L => env = [(1, .slice A l.length cap), (5, .int .i64 (n : Nat)), (6, .pointer (some ⟨p, 0, none⟩)), (7, vl), (8, .int .i64 (ee E n i)), (9, .int .i64 (ee E n (E.length + 1 - i))), (38, vl), (39, .int .i64 (E.length : Nat)), (40, .int .i64 (i : Nat))] ∧ L = [own 3 1 vl E.length (E.flatMap (icsk .i64)), mset p n S, ro μ] ∧ i ≤ E.length) (fun i => E.length - i) 0 ⟨by rw [Nat.sub_zero, ee_end, ee_zero]; rfl, rfl, Nat.zero_le _⟩ ?_
  rintro i env L ⟨rfl, rfl, hi⟩
  refine swp_seq ?_
  refine swp_region ?_
  refine s_pu (pu_lss rfl rfl) ?_
  refine swl_sub _ (.cons (t := 1) rfl (.cons (t := 5) rfl (.cons (t := 6) rfl (.cons (t := 7) rfl (.cons (t := 8) rfl (.cons (t := 9) rfl (.cons (t := 38) rfl (.cons (t := 39) rfl (.cons (t := 40) rfl (.cons (t := 41) rfl .nil)))))))))) ?_
  refine swl_nil ?_
  refine then_n ?_
  refine swp_seq ?_
  refine swp_cond (b := _) rfl (fun h41 => ?_) (fun h41 => ?_)
  · skip   -- 41 T
    have h41' : i < E.length := by have := of_decide_eq_true h41; omega
    obtain ⟨a0, a1, a2, a3, a4⟩ := hgap i (by omega)
    obtain ⟨k, k1, k2, k3⟩ := a4 h41'
    obtain ⟨v, hv⟩ : ∃ v, E[i]? = some v := ⟨_, List.getElem?_eq_getElem h41'⟩
    obtain rfl : v = (k : Int) := (ee_at hv).symm.trans k1
    obtain ⟨z, hz⟩ : ∃ z, E[E.length - 1 - i]? = some z := ⟨_, List.getElem?_eq_getElem (by omega)⟩
    have hz1 : ee E n (E.length - 1 - i + 1) = z := ee_at hz
    obtain ⟨d0, d1, d2, d3, d4⟩ := hgap (E.length - i) (by omega)
    obtain ⟨c0, c1, c2, c3, c4⟩ := hgap (E.length - 1 - i) (by omega)
    obtain ⟨kz, z1, z2, z3⟩ := c4 (by omega)
    have ez : ee E n (E.length - i) = z := by rw [← hz1]; congr 1; omega
    have eb : E.length - i + 1 = E.length + 1 - i := by omega
    rw [ez] at d0 d1 d3
    rw [eb] at d1 d2 d3
    rw [k1] at a1 a2 a3
    obtain rfl : z = (kz : Int) := hz1.symm.trans z1
    refine swp_own (fun h0 l0 _ => by omega) (fun b1 c1 ex1 hv1 h1 h2 h3 h4 => ?_)
    subst hv1
    refine swp_skip ?_
    refine then_n ?_
    refine swp_seq ?_
    refine swp_block ?_
    refine swp_seq ?_
    refine swp_region ?_
    refine s_pu (pu_move rfl) ?_
    refine s_pu (pu_indexAddr i rfl rfl (by omega) (by omega) (by omega)) ?_
    refine s_rd (rd_load rfl (icells_get hv)) ?_
    refine s_pu (pu_assign rfl) ?_
    refine s_pu (pu_assign rfl) ?_
    refine swl_sub _ (.cons (t := 1) rfl (.cons (t := 5) rfl (.cons (t := 6) rfl (.cons (t := 7) rfl (.cons (t := 8) rfl (.cons (t := 9) rfl (.cons (t := 10) rfl (.cons (t := 11) rfl (.cons (t := 38) rfl (.cons (t := 39) rfl (.cons (t := 40) rfl .nil))))))))))) ?_
    refine swl_nil ?_
    refine then_n ?_
    refine swp_seq ?_
    refine swp_seq ?_
    refine swp_draw [34] _ [] (by simp only [List.append_nil]; exact Ent.refl _) (by kernel_rfl) ?_
    refine d_pu 0 rfl (pu_move rfl) (by kernel_rfl) (by kernel_rfl) (by kernel_rfl) ?_
    refine d_pu 1 rfl (pu_move rfl) (by kernel_rfl) (by kernel_rfl) (by kernel_rfl) ?_
    refine d_pu 2 rfl (pu_leq rfl rfl) (by kernel_rfl) (by kernel_rfl) (by kernel_rfl) ?_
    refine d_pu 3 rfl (pu_move rfl) (by kernel_rfl) (by kernel_rfl) (by kernel_rfl) ?_
    refine d_split 48 rfl (fun h48 => by have := of_decide_eq_true h48; omega) (fun h48 => ?_)
    refine d_pu_on 4 rfl rfl rfl (pu_move rfl) (by kernel_rfl) (by kernel_rfl) (by kernel_rfl) ?_
    refine d_pu_on 5 rfl rfl rfl (pu_move rfl) (by kernel_rfl) (by kernel_rfl) (by kernel_rfl) ?_
    refine d_pu_on 6 rfl rfl rfl (pu_geq rfl rfl) (by kernel_rfl) (by kernel_rfl) (by kernel_rfl) ?_
    first | refine d_pu 7 rfl (pu_pick_t rfl rfl) (by kernel_rfl) (by kernel_rfl) (by kernel_rfl) ?_ | refine d_pu 7 rfl (pu_pick_f rfl rfl) (by kernel_rfl) (by kernel_rfl) (by kernel_rfl) ?_
    refine d_pu 8 rfl (pu_move rfl) (by kernel_rfl) (by kernel_rfl) (by kernel_rfl) ?_
    refine d_split 53 rfl (fun h53 => by have := of_decide_eq_true h53; omega) (fun h53 => ?_)
    refine d_pu_on 9 rfl rfl rfl (pu_move rfl) (by kernel_rfl) (by kernel_rfl) (by kernel_rfl) ?_
    refine d_pu_on 10 rfl rfl rfl (pu_move rfl) (by kernel_rfl) (by kernel_rfl) (by kernel_rfl) ?_
    refine d_amb [11] (by kernel_rfl) rfl ?_
    refine dA_ef 11 rfl (GOn.some rfl rfl) (ef_fn (has_c p n S k true k3) rfl rfl (by repeat (first | exact Split.nil | (apply Split.cons; (repeat (first | with_reducible exact Take.here | apply Take.there)))))) ?_
    rintro v1 L1 ⟨rfl, rfl⟩
    refine ⟨_, ent_appC (Split.ent (by repeat (first | exact Split.nil | (apply Split.cons; (repeat (first | with_reducible exact Take.here | apply Take.there)))))), ?_⟩
    refine d_pu_on 12 rfl rfl rfl (pu_not rfl) (by kernel_rfl) (by kernel_rfl) (by kernel_rfl) ?_
    first | refine d_pu 13 rfl (pu_pick_t rfl rfl) (by kernel_rfl) (by kernel_rfl) (by kernel_rfl) ?_ | refine d_pu 13 rfl (pu_pick_f rfl rfl) (by kernel_rfl) (by kernel_rfl) (by kernel_rfl) ?_
    refine d_pu 14 rfl (pu_move rfl) (by kernel_rfl) (by kernel_rfl) (by kernel_rfl) ?_
    refine d_pu_on 15 rfl rfl rfl (pu_move rfl) (by kernel_rfl) (by kernel_rfl) (by kernel_rfl) ?_
    refine d_pu_on 16 rfl rfl rfl (pu_move rfl) (by kernel_rfl) (by kernel_rfl) (by kernel_rfl) ?_
    refine d_pu_on 17 rfl rfl rfl (pu_add_as (ee E n i + 1) rfl rfl (by omega) (by omega) (by omega)) (by kernel_rfl) (by kernel_rfl) (by kernel_rfl) ?_
    refine d_pu_on 19 rfl rfl rfl (pu_move rfl) (by kernel_rfl) (by kernel_rfl) (by kernel_rfl) ?_
    refine d_amb [18] (by kernel_rfl) rfl ?_
    refine dA_ef 18 rfl (GOn.some rfl rfl) (ef_fn (next_m μ p n S (ee E n i + 1) hT) rfl rfl (by repeat (first | exact Split.nil | (apply Split.cons; (repeat (first | with_reducible exact Take.here | apply Take.there)))))) ?_
    rintro v1 L1 ⟨x, rfl, hx, rfl⟩
    refine ⟨_, ent_appC (Split.ent (by repeat (first | exact Split.nil | (apply Split.cons; (repeat (first | with_reducible exact Take.here | apply Take.there)))))), ?_⟩
    obtain rfl : x = k := isNext_uniq hx (.inr ⟨k, rfl, by omega, k3, fun j h1 h2 => a3 j (by omega) (by omega)⟩)
    refine d_pu_on 20 rfl rfl rfl (pu_neq rfl rfl) (by kernel_rfl) (by kernel_rfl) (by kernel_rfl) ?_
    first | refine d_pu 21 rfl (pu_pick_t rfl rfl) (by kernel_rfl) (by kernel_rfl) (by kernel_rfl) ?_ | refine d_pu 21 rfl (pu_pick_f rfl rfl) (by kernel_rfl) (by kernel_rfl) (by kernel_rfl) ?_
    refine d_pu 22 rfl (pu_move rfl) (by kernel_rfl) (by kernel_rfl) (by kernel_rfl) ?_
    refine d_split 67 rfl (fun h67 => by simp at h67) (fun h67 => ?_)
    refine d_pu_on 23 rfl rfl rfl (pu_move rfl) (by kernel_rfl) (by kernel_rfl) (by kernel_rfl) ?_
    refine d_pu_on 24 rfl rfl rfl (pu_move rfl) (by kernel_rfl) (by kernel_rfl) (by kernel_rfl) ?_
    refine d_pu_on 25 rfl rfl rfl (pu_sub_as (ee E n (E.length + 1 - i) - 1) rfl rfl (by omega) (by omega) (by omega)) (by kernel_rfl) (by kernel_rfl) (by kernel_rfl) ?_
    refine d_pu_on 27 rfl rfl rfl (pu_move rfl) (by kernel_rfl) (by kernel_rfl) (by kernel_rfl) ?_
    refine d_pu_on 28 rfl rfl rfl (pu_move rfl) (by kernel_rfl) (by kernel_rfl) (by kernel_rfl) ?_
    refine d_pu_on 29 rfl rfl rfl (pu_len rfl) (by kernel_rfl) (by kernel_rfl) (by kernel_rfl) ?_
    refine d_pu_on 30 rfl rfl rfl (pu_sub_as ((E.length - 1 : Nat) : Int) rfl rfl (by omega) (by omega) (by omega)) (by kernel_rfl) (by kernel_rfl) (by kernel_rfl) ?_
    refine d_pu_on 31 rfl rfl rfl (pu_move rfl) (by kernel_rfl) (by kernel_rfl) (by kernel_rfl) ?_
    refine d_pu_on 32 rfl rfl rfl (pu_sub_as ((E.length - 1 - i : Nat) : Int) rfl rfl (by omega) (by omega) (by omega)) (by kernel_rfl) (by kernel_rfl) (by kernel_rfl) ?_
    refine d_pu_on 33 rfl rfl rfl (pu_indexAddr (E.length - 1 - i) rfl rfl (by omega) (by omega) (by omega)) (by kernel_rfl) (by kernel_rfl) (by kernel_rfl) ?_
    refine d_rd_on 34 rfl rfl rfl (rd_load rfl (icells_get hz)) rfl (by kernel_rfl) (by kernel_rfl) (by kernel_rfl) ?_
    refine d_amb [26] (by kernel_rfl) rfl ?_
    refine dA_ef 26 rfl (GOn.some rfl rfl) (ef_fn (last_m p n S (ee E n (E.length + 1 - i) - 1)) rfl rfl (by repeat (first | exact Split.nil | (apply Split.cons; (repeat (first | with_reducible exact Take.here | apply Take.there)))))) ?_
    rintro v1 L1 ⟨y, rfl, hy, rfl⟩
    refine ⟨_, ent_appC (Split.ent (by repeat (first | exact Split.nil | (apply Split.cons; (repeat (first | with_reducible exact Take.here | apply Take.there)))))), ?_⟩
    obtain rfl : y = kz := isLast_uniq hy (.inr ⟨kz, rfl, by omega, z3, fun j h1 h2 => d3 j (by omega) (by omega)⟩)
    refine d_pu_on 35 rfl rfl rfl (pu_neq rfl rfl) (by kernel_rfl) (by kernel_rfl) (by kernel_rfl) ?_
    first | refine d_pu 36 rfl (pu_pick_t rfl rfl) (by kernel_rfl) (by kernel_rfl) (by kernel_rfl) ?_ | refine d_pu 36 rfl (pu_pick_f rfl rfl) (by kernel_rfl) (by kernel_rfl) (by kernel_rfl) ?_
    refine d_sub _ (.cons (t := 1) rfl (.cons (t := 5) rfl (.cons (t := 6) rfl (.cons (t := 7) rfl (.cons (t := 10) rfl (.cons (t := 11) rfl (.cons (t := 38) rfl (.cons (t := 39) rfl (.cons (t := 40) rfl (.cons (t := 81) rfl .nil)))))))))) ?_
    first | refine d_nilt (by kernel_rfl) ?_ | refine d_nilf (by kernel_rfl) ?_
    refine then_n ?_
    refine swp_cond (b := _) rfl (fun h81 => by simp at h81) (fun h81 => ?_)
    refine swp_skip ?_
    refine then_n ?_
    refine swp_draw [8] _ [] (by simp only [List.append_nil]; exact Ent.refl _) (by kernel_rfl) ?_
    refine d_pu 0 rfl (pu_move rfl) (by kernel_rfl) (by kernel_rfl) (by kernel_rfl) ?_
    refine d_pu 1 rfl (pu_move rfl) (by kernel_rfl) (by kernel_rfl) (by kernel_rfl) ?_
    refine d_pu 2 rfl (pu_move rfl) (by kernel_rfl) (by kernel_rfl) (by kernel_rfl) ?_
    refine d_pu 3 rfl (pu_len rfl) (by kernel_rfl) (by kernel_rfl) (by kernel_rfl) ?_
    refine d_pu 4 rfl (pu_sub_as ((E.length - 1 : Nat) : Int) rfl rfl (by omega) (by omega) (by omega)) (by kernel_rfl) (by kernel_rfl) (by kernel_rfl) ?_
    refine d_pu 5 rfl (pu_move rfl) (by kernel_rfl) (by kernel_rfl) (by kernel_rfl) ?_
    refine d_pu 6 rfl (pu_sub_as ((E.length - 1 - i : Nat) : Int) rfl rfl (by omega) (by omega) (by omega)) (by kernel_rfl) (by kernel_rfl) (by kernel_rfl) ?_
    refine d_pu 7 rfl (pu_indexAddr (E.length - 1 - i) rfl rfl (by omega) (by omega) (by omega)) (by kernel_rfl) (by kernel_rfl) (by kernel_rfl) ?_
    refine d_rd 8 rfl (rd_load rfl (icells_get hz)) rfl (by kernel_rfl) (by kernel_rfl) (by kernel_rfl) ?_
    refine d_pu 9 rfl (pu_assign rfl) (by kernel_rfl) (by kernel_rfl) (by kernel_rfl) ?_
    refine d_pu 10 rfl (pu_assign rfl) (by kernel_rfl) (by kernel_rfl) (by kernel_rfl) ?_
    refine d_sub _ (.cons (t := 1) rfl (.cons (t := 5) rfl (.cons (t := 6) rfl (.cons (t := 7) rfl (.cons (t := 8) rfl (.cons (t := 9) rfl (.cons (t := 38) rfl (.cons (t := 39) rfl (.cons (t := 40) rfl .nil))))))))) ?_
    first | refine d_nilt (by kernel_rfl) ?_ | refine d_nilf (by kernel_rfl) ?_
    refine block_n ?_
    refine then_n ?_
    refine swp_region ?_
    refine s_pu (pu_add_as ((i + 1 : Nat) : Int) rfl rfl (by omega) (by omega) (by omega)) ?_
    refine s_pu (pu_move rfl) ?_
    refine swl_sub _ (.cons (t := 1) rfl (.cons (t := 5) rfl (.cons (t := 6) rfl (.cons (t := 7) rfl (.cons (t := 8) rfl (.cons (t := 9) rfl (.cons (t := 38) rfl (.cons (t := 39) rfl (.cons (t := 40) rfl .nil))))))))) ?_
    refine swl_ent ((Split.ent' (K := [blk b1 3 (E.flatMap (icsk .i64) ++ ex1), mset p n S, ro μ]) (by repeat (first | exact Split.nil | (apply Split.cons; (repeat (first | with_reducible exact Take.here | apply Take.there)))))).trans (iown_close h1 h2 h4)) ?_
    refine swl_nil ?_
    exact then_n ⟨i + 1, ⟨by rw [k1, show E.length + 1 - (i + 1) = E.length - i by omega, ez], rfl, h41'⟩, by omega⟩
  · skip   -- 41 F
    have h41' := of_decide_eq_false h41
    obtain rfl : i = E.length := by omega
    refine swp_exit ?_
    refine then_x ?_
    refine then_x ?_
    refine block_hit rfl ?_
    refine then_n ?_
    refine swp_seq ?_
    refine swp_seq ?_
    refine swp_region ?_
    refine s_pu (pu_move rfl) ?_
    refine s_pu (pu_len rfl) ?_
    refine s_pu (pu_move rfl) ?_
    refine swl_sub _ (.cons (t := 5) rfl (.cons (t := 6) rfl (.cons (t := 7) rfl (.cons (t := 8) rfl (.cons (t := 9) rfl (.cons (t := 92) rfl (.cons (t := 93) rfl (.cons (t := 94) rfl .nil)))))))) ?_
    refine swl_nil ?_
    refine then_n ?_
    refine swp_block ?_
    refine swp_loop (ι := Nat) (fun i env L => env = [(5, .int .i64 (n : Nat)), (6, .pointer (some ⟨p, 0, none⟩)), (7, vl), (8, .int .i64 (ee E n E.length)), (9, .int .i64 (ee E n (E.length + 1 - E.length))), (92, .slice A l.length cap), (93, .int .i64 (l.length : Nat)), (94, .int .i64 (i : Nat))] ∧ L = [own 3 1 vl E.length (E.flatMap (icsk .i64)), mset p n S, ro μ] ∧ i ≤ l.length) (fun i => l.length - i) 0 ⟨rfl, rfl, Nat.zero_le _⟩ ?_
    rintro i env L ⟨rfl, rfl, hi⟩
    refine swp_seq ?_
    refine swp_region ?_
    refine s_pu (pu_lss rfl rfl) ?_
    refine swl_sub _ (.cons (t := 5) rfl (.cons (t := 6) rfl (.cons (t := 7) rfl (.cons (t := 8) rfl (.cons (t := 9) rfl (.cons (t := 92) rfl (.cons (t := 93) rfl (.cons (t := 94) rfl (.cons (t := 95) rfl .nil))))))))) ?_
    refine swl_nil ?_
    refine then_n ?_
    refine swp_seq ?_
    refine swp_cond (b := _) rfl (fun h95 => ?_) (fun h95 => ?_)
    · skip   -- 95 T
      have h95' : i < l.length := by have := of_decide_eq_true h95; omega
      obtain ⟨gb, off, cap', hv, c1, c2, hr⟩ := hl.pos (by omega)
      simp only [Value.slice.injEq, true_and] at hv
      obtain ⟨rfl, rfl⟩ := hv
      obtain ⟨x, hx⟩ : ∃ x, l[i]? = some x := ⟨_, List.getElem?_eq_getElem h95'⟩
      have hrk := hr.elem (icsk_len .i64) hx
      have hxm := hin x (List.mem_of_getElem? hx)
      refine swp_skip ?_
      refine then_n ?_
      refine swp_seq ?_
      refine swp_block ?_
      refine swp_seq ?_
      refine swp_region ?_
      refine s_pu (pu_indexAddr (off + i * 1) rfl rfl (by omega) (by omega) (by rw [Int.toNat_natCast])) ?_
      refine s_rd (rd_ro rfl hrk.cell) ?_
      refine s_pu (pu_assign rfl) ?_
      refine swl_sub _ (.cons (t := 5) rfl (.cons (t := 6) rfl (.cons (t := 7) rfl (.cons (t := 8) rfl (.cons (t := 9) rfl (.cons (t := 13) rfl (.cons (t := 92) rfl (.cons (t := 93) rfl (.cons (t := 94) rfl .nil))))))))) ?_
      refine swl_nil ?_
      refine then_n ?_
      refine swp_seq ?_
      refine swp_region ?_
      refine s_pu (pu_move rfl) ?_
      refine s_pu (pu_move rfl) ?_
      refine s_ef (ef_fn (has_m p n S x) rfl rfl (by repeat (first | exact Split.nil | (apply Split.cons; (repeat (first | with_reducible exact Take.here | apply Take.there)))))) ?_
      rintro v1 L1 ⟨rfl, rfl⟩
      refine swl_app ?_
      refine s_pu (pu_move rfl) ?_
      refine s_pu (pu_geq rfl rfl) ?_
      refine s_pu (pu_move rfl) ?_
      refine s_split 103 rfl (fun h103 => ?_) (fun h103 => ?_)
      · skip   -- 103 T
        refine s_on rfl rfl ?_
        refine s_pu (pu_move rfl) ?_
        refine s_on rfl rfl ?_
        refine s_pu (pu_move rfl) ?_
        refine s_on rfl rfl ?_
        refine s_pu (pu_lss rfl rfl) ?_
        first | refine s_pu (pu_pick_t rfl rfl) ?_ | refine s_pu (pu_pick_f rfl rfl) ?_
        refine s_pu (pu_bool_ne rfl rfl) ?_
        refine swl_sub _ (.cons (t := 5) rfl (.cons (t := 6) rfl (.cons (t := 7) rfl (.cons (t := 8) rfl (.cons (t := 9) rfl (.cons (t := 92) rfl (.cons (t := 93) rfl (.cons (t := 94) rfl (.cons (t := 108) rfl .nil))))))))) ?_
        refine swl_nil ?_
        refine then_n ?_
        refine swp_cond (b := _) rfl (fun h108 => by first | (rw [h103, hxm (of_decide_eq_true h103), Bool.true_and, beq_self_eq_true] at h108; cases h108) | (rw [h103, Bool.false_and, beq_self_eq_true] at h108; cases h108) | trace_state) (fun h108 => ?_)
        refine swp_skip ?_
        refine block_n ?_
        refine then_n ?_
        refine swp_region ?_
        refine s_pu (pu_add_as ((i + 1 : Nat) : Int) rfl rfl (by omega) (by omega) (by omega)) ?_
        refine s_pu (pu_move rfl) ?_
        refine swl_sub _ (.cons (t := 5) rfl (.cons (t := 6) rfl (.cons (t := 7) rfl (.cons (t := 8) rfl (.cons (t := 9) rfl (.cons (t := 92) rfl (.cons (t := 93) rfl (.cons (t := 94) rfl .nil)))))))) ?_
        refine swl_ent (Split.ent' (K := [own 3 1 vl E.length (E.flatMap (icsk .i64)), mset p n S, ro μ]) (by repeat (first | exact Split.nil | (apply Split.cons; (repeat (first | with_reducible exact Take.here | apply Take.there)))))) ?_
        refine swl_nil ?_
        exact then_n ⟨i + 1, ⟨rfl, rfl, h95'⟩, by omega⟩
      · skip   -- 103 F
        refine s_off rfl rfl rfl ?_
        refine s_off rfl rfl rfl ?_
        refine s_off rfl rfl rfl ?_
        first | refine s_pu (pu_pick_t rfl rfl) ?_ | refine s_pu (pu_pick_f rfl rfl) ?_
        refine s_pu (pu_bool_ne rfl rfl) ?_
        refine swl_sub _ (.cons (t := 5) rfl (.cons (t := 6) rfl (.cons (t := 7) rfl (.cons (t := 8) rfl (.cons (t := 9) rfl (.cons (t := 92) rfl (.cons (t := 93) rfl (.cons (t := 94) rfl (.cons (t := 108) rfl .nil))))))))) ?_
        refine swl_nil ?_
        refine then_n ?_
        refine swp_cond (b := _) rfl (fun h108 => by first | (rw [h103, hxm (of_decide_eq_true h103), Bool.true_and, beq_self_eq_true] at h108; cases h108) | (rw [h103, Bool.false_and, beq_self_eq_true] at h108; cases h108) | trace_state) (fun h108 => ?_)
        refine swp_skip ?_
        refine block_n ?_
        refine then_n ?_
        refine swp_region ?_
        refine s_pu (pu_add_as ((i + 1 : Nat) : Int) rfl rfl (by omega) (by omega) (by omega)) ?_
        refine s_pu (pu_move rfl) ?_
        refine swl_sub _ (.cons (t := 5) rfl (.cons (t := 6) rfl (.cons (t := 7) rfl (.cons (t := 8) rfl (.cons (t := 9) rfl (.cons (t := 92) rfl (.cons (t := 93) rfl (.cons (t := 94) rfl .nil)))))))) ?_
        refine swl_ent (Split.ent' (K := [own 3 1 vl E.length (E.flatMap (icsk .i64)), mset p n S, ro μ]) (by repeat (first | exact Split.nil | (apply Split.cons; (repeat (first | with_reducible exact Take.here | apply Take.there)))))) ?_
        refine swl_nil ?_
        exact then_n ⟨i + 1, ⟨rfl, rfl, h95'⟩, by omega⟩
    · skip   -- 95 F
      refine swp_exit ?_
      refine then_x ?_
      refine then_x ?_
      refine block_hit rfl ?_
      refine then_n ?_
      refine swp_seq ?_
      refine swp_region ?_
      refine s_pu (pu_move rfl) ?_
      refine s_ef (ef_fn (hlm p) rfl rfl (by repeat (first | exact Split.nil | (apply Split.cons; (repeat (first | with_reducible exact Take.here | apply Take.there)))))) ?_
      rintro vm L1 rfl
      refine swl_app ?_
      refine s_pu (pu_assign rfl) ?_
      refine swl_sub _ (.cons (t := 6) rfl (.cons (t := 7) rfl (.cons (t := 8) rfl (.cons (t := 9) rfl (.cons (t := 14) rfl .nil))))) ?_
      refine swl_nil ?_
      refine then_n ?_
      refine swp_seq ?_
      refine swp_seq ?_
      refine swp_region ?_
      refine s_pu (pu_move rfl) ?_
      refine s_pu (pu_len_own hform rfl) ?_
      refine s_pu (pu_move rfl) ?_
      refine swl_sub _ (.cons (t := 6) rfl (.cons (t := 7) rfl (.cons (t := 8) rfl (.cons (t := 9) rfl (.cons (t := 14) rfl (.cons (t := 113) rfl (.cons (t := 114) rfl .nil))))))) ?_
      refine swl_ent (Split.ent' (K := [own 3 1 vl E.length (E.flatMap (icsk .i64)), own 3 1 vm E.length (E.flatMap (icsk .i64)), mset p n S, ro μ]) (by repeat (first | exact Split.nil | (apply Split.cons; (repeat (first | with_reducible exact Take.here | apply Take.there)))))) ?_
      refine swl_nil ?_
      refine then_n ?_
      refine swp_block ?_
      refine swp_loop (ι := Nat × List Value) (fun k env L => env = [(6, .pointer (some ⟨p, 0, none⟩)), (7, vl), (8, .int .i64 (ee E n E.length)), (9, .int .i64 (ee E n (E.length + 1 - E.length))), (14, vm), (113, .int .i64 (E.length : Nat)), (114, .int .i64 (k.1 : Nat))] ∧ L = [own 3 1 vl E.length k.2, own 3 1 vm E.length (E.flatMap (icsk .i64)), mset p n S, ro μ] ∧ k.1 ≤ E.length ∧ k.2.length = E.length * 1) (fun k => E.length - k.1) (0, E.flatMap (icsk .i64)) ⟨rfl, rfl, Nat.zero_le _, icells_len E⟩ ?_
      rintro ⟨i, cs⟩ env L ⟨rfl, rfl, hi, hcs⟩
      dsimp only at hi hcs ⊢
      refine swp_seq ?_
      refine swp_region ?_
      refine s_pu (pu_lss rfl rfl) ?_
      refine swl_sub _ (.cons (t := 6) rfl (.cons (t := 7) rfl (.cons (t := 8) rfl (.cons (t := 9) rfl (.cons (t := 14) rfl (.cons (t := 113) rfl (.cons (t := 114) rfl (.cons (t := 115) rfl .nil)))))))) ?_
      refine swl_nil ?_
      refine then_n ?_
      refine swp_seq ?_
      refine swp_cond (b := _) rfl (fun h115 => ?_) (fun h115 => ?_)
      · skip   -- 115 T
        have h115' : i < E.length := by have := of_decide_eq_true h115; omega
        refine swp_own (fun h0 l0 _ => by omega) (fun b1 c1 ex1 hv1 h1 h2 h3 h4 => ?_)
        subst hv1
        refine swp_skip ?_
        refine then_n ?_
        refine swp_seq ?_
        refine swp_block ?_
        refine swp_seq ?_
        refine swp_region ?_
        refine s_pu (pu_move rfl) ?_
        refine s_pu (pu_assign rfl) ?_
        refine swl_sub _ (.cons (t := 6) rfl (.cons (t := 7) rfl (.cons (t := 8) rfl (.cons (t := 9) rfl (.cons (t := 14) rfl (.cons (t := 15) rfl (.cons (t := 113) rfl (.cons (t := 114) rfl .nil)))))))) ?_
        refine swl_nil ?_
        refine then_n ?_
        refine swp_region ?_
        refine s_pu (pu_move rfl) ?_
        refine s_pu (pu_move rfl) ?_
        refine s_pu (pu_indexAddr i rfl rfl (by omega) (by omega) (by omega)) ?_
        refine s_ef0 (ef_storeP rfl rfl rfl (by rw [List.length_append]; omega)) ?_
        refine swl_sub _ (.cons (t := 6) rfl (.cons (t := 7) rfl (.cons (t := 8) rfl (.cons (t := 9) rfl (.cons (t := 14) rfl (.cons (t := 113) rfl (.cons (t := 114) rfl .nil))))))) ?_
        refine swl_nil ?_
        refine block_n ?_
        refine then_n ?_
        refine swp_region ?_
        refine s_pu (pu_add_as ((i + 1 : Nat) : Int) rfl rfl (by omega) (by omega) (by omega)) ?_
        refine s_pu (pu_move rfl) ?_
        refine swl_sub _ (.cons (t := 6) rfl (.cons (t := 7) rfl (.cons (t := 8) rfl (.cons (t := 9) rfl (.cons (t := 14) rfl (.cons (t := 113) rfl (.cons (t := 114) rfl .nil))))))) ?_
        rw [List.set_append_left _ _ (by omega)]
        refine swl_ent ((Split.ent' (K := [blk b1 3 (cs.set i (.int .i64 (-7)) ++ ex1), own 3 1 vm E.length (E.flatMap (icsk .i64)), mset p n S, ro μ]) (by repeat (first | exact Split.nil | (apply Split.cons; (repeat (first | with_reducible exact Take.here | apply Take.there)))))).trans (own_close (by rw [List.length_set]; exact hcs) h4 h1 h2)) ?_
        refine swl_nil ?_
        exact then_n ⟨(i + 1, cs.set i (.int .i64 (-7))), ⟨rfl, rfl, h115', by rw [List.length_set]; exact hcs⟩, by show E.length - (i + 1) < E.length - i; omega⟩
      · skip   -- 115 F
        refine swp_exit ?_
        refine then_x ?_
        refine then_x ?_
        refine block_hit rfl ?_
        refine then_n ?_
        refine swp_seq ?_
        refine swp_region ?_
        refine s_pu (pu_move rfl) ?_
        refine s_ef (ef_appendz 40 rfl rfl (by repeat (first | exact Split.nil | (apply Split.cons; (repeat (first | with_reducible exact Take.here | apply Take.there))))) (by decide) (by simp only [maxLen]; omega) (by omega)) ?_
        rintro v'
        skip
        refine swl_sub _ (.cons (t := 6) rfl (.cons (t := 8) rfl (.cons (t := 9) rfl (.cons (t := 14) rfl .nil)))) ?_
        refine swl_nil ?_
        refine then_n ?_
        refine swp_seq ?_
        obtain ⟨a0, a1, a2, a3, -⟩ := hgap E.length (Nat.le_refl _)
        obtain ⟨d0, d1, d2, d3, -⟩ := hgap 0 (Nat.zero_le _)
        rw [ee_end] at a1 a2 a3
        have e1 : E.length + 1 - E.length = 0 + 1 := by omega
        rw [e1]
        rw [ee_zero] at d3
        refine swp_region ?_
        refine s_pu (pu_move rfl) ?_
        refine s_pu (pu_move rfl) ?_
        refine s_pu (pu_add_as (ee E n E.length + 1) rfl rfl (by omega) (by omega) (by omega)) ?_
        refine s_ef (ef_fn (next_m μ p n S (ee E n E.length + 1) hT) rfl rfl (by repeat (first | exact Split.nil | (apply Split.cons; (repeat (first | with_reducible exact Take.here | apply Take.there)))))) ?_
        rintro v1 L1 ⟨x, rfl, hx, rfl⟩
        refine swl_app ?_
        obtain rfl : x = -1 := isNext_uniq hx (.inl ⟨rfl, fun j h1 => by
          rcases Nat.lt_or_ge j n with h | h
          · exact a3 j (by omega) (by omega)
          · exact hSz j h⟩)
        refine s_pu (pu_eql rfl rfl) ?_
        refine s_pu (pu_move rfl) ?_
        refine s_on rfl rfl ?_
        refine s_pu (pu_move rfl) ?_
        refine s_on rfl rfl ?_
        refine s_pu (pu_move rfl) ?_
        refine s_on rfl rfl ?_
        refine s_pu (pu_sub_as (ee E n (0 + 1) - 1) rfl rfl (by omega) (by omega) (by omega)) ?_
        refine s_on rfl rfl ?_
        refine s_ef (ef_fn (last_m p n S (ee E n (0 + 1) - 1)) rfl rfl (by repeat (first | exact Split.nil | (apply Split.cons; (repeat (first | with_reducible exact Take.here | apply Take.there)))))) ?_
        rintro v1 L1 ⟨y, rfl, hy, rfl⟩
        refine swl_app ?_
        obtain rfl : y = -1 := isLast_uniq hy (.inl ⟨rfl, fun j h1 => d3 j (by omega) (by omega)⟩)
        refine s_on rfl rfl ?_
        refine s_pu (pu_eql rfl rfl) ?_
        first | refine s_pu (pu_pick_t rfl rfl) ?_ | refine s_pu (pu_pick_f rfl rfl) ?_
        refine s_pu (pu_move rfl) ?_
        refine s_on rfl rfl ?_
        refine s_pu (pu_move rfl) ?_
        refine s_on rfl rfl ?_
        refine s_pu (pu_move rfl) ?_
        refine s_on rfl rfl ?_
        refine s_ef (ef_fn (hlm p) rfl rfl (by repeat (first | exact Split.nil | (apply Split.cons; (repeat (first | with_reducible exact Take.here | apply Take.there)))))) ?_
        rintro v3 L1 rfl
        refine swl_app ?_
        refine s_on rfl rfl ?_
        refine s_ef (ef_fn (samelist vm v3 E E (by omega) (by omega)) rfl rfl (by repeat (first | exact Split.nil | (apply Split.cons; (repeat (first | with_reducible exact Take.here | apply Take.there)))))) ?_
        rintro v4 L1 ⟨rfl, rfl⟩
        refine swl_app ?_
        first | refine s_pu (pu_pick_t rfl rfl) ?_ | refine s_pu (pu_pick_f rfl rfl) ?_
        refine s_pu (pu_assign rfl) ?_
        refine swl_sub _ (.cons (t := 4) rfl .nil) ?_
        refine swl_nil ?_
        refine then_n ?_
        refine swp_ret ?_
        exact done_ret [ro μ] (.tmp rfl .nil) ⟨by rw [decide_eq_true rfl]; rfl, μ, [], Le.refl _, rfl⟩ (by repeat (first | exact Split.nil | (apply Split.cons; (repeat (first | with_reducible exact Take.here | apply Take.there)))))
end SX
