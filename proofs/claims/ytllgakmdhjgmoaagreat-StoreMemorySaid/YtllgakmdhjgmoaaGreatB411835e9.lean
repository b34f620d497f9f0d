/- A part of the proof: walks of the program's functions, and the rules by which they go. -/
import Derived.Test.YtllgakmdhjgmoaaGreatBddc441a4
import Derived.Test.YtllgakmdhjgmoaaGreatB9a0af180
import Derived.Test.YtllgakmdhjgmoaaGreatBc7e21835
namespace SX
open Go Go.Proofs
theorem rawR_ok {s : List UInt8} {n pos : Nat} (h : pos + n ≤ s.length) : rawR s n (pos, 0) = (pos + n, 0) ∧ rawV s n (pos, 0) = (s.drop pos).take n := by
  constructor
  · unfold rawR; rw [if_neg (fun k => k rfl), if_neg (by show ¬ s.length < pos + n; omega)]
  · unfold rawV; rw [if_neg (by rintro (k | k); exact k rfl; exact absurd k (by show ¬ s.length < pos + n; omega))]
theorem rawR_no {s : List UInt8} {n pos : Nat} (h : s.length < pos + n) : rawR s n (pos, 0) = (pos, 2) ∧ rawV s n (pos, 0) = [] := by
  constructor
  · unfold rawR; rw [if_neg (fun k => k rfl), if_pos h]
  · unfold rawV; rw [if_pos (.inr h)]
theorem rawR_err {s : List UInt8} {n : Nat} {r : RS} (h : r.2 ≠ 0) : rawR s n r = r ∧ rawV s n r = [] := by
  constructor
  · unfold rawR; rw [if_pos h]
  · unfold rawV; rw [if_pos (.inl h)]
theorem raw_e0 {s : List UInt8} {n pos : Nat} (h : (rawR s n (pos, 0)).2 = 0) : pos + n ≤ s.length := by
  refine Nat.le_of_not_lt fun k => ?_
  rw [(rawR_no k).1] at h
  exact absurd h (by show ¬ (2 : Int) = 0; decide)
theorem raw_e1 {s : List UInt8} {n pos : Nat} (h : (rawR s n (pos, 0)).2 ≠ 0) : s.length < pos + n := by
  refine Nat.lt_of_not_le fun k => ?_
  rw [(rawR_ok k).1] at h
  exact h rfl
theorem entP_short {s : List UInt8} {first : Bool} {last : List UInt8} {pos : Nat} (h : s.length < pos + 2) : entP s first last pos = none := by
  unfold entP; rw [if_pos h]
theorem entP_far {s : List UInt8} {first : Bool} {last : List UInt8} {pos : Nat} (h : last.length < valB ((s.drop pos).take 1)) : entP s first last pos = none := by
  unfold entP
  split
  · rfl
  · first | rfl | rw [if_pos h]
theorem entP_rest {s : List UInt8} {first : Bool} {last : List UInt8} {pos k : Nat} (h : valB ((s.drop (pos + 1)).take 1) = k) (h2 : s.length < pos + 2 + k) : entP s first last pos = none := by
  unfold entP
  rw [h]
  split
  · rfl
  · split
    · rfl
    · first | rfl | rw [if_pos h2]
theorem entP_form {s : List UInt8} {first : Bool} {last path : List UInt8} {pos n k : Nat} (hn : valB ((s.drop pos).take 1) = n) (h : valB ((s.drop (pos + 1)).take 1) = k) (hp : last.take n ++ (s.drop (pos + 2)).take k = path)
    (h2 : 255 < path.length ∨ lcp last path ≠ n ∨ (first = false ∧ strLt (str last) (str path) = false)) : entP s first last pos = none := by
  unfold entP
  rw [h, hn, hp]
  split
  · rfl
  · split
    · rfl
    · split
      · rfl
      · first | rfl | rw [if_pos h2]
theorem entP_blob {s : List UInt8} {first : Bool} {last : List UInt8} {pos k : Nat} (h : valB ((s.drop (pos + 1)).take 1) = k) (h2 : s.length < pos + 2 + k + 4 ∨ valB ((s.drop (pos + 2 + k)).take 4) = 0) : entP s first last pos = none := by
  unfold entP
  rw [h]
  split
  · rfl
  · split
    · rfl
    · split
      · rfl
      · split
        · rfl
        · split
          · rfl
          · rw [if_pos (h2.resolve_left (by assumption))]
theorem entP_some {s : List UInt8} {first : Bool} {last path : List UInt8} {pos n k : Nat} (hn : valB ((s.drop pos).take 1) = n) (h : valB ((s.drop (pos + 1)).take 1) = k) (hp : last.take n ++ (s.drop (pos + 2)).take k = path)
    (hN : n ≤ last.length) (h1 : path.length ≤ 255) (h2 : lcp last path = n) (h3 : first = false → strLt (str last) (str path) = true) (h4 : pos + 2 + k + 4 ≤ s.length) (h5 : valB ((s.drop (pos + 2 + k)).take 4) ≠ 0) :
    entP s first last pos = some ((path, valB ((s.drop (pos + 2 + k)).take 4)), pos + 2 + k + 4) := by
  unfold entP
  rw [h, hn, hp, if_neg om0, if_neg om0, if_neg om0, if_neg, if_neg om0, if_neg h5]
  rintro (q | q | ⟨q, q'⟩)
  · omega
  · exact q h2
  · rw [h3 q] at q'; cases q'
theorem leq_T {a b : ByteArray} (h : (strLt a b || strEq a b) = true) : strLt b a = false := by
  rcases Bool.or_eq_true_iff.1 h with h | h
  · exact strLt_asym h
  · rw [strEq_iff.1 h]; exact strLt_irrefl _
theorem leq_F {a b : ByteArray} (h : (strLt a b || strEq a b) = false) : strLt b a = true := by
  obtain ⟨h1, h2⟩ := Bool.or_eq_false_iff.1 h
  rcases strLt_total a b with k | k | k
  · rw [k] at h1; cases h1
  · rw [k, strEq_refl] at h2; cases h2
  · exact k
/-- what entry leaves -/
def EntQ (s : List UInt8) (first : Bool) (last : List UInt8) (pos : Nat) (x : List UInt8 × Nat) (e : Int) (r : RS) : Prop :=
  (e = 0 ∧ r.2 = 0 ∧ entP s first last pos = some (x, r.1)) ∨ (e ≠ 0 ∧ entP s first last pos = none ∧ r.1 ≤ s.length)
set_option maxHeartbeats 4000000 in
theorem entry_spec (p : Nat) (s last : List UInt8) (first : Bool) (pos : Nat) (hs : s.length ≤ 1073741824) (hpos : pos ≤ s.length) (hl : last.length ≤ 255) :
    Spec Tryz.prog 145 [.pointer (some ⟨p, 0, none⟩), .bool first, .string (str last)] [rdB p s (pos, 0)] (fun v L => ∃ x e r, v = .tuple #[.agg #[.string (str x.1), .int .u32 (x.2 : Nat)], .int .i64 e] ∧ L = [rdB p s r] ∧ EntQ s first last pos x e r) := by
  refine Spec.of 87 Tryz.func145 rfl rfl rfl ?_
  refine swp_sr ?_
  refine s_ef (ef_alloc) ?_
  intro b6
  refine s_as rfl ?_
  refine swl_sub _ (sc0 0 rfl (sc0 1 rfl (sc0 2 rfl (sc0 6 rfl .nil)))) ?_
  refine swl_nn ?_
  refine swp_sr ?_
  refine s_mv rfl ?_
  refine s_ef (ef_fn (rdU8_spec p s (pos, 0) hs hpos) rfl rfl sp0) ?_
  rintro v17 L1 ⟨rfl, rfl⟩
  refine swl_app ?_
  refine s_mv rfl ?_
  first | refine s_pu (pu_extractL rfl) ?_ | refine s_pu (pu_extract rfl rfl) ?_
  first | refine s_pu (pu_extractL rfl) ?_ | refine s_pu (pu_extract rfl rfl) ?_
  refine s_as rfl ?_
  refine s_as rfl ?_
  refine swl_sub _ (sc0 0 rfl (sc0 1 rfl (sc0 2 rfl (sc0 6 rfl (sc0 8 rfl (sc0 9 rfl .nil)))))) ?_
  refine swl_nn ?_
  refine swp_seq ?_
  refine swp_sr ?_
  refine s_mv rfl ?_
  refine s_pu (pu_eql rfl rfl) ?_
  refine s_mv rfl ?_
  refine s_split 22 rfl (fun h22 => ?_) (fun h22 => ?_)
  · skip   -- 22 T
    have hA : pos + 1 ≤ s.length := raw_e0 (of_decide_eq_true h22)
    rw [(rawR_ok hA).1, (rawR_ok hA).2]
    have hn := valB_lt1 (l := (s.drop pos).take 1) (by rw [List.length_take]; exact Nat.min_le_left _ _)
    generalize hN : valB ((s.drop pos).take 1) = n at *
    refine s_on rfl rfl ?_
    refine s_mv rfl ?_
    refine s_on rfl rfl ?_
    refine s_pu (pu_conv_i64 rfl om0 om0) ?_
    refine s_on rfl rfl ?_
    refine s_mv rfl ?_
    refine s_on rfl rfl ?_
    refine s_pu (pu_strln rfl) ?_
    refine s_on rfl rfl ?_
    refine s_pu (pu_gtr rfl rfl) ?_
    first | refine s_pu (pu_pick_t rfl rfl) ?_ | refine s_pu (pu_pick_f rfl rfl) ?_
    refine swl_sub _ (sc0 0 rfl (sc0 1 rfl (sc0 2 rfl (sc0 6 rfl (sc0 8 rfl (sc0 28 rfl .nil)))))) ?_
    refine swl_nn ?_
    refine swp_cond (b := _) rfl (fun h28 => ?_) (fun h28 => ?_)
    · skip   -- 28 T
      refine swp_sr ?_
      refine s_pu (pu_bld (qs := []) rfl) ?_
      refine s_ef0 (ef_storeA rfl rfl rfl rfl) ?_
      refine s_as rfl ?_
      refine swl_sub _ (sc0 6 rfl (sc0 7 rfl .nil)) ?_
      refine swl_nn ?_
      refine swp_ret ?_
      refine then_r ?_
      have hB : last.length < n := by have := of_decide_eq_true h28; omega
      exact done_ret [rdB p s (pos + 1, 0)] (.cell rfl (ld_whole rfl) (.tmp rfl .nil)) ⟨([], 0), 3, _, rfl, rfl, .inr ⟨by decide, entP_far (by rw [hN]; exact hB), hA⟩⟩ sp0
    · skip   -- 28 F
      have hB : n ≤ last.length := by have := of_decide_eq_false h28; omega
      refine swp_skip ?_
      refine then_n ?_
      refine swp_sr ?_
      refine s_mv rfl ?_
      refine s_ef (ef_fn (rdU8_spec p s (pos + 1, 0) hs hA) rfl rfl sp0) ?_
      rintro v32 L1 ⟨rfl, rfl⟩
      have hk := valB_lt1 (l := rawV s 1 (pos + 1, 0)) (rawV_len _ _ _)
      have hr2 := rawR_le (n := 1) (r := (pos + 1, 0)) hA
      refine swl_app ?_
      refine s_mv rfl ?_
      first | refine s_pu (pu_extractL rfl) ?_ | refine s_pu (pu_extract rfl rfl) ?_
      first | refine s_pu (pu_extractL rfl) ?_ | refine s_pu (pu_extract rfl rfl) ?_
      refine s_as rfl ?_
      refine s_as rfl ?_
      refine swl_sub _ (sc0 0 rfl (sc0 1 rfl (sc0 2 rfl (sc0 6 rfl (sc0 8 rfl (sc0 10 rfl .nil)))))) ?_
      refine swl_nn ?_
      refine swp_sr ?_
      refine s_mv rfl ?_
      refine s_mv rfl ?_
      refine s_pu (pu_conv_i64 rfl (by first | omega | decide) (by first | omega | decide)) ?_
      refine s_ef (ef_fn (rdRaw_spec p s (rawR s 1 (pos + 1, 0)) (valB (rawV s 1 (pos + 1, 0))) hs hr2 om0) rfl rfl sp0) ?_
      rintro v39 L1 ⟨rfl, rfl⟩
      refine swl_app ?_
      refine s_mv rfl ?_
      first | refine s_pu (pu_extractL rfl) ?_ | refine s_pu (pu_extract rfl rfl) ?_
      first | refine s_pu (pu_extractL rfl) ?_ | refine s_pu (pu_extract rfl rfl) ?_
      refine s_as rfl ?_
      refine s_as rfl ?_
      refine swl_sub _ (sc0 0 rfl (sc0 1 rfl (sc0 2 rfl (sc0 6 rfl (sc0 8 rfl (sc0 9 rfl (sc0 12 rfl .nil))))))) ?_
      refine swl_nn ?_
      refine swp_seq ?_
      refine swp_sr ?_
      refine s_mv rfl ?_
      refine s_pu (pu_neq rfl rfl) ?_
      refine swl_sub _ (sc0 0 rfl (sc0 1 rfl (sc0 2 rfl (sc0 6 rfl (sc0 8 rfl (sc0 9 rfl (sc0 12 rfl (sc0 43 rfl .nil)))))))) ?_
      refine swl_nn ?_
      refine swp_cond (b := _) rfl (fun h43 => ?_) (fun h43 => ?_)
      · skip   -- 43 T
        refine swp_sr ?_
        refine s_pu (pu_bld (qs := []) rfl) ?_
        refine s_mv rfl ?_
        refine s_ef0 (ef_storeA rfl rfl rfl rfl) ?_
        refine s_as rfl ?_
        refine swl_sub _ (sc0 6 rfl (sc0 7 rfl .nil)) ?_
        refine swl_nn ?_
        refine swp_ret ?_
        refine then_r ?_
        have h43' : (rawR s (valB (rawV s 1 (pos + 1, 0))) (rawR s 1 (pos + 1, 0))).2 ≠ 0 := by simpa using h43
        refine done_ret [rdB p s _] (.cell rfl (ld_whole rfl) (.tmp rfl .nil)) ⟨([], 0), _, _, rfl, rfl, .inr ⟨h43', ?_, rawR_le hr2⟩⟩ sp0
        by_cases hC : s.length < pos + 2
        · exact entP_short hC
        · rw [(rawR_ok (s := s) (n := 1) (pos := pos + 1) om0).1, (rawR_ok (s := s) (n := 1) (pos := pos + 1) om0).2] at h43'
          exact entP_rest rfl (raw_e1 h43')
      · skip   -- 43 F
        have h43' : (rawR s (valB (rawV s 1 (pos + 1, 0))) (rawR s 1 (pos + 1, 0))).2 = 0 := by simpa using h43
        have hC : pos + 1 + 1 ≤ s.length := by
          refine Nat.le_of_not_lt fun k => ?_
          rw [(rawR_no (s := s) (n := 1) (pos := pos + 1) k).1, (rawR_err (s := s) (r := (pos + 1, 2)) (by show ¬ (2 : Int) = 0; decide)).1] at h43'
          exact absurd h43' (by show ¬ (2 : Int) = 0; decide)
        rw [(rawR_ok hC).1, (rawR_ok hC).2] at *
        have hD := raw_e0 h43'
        rw [(rawR_ok hD).1, (rawR_ok hD).2]
        generalize hK : valB ((s.drop (pos + 1)).take 1) = k at *
        generalize hP : last.take n ++ (s.drop (pos + 1 + 1)).take k = path
        refine swp_skip ?_
        refine then_n ?_
        refine swp_sr ?_
        refine s_mv rfl ?_
        refine s_mv rfl ?_
        refine s_pu (pu_strhi n rfl rfl rfl hB) ?_
        refine s_mv rfl ?_
        refine s_pu (pu_strcat rfl rfl (by rw [List.length_take, List.length_take]; omega)) ?_
        refine s_as rfl ?_
        refine swl_sub _ (sc0 0 rfl (sc0 1 rfl (sc0 2 rfl (sc0 6 rfl (sc0 8 rfl (sc0 13 rfl .nil)))))) ?_
        refine swl_nn ?_
        refine swp_seq ?_
        refine swp_seq ?_
        rw [hP]
        refine swp_region ?_
        refine s_mv rfl ?_
        refine s_pu (pu_strln rfl) ?_
        refine s_pu (pu_gtr rfl rfl) ?_
        refine s_mv rfl ?_
        refine s_split 54 rfl (fun h54 => ?_) (fun h54 => ?_)
        · skip   -- 54 T
          have hF : 255 < path.length := by have := of_decide_eq_true h54; omega
          refine s_off rfl rfl rfl ?_
          refine s_off rfl rfl rfl ?_
          refine s_off rfl rfl rfl ?_
          refine s_off rfl rfl rfl ?_
          refine s_off rfl rfl rfl ?_
          refine s_off rfl rfl rfl ?_
          first | refine s_pu (pu_pick_t rfl rfl) ?_ | refine s_pu (pu_pick_f rfl rfl) ?_
          refine s_mv rfl ?_
          refine s_split 62 rfl (fun h62 => ?_) (fun h62 => by cases h62)
          refine s_off rfl rfl rfl ?_
          refine s_off rfl rfl rfl ?_
          refine s_off rfl rfl rfl ?_
          refine s_off rfl rfl rfl ?_
          refine s_off rfl rfl rfl ?_
          refine s_off rfl rfl rfl ?_
          refine s_off rfl rfl rfl ?_
          first | refine s_pu (pu_pick_t rfl rfl) ?_ | refine s_pu (pu_pick_f rfl rfl) ?_
          refine swl_sub _ (sc0 0 rfl (sc0 6 rfl (sc0 13 rfl (sc0 70 rfl .nil)))) ?_
          refine swl_nn ?_
          refine swp_cond (b := _) rfl (fun h70 => ?_) (fun h70 => by cases h70)
          refine swp_sr ?_
          refine s_pu (pu_bld (qs := []) rfl) ?_
          refine s_ef0 (ef_storeA rfl rfl rfl rfl) ?_
          refine s_as rfl ?_
          refine swl_sub _ (sc0 6 rfl (sc0 7 rfl .nil)) ?_
          refine swl_nn ?_
          refine swp_ret ?_
          refine then_r ?_
          exact done_ret [rdB p s _] (.cell rfl (ld_whole rfl) (.tmp rfl .nil)) ⟨([], 0), 3, _, rfl, rfl, .inr ⟨by decide, entP_form hN hK hP (.inl hF), hD⟩⟩ sp0
        · skip   -- 54 F
          have hF : path.length ≤ 255 := by have := of_decide_eq_false h54; omega
          refine s_on rfl rfl ?_
          refine s_mv rfl ?_
          refine s_on rfl rfl ?_
          refine s_mv rfl ?_
          refine s_on rfl rfl ?_
          refine s_ef (ef_fn (alike_spec last path om0 om0) rfl rfl sp0) ?_
          rintro v57 L1 ⟨rfl, rfl⟩
          refine swl_app ?_
          refine s_on rfl rfl ?_
          refine s_mv rfl ?_
          refine s_on rfl rfl ?_
          refine s_pu (pu_conv_i64 rfl om0 om0) ?_
          refine s_on rfl rfl ?_
          refine s_pu (pu_neq rfl rfl) ?_
          first | refine s_pu (pu_pick_t rfl rfl) ?_ | refine s_pu (pu_pick_f rfl rfl) ?_
          refine s_mv rfl ?_
          refine s_split 62 rfl (fun h62 => ?_) (fun h62 => ?_)
          · skip   -- 62 T
            have hG : lcp last path ≠ n := fun e => by rw [e] at h62; simp at h62
            refine s_off rfl rfl rfl ?_
            refine s_off rfl rfl rfl ?_
            refine s_off rfl rfl rfl ?_
            refine s_off rfl rfl rfl ?_
            refine s_off rfl rfl rfl ?_
            refine s_off rfl rfl rfl ?_
            refine s_off rfl rfl rfl ?_
            first | refine s_pu (pu_pick_t rfl rfl) ?_ | refine s_pu (pu_pick_f rfl rfl) ?_
            refine swl_sub _ (sc0 0 rfl (sc0 6 rfl (sc0 13 rfl (sc0 70 rfl .nil)))) ?_
            refine swl_nn ?_
            refine swp_cond (b := _) rfl (fun h70 => ?_) (fun h70 => by cases h70)
            refine swp_sr ?_
            refine s_pu (pu_bld (qs := []) rfl) ?_
            refine s_ef0 (ef_storeA rfl rfl rfl rfl) ?_
            refine s_as rfl ?_
            refine swl_sub _ (sc0 6 rfl (sc0 7 rfl .nil)) ?_
            refine swl_nn ?_
            refine swp_ret ?_
            refine then_r ?_
            exact done_ret [rdB p s _] (.cell rfl (ld_whole rfl) (.tmp rfl .nil)) ⟨([], 0), 3, _, rfl, rfl, .inr ⟨by decide, entP_form hN hK hP (.inr (.inl hG)), hD⟩⟩ sp0
          · skip   -- 62 F
            have hG : lcp last path = n := by
              have h62' : ((lcp last path : Nat) : Int) = (n : Nat) := by simpa using h62
              omega
            refine s_on rfl rfl ?_
            refine s_mv rfl ?_
            refine s_on rfl rfl ?_
            refine s_pu (pu_not rfl) ?_
            refine s_on rfl rfl ?_
            refine s_mv rfl ?_
            refine s_split 65 rfl (fun h65 => ?_) (fun h65 => ?_)
            · skip   -- 65 T
              have hH : first = false := by simpa using h65
              refine s_on rfl rfl ?_
              refine s_mv rfl ?_
              refine s_on rfl rfl ?_
              refine s_mv rfl ?_
              refine s_on rfl rfl ?_
              refine s_pu (pu_str_leq rfl rfl) ?_
              refine s_on rfl rfl ?_
              first | refine s_pu (pu_pick_t rfl rfl) ?_ | refine s_pu (pu_pick_f rfl rfl) ?_
              first | refine s_pu (pu_pick_t rfl rfl) ?_ | refine s_pu (pu_pick_f rfl rfl) ?_
              refine swl_sub _ (sc0 0 rfl (sc0 6 rfl (sc0 13 rfl (sc0 70 rfl .nil)))) ?_
              refine swl_nn ?_
              refine swp_cond (b := _) rfl (fun h70 => ?_) (fun h70 => ?_)
              · skip   -- 70 T
                have hI : strLt (str last) (str path) = false := leq_T h70
                refine swp_sr ?_
                refine s_pu (pu_bld (qs := []) rfl) ?_
                refine s_ef0 (ef_storeA rfl rfl rfl rfl) ?_
                refine s_as rfl ?_
                refine swl_sub _ (sc0 6 rfl (sc0 7 rfl .nil)) ?_
                refine swl_nn ?_
                refine swp_ret ?_
                refine then_r ?_
                exact done_ret [rdB p s _] (.cell rfl (ld_whole rfl) (.tmp rfl .nil)) ⟨([], 0), 3, _, rfl, rfl, .inr ⟨by decide, entP_form hN hK hP (.inr (.inr ⟨hH, hI⟩)), hD⟩⟩ sp0
              · skip   -- 70 F
                have hI : strLt (str last) (str path) = true := leq_F h70
                have hJ : first = false → strLt (str last) (str path) = true := fun _ => hI
                refine swp_skip ?_
                refine then_n ?_
                refine swp_sr ?_
                refine s_mv rfl ?_
                refine s_ef (ef_fn (rdU32_spec p s (pos + 1 + 1 + k, 0) hs hD) rfl rfl sp0) ?_
                rintro v74 L1 ⟨rfl, rfl⟩
                refine swl_app ?_
                refine s_mv rfl ?_
                first | refine s_pu (pu_extractL rfl) ?_ | refine s_pu (pu_extract rfl rfl) ?_
                first | refine s_pu (pu_extractL rfl) ?_ | refine s_pu (pu_extract rfl rfl) ?_
                refine s_as rfl ?_
                refine s_as rfl ?_
                refine swl_sub _ (sc0 6 rfl (sc0 9 rfl (sc0 13 rfl (sc0 14 rfl .nil)))) ?_
                refine swl_nn ?_
                refine swp_seq ?_
                refine swp_sr ?_
                refine s_mv rfl ?_
                refine s_pu (pu_eql rfl rfl) ?_
                refine s_mv rfl ?_
                refine s_split 79 rfl (fun h79 => ?_) (fun h79 => ?_)
                · skip   -- 79 T
                  refine s_on rfl rfl ?_
                  refine s_mv rfl ?_
                  refine s_on rfl rfl ?_
                  refine s_pu (pu_eql rfl rfl) ?_
                  first | refine s_pu (pu_pick_t rfl rfl) ?_ | refine s_pu (pu_pick_f rfl rfl) ?_
                  refine swl_sub _ (sc0 6 rfl (sc0 9 rfl (sc0 13 rfl (sc0 14 rfl (sc0 82 rfl .nil))))) ?_
                  refine swl_nn ?_
                  refine swp_cond (b := _) rfl (fun h82 => ?_) (fun h82 => ?_)
                  · skip   -- 82 T
                    refine swp_region ?_
                    refine s_as rfl ?_
                    refine swl_sub _ (sc0 6 rfl (sc0 9 rfl (sc0 13 rfl (sc0 14 rfl .nil)))) ?_
                    refine swl_nn ?_
                    refine swp_sr ?_
                    refine s_mv rfl ?_
                    refine s_mv rfl ?_
                    refine s_pu (pu_bld (qs := [(0, _), (1, _)]) rfl) ?_
                    refine s_mv rfl ?_
                    refine s_ef0 (ef_storeA rfl rfl rfl rfl) ?_
                    refine s_as rfl ?_
                    refine swl_sub _ (sc0 6 rfl (sc0 7 rfl .nil)) ?_
                    refine swl_nn ?_
                    refine swp_ret ?_
                    have hE := raw_e0 (of_decide_eq_true h79)
                    rw [(rawR_ok hE).1, (rawR_ok hE).2] at *
                    have h82' : valB ((s.drop (pos + 1 + 1 + k)).take 4) = 0 := by have := of_decide_eq_true h82; omega
                    exact done_ret [rdB p s _] (.cell rfl (ld_whole rfl) (.tmp rfl .nil)) ⟨(path, _), 3, _, rfl, rfl, .inr ⟨by decide, entP_blob hK (.inr h82'), hE⟩⟩ sp0
                  · skip   -- 82 F
                    refine swp_skip ?_
                    refine then_n ?_
                    refine swp_sr ?_
                    refine s_mv rfl ?_
                    refine s_mv rfl ?_
                    refine s_pu (pu_bld (qs := [(0, _), (1, _)]) rfl) ?_
                    refine s_mv rfl ?_
                    refine s_ef0 (ef_storeA rfl rfl rfl rfl) ?_
                    refine s_as rfl ?_
                    refine swl_sub _ (sc0 6 rfl (sc0 7 rfl .nil)) ?_
                    refine swl_nn ?_
                    refine swp_ret ?_
                    have h79' := of_decide_eq_true h79
                    have hE := raw_e0 h79'
                    rw [(rawR_ok hE).1, (rawR_ok hE).2] at *
                    have h82' : valB ((s.drop (pos + 1 + 1 + k)).take 4) ≠ 0 := by have := of_decide_eq_false h82; omega
                    exact done_ret [rdB p s _] (.cell rfl (ld_whole rfl) (.tmp rfl .nil)) ⟨(path, valB ((s.drop (pos + 1 + 1 + k)).take 4)), 0, (pos + 1 + 1 + k + 4, 0), rfl, rfl, .inl ⟨rfl, rfl, entP_some hN hK hP hB hF hG hJ hE h82'⟩⟩ sp0
                · skip   -- 79 F
                  refine s_off rfl rfl rfl ?_
                  refine s_off rfl rfl rfl ?_
                  first | refine s_pu (pu_pick_t rfl rfl) ?_ | refine s_pu (pu_pick_f rfl rfl) ?_
                  refine swl_sub _ (sc0 6 rfl (sc0 9 rfl (sc0 13 rfl (sc0 14 rfl (sc0 82 rfl .nil))))) ?_
                  refine swl_nn ?_
                  refine swp_cond (b := _) rfl (fun h82 => by cases h82) (fun h82 => ?_)
                  refine swp_skip ?_
                  refine then_n ?_
                  refine swp_sr ?_
                  refine s_mv rfl ?_
                  refine s_mv rfl ?_
                  refine s_pu (pu_bld (qs := [(0, _), (1, _)]) rfl) ?_
                  refine s_mv rfl ?_
                  refine s_ef0 (ef_storeA rfl rfl rfl rfl) ?_
                  refine s_as rfl ?_
                  refine swl_sub _ (sc0 6 rfl (sc0 7 rfl .nil)) ?_
                  refine swl_nn ?_
                  refine swp_ret ?_
                  have h79' := of_decide_eq_false h79
                  exact done_ret [rdB p s _] (.cell rfl (ld_whole rfl) (.tmp rfl .nil)) ⟨(path, _), _, _, rfl, rfl, .inr ⟨h79', entP_blob hK (.inl (raw_e1 h79')), rawR_le hD⟩⟩ sp0
            · skip   -- 65 F
              have hH : first = true := by simpa using h65
              have hJ : first = false → strLt (str last) (str path) = true := fun e => by rw [hH] at e; cases e
              refine s_off rfl rfl rfl ?_
              refine s_off rfl rfl rfl ?_
              refine s_off rfl rfl rfl ?_
              refine s_on rfl rfl ?_
              first | refine s_pu (pu_pick_t rfl rfl) ?_ | refine s_pu (pu_pick_f rfl rfl) ?_
              first | refine s_pu (pu_pick_t rfl rfl) ?_ | refine s_pu (pu_pick_f rfl rfl) ?_
              refine swl_sub _ (sc0 0 rfl (sc0 6 rfl (sc0 13 rfl (sc0 70 rfl .nil)))) ?_
              refine swl_nn ?_
              refine swp_cond (b := _) rfl (fun h70 => by cases h70) (fun h70 => ?_)
              refine swp_skip ?_
              refine then_n ?_
              refine swp_sr ?_
              refine s_mv rfl ?_
              refine s_ef (ef_fn (rdU32_spec p s (pos + 1 + 1 + k, 0) hs hD) rfl rfl sp0) ?_
              rintro v74 L1 ⟨rfl, rfl⟩
              refine swl_app ?_
              refine s_mv rfl ?_
              first | refine s_pu (pu_extractL rfl) ?_ | refine s_pu (pu_extract rfl rfl) ?_
              first | refine s_pu (pu_extractL rfl) ?_ | refine s_pu (pu_extract rfl rfl) ?_
              refine s_as rfl ?_
              refine s_as rfl ?_
              refine swl_sub _ (sc0 6 rfl (sc0 9 rfl (sc0 13 rfl (sc0 14 rfl .nil)))) ?_
              refine swl_nn ?_
              refine swp_seq ?_
              refine swp_sr ?_
              refine s_mv rfl ?_
              refine s_pu (pu_eql rfl rfl) ?_
              refine s_mv rfl ?_
              refine s_split 79 rfl (fun h79 => ?_) (fun h79 => ?_)
              · skip   -- 79 T
                refine s_on rfl rfl ?_
                refine s_mv rfl ?_
                refine s_on rfl rfl ?_
                refine s_pu (pu_eql rfl rfl) ?_
                first | refine s_pu (pu_pick_t rfl rfl) ?_ | refine s_pu (pu_pick_f rfl rfl) ?_
                refine swl_sub _ (sc0 6 rfl (sc0 9 rfl (sc0 13 rfl (sc0 14 rfl (sc0 82 rfl .nil))))) ?_
                refine swl_nn ?_
                refine swp_cond (b := _) rfl (fun h82 => ?_) (fun h82 => ?_)
                · skip   -- 82 T
                  refine swp_region ?_
                  refine s_as rfl ?_
                  refine swl_sub _ (sc0 6 rfl (sc0 9 rfl (sc0 13 rfl (sc0 14 rfl .nil)))) ?_
                  refine swl_nn ?_
                  refine swp_sr ?_
                  refine s_mv rfl ?_
                  refine s_mv rfl ?_
                  refine s_pu (pu_bld (qs := [(0, _), (1, _)]) rfl) ?_
                  refine s_mv rfl ?_
                  refine s_ef0 (ef_storeA rfl rfl rfl rfl) ?_
                  refine s_as rfl ?_
                  refine swl_sub _ (sc0 6 rfl (sc0 7 rfl .nil)) ?_
                  refine swl_nn ?_
                  refine swp_ret ?_
                  have hE := raw_e0 (of_decide_eq_true h79)
                  rw [(rawR_ok hE).1, (rawR_ok hE).2] at *
                  have h82' : valB ((s.drop (pos + 1 + 1 + k)).take 4) = 0 := by have := of_decide_eq_true h82; omega
                  exact done_ret [rdB p s _] (.cell rfl (ld_whole rfl) (.tmp rfl .nil)) ⟨(path, _), 3, _, rfl, rfl, .inr ⟨by decide, entP_blob hK (.inr h82'), hE⟩⟩ sp0
                · skip   -- 82 F
                  refine swp_skip ?_
                  refine then_n ?_
                  refine swp_sr ?_
                  refine s_mv rfl ?_
                  refine s_mv rfl ?_
                  refine s_pu (pu_bld (qs := [(0, _), (1, _)]) rfl) ?_
                  refine s_mv rfl ?_
                  refine s_ef0 (ef_storeA rfl rfl rfl rfl) ?_
                  refine s_as rfl ?_
                  refine swl_sub _ (sc0 6 rfl (sc0 7 rfl .nil)) ?_
                  refine swl_nn ?_
                  refine swp_ret ?_
                  have h79' := of_decide_eq_true h79
                  have hE := raw_e0 h79'
                  rw [(rawR_ok hE).1, (rawR_ok hE).2] at *
                  have h82' : valB ((s.drop (pos + 1 + 1 + k)).take 4) ≠ 0 := by have := of_decide_eq_false h82; omega
                  exact done_ret [rdB p s _] (.cell rfl (ld_whole rfl) (.tmp rfl .nil)) ⟨(path, valB ((s.drop (pos + 1 + 1 + k)).take 4)), 0, (pos + 1 + 1 + k + 4, 0), rfl, rfl, .inl ⟨rfl, rfl, entP_some hN hK hP hB hF hG hJ hE h82'⟩⟩ sp0
              · skip   -- 79 F
                refine s_off rfl rfl rfl ?_
                refine s_off rfl rfl rfl ?_
                first | refine s_pu (pu_pick_t rfl rfl) ?_ | refine s_pu (pu_pick_f rfl rfl) ?_
                refine swl_sub _ (sc0 6 rfl (sc0 9 rfl (sc0 13 rfl (sc0 14 rfl (sc0 82 rfl .nil))))) ?_
                refine swl_nn ?_
                refine swp_cond (b := _) rfl (fun h82 => by cases h82) (fun h82 => ?_)
                refine swp_skip ?_
                refine then_n ?_
                refine swp_sr ?_
                refine s_mv rfl ?_
                refine s_mv rfl ?_
                refine s_pu (pu_bld (qs := [(0, _), (1, _)]) rfl) ?_
                refine s_mv rfl ?_
                refine s_ef0 (ef_storeA rfl rfl rfl rfl) ?_
                refine s_as rfl ?_
                refine swl_sub _ (sc0 6 rfl (sc0 7 rfl .nil)) ?_
                refine swl_nn ?_
                refine swp_ret ?_
                have h79' := of_decide_eq_false h79
                exact done_ret [rdB p s _] (.cell rfl (ld_whole rfl) (.tmp rfl .nil)) ⟨(path, _), _, _, rfl, rfl, .inr ⟨h79', entP_blob hK (.inl (raw_e1 h79')), rawR_le hD⟩⟩ sp0
  · skip   -- 22 F
    have hZ := raw_e1 (of_decide_eq_false h22)
    rw [(rawR_no hZ).1, (rawR_no hZ).2]
    have hr2 : ((pos, 2) : RS).2 ≠ 0 := by show ¬ (2 : Int) = 0; decide
    refine s_off rfl rfl rfl ?_
    refine s_off rfl rfl rfl ?_
    refine s_off rfl rfl rfl ?_
    refine s_off rfl rfl rfl ?_
    refine s_off rfl rfl rfl ?_
    first | refine s_pu (pu_pick_t rfl rfl) ?_ | refine s_pu (pu_pick_f rfl rfl) ?_
    refine swl_sub _ (sc0 0 rfl (sc0 1 rfl (sc0 2 rfl (sc0 6 rfl (sc0 8 rfl (sc0 28 rfl .nil)))))) ?_
    refine swl_nn ?_
    refine swp_cond (b := _) rfl (fun h28 => by cases h28) (fun h28 => ?_)
    refine swp_skip ?_
    refine then_n ?_
    refine swp_sr ?_
    refine s_mv rfl ?_
    refine s_ef (ef_fn (rdU8_spec p s (pos, 2) hs hpos) rfl rfl sp0) ?_
    rintro v32 L1 ⟨rfl, rfl⟩
    rw [(rawR_err hr2).1, (rawR_err hr2).2]
    refine swl_app ?_
    refine s_mv rfl ?_
    first | refine s_pu (pu_extractL rfl) ?_ | refine s_pu (pu_extract rfl rfl) ?_
    first | refine s_pu (pu_extractL rfl) ?_ | refine s_pu (pu_extract rfl rfl) ?_
    refine s_as rfl ?_
    refine s_as rfl ?_
    refine swl_sub _ (sc0 0 rfl (sc0 1 rfl (sc0 2 rfl (sc0 6 rfl (sc0 8 rfl (sc0 10 rfl .nil)))))) ?_
    refine swl_nn ?_
    refine swp_sr ?_
    refine s_mv rfl ?_
    refine s_mv rfl ?_
    refine s_pu (pu_conv_i64 rfl (by first | omega | decide) (by first | omega | decide)) ?_
    refine s_ef (ef_fn (rdRaw_spec p s (pos, 2) 0 hs hpos om0) rfl rfl sp0) ?_
    rintro v39 L1 ⟨rfl, rfl⟩
    rw [(rawR_err hr2).1, (rawR_err hr2).2]
    refine swl_app ?_
    refine s_mv rfl ?_
    first | refine s_pu (pu_extractL rfl) ?_ | refine s_pu (pu_extract rfl rfl) ?_
    first | refine s_pu (pu_extractL rfl) ?_ | refine s_pu (pu_extract rfl rfl) ?_
    refine s_as rfl ?_
    refine s_as rfl ?_
    refine swl_sub _ (sc0 0 rfl (sc0 1 rfl (sc0 2 rfl (sc0 6 rfl (sc0 8 rfl (sc0 9 rfl (sc0 12 rfl .nil))))))) ?_
    refine swl_nn ?_
    refine swp_seq ?_
    refine swp_sr ?_
    refine s_mv rfl ?_
    refine s_pu (pu_neq rfl rfl) ?_
    refine swl_sub _ (sc0 0 rfl (sc0 1 rfl (sc0 2 rfl (sc0 6 rfl (sc0 8 rfl (sc0 9 rfl (sc0 12 rfl (sc0 43 rfl .nil)))))))) ?_
    refine swl_nn ?_
    refine swp_cond (b := _) rfl (fun h43 => ?_) (fun h43 => by cases h43)
    refine swp_sr ?_
    refine s_pu (pu_bld (qs := []) rfl) ?_
    refine s_mv rfl ?_
    refine s_ef0 (ef_storeA rfl rfl rfl rfl) ?_
    refine s_as rfl ?_
    refine swl_sub _ (sc0 6 rfl (sc0 7 rfl .nil)) ?_
    refine swl_nn ?_
    refine swp_ret ?_
    refine then_r ?_
    exact done_ret [rdB p s (pos, 2)] (.cell rfl (ld_whole rfl) (.tmp rfl .nil)) ⟨([], 0), 2, (pos, 2), rfl, rfl, .inr ⟨by decide, entP_short om0, hpos⟩⟩ sp0
end SX
namespace SX
open Go Go.Proofs
def restD (s : List UInt8) (k : Nat) (first : Bool) (last : List UInt8) (pos : Nat) (acc : List En) : Option (List En) :=
  match decL s k first last pos with
  | none => none
  | some (l, q) => if q = s.length then some (acc ++ l) else none
theorem restD_zero {s : List UInt8} {first : Bool} {last : List UInt8} {pos : Nat} {acc : List En} : restD s 0 first last pos acc = if pos = s.length then some acc else none := by
  unfold restD decL
  simp only [List.append_nil]
theorem restD_none {s : List UInt8} {first : Bool} {last : List UInt8} {pos k : Nat} {acc : List En} (h : entP s first last pos = none) : restD s (k + 1) first last pos acc = none := by
  unfold restD decL
  rw [h]
theorem restD_some {s : List UInt8} {first : Bool} {last : List UInt8} {pos k : Nat} {acc : List En} {x : List UInt8 × Nat} {q : Nat} (h : entP s first last pos = some (x, q)) : restD s (k + 1) first last pos acc = restD s k false x.1 q (acc ++ [enOf x]) := by
  unfold restD
  rw [decL, h]
  show (match (match decL s k false x.1 q with | none => none | some (l, q) => some (enOf x :: l, q)) with | none => none | some (l, q) => if q = s.length then some (acc ++ l) else none) = _
  cases decL s k false x.1 q with
  | none => rfl
  | some lq =>
    obtain ⟨l, q'⟩ := lq
    show (if q' = s.length then some (acc ++ enOf x :: l) else none) = if q' = s.length then some (acc ++ [enOf x] ++ l) else none
    rw [List.append_assoc]
    rfl
theorem decT_rest {s : List UInt8} {n : Nat} (h : 2 ≤ s.length) (hn : valB (s.take 2) = n) (h2 : n ≤ 1024) : decT s = restD s n true [] 2 [] := by
  unfold decT restD
  rw [if_neg om0, hn, if_neg om0]
  cases decL s n true [] 2 with
  | none => rfl
  | some lq => rfl
theorem decT_short {s : List UInt8} (h : s.length < 2) : decT s = none := by unfold decT; rw [if_pos h]
theorem decT_long {s : List UInt8} (h : 1024 < valB (s.take 2)) : decT s = none := by
  unfold decT
  split
  · rfl
  · first | rfl | rw [if_pos h]
theorem endE_zero {s : List UInt8} {pos : Nat} (hp : pos ≤ s.length) : (endE s (pos, 0) = 0 → pos = s.length) ∧ (endE s (pos, 0) ≠ 0 → pos ≠ s.length) := by
  unfold endE
  rw [if_neg (fun k => k rfl)]
  by_cases h : pos < s.length
  · rw [if_pos h]; exact ⟨fun k => (absurd k (by decide)), fun _ => by omega⟩
  · rw [if_neg h]; exact ⟨fun _ => by omega, fun k => absurd rfl k⟩
/-- what a decoder of trees answers -/
def DecT (s : List UInt8) (tv : Value) (e : Int) (L : List Assn) : Prop :=
  (e = 0 ∧ ∃ t, decT s = some t ∧ L = [own 47 2 tv t.length (ens t)]) ∨ (e ≠ 0 ∧ decT s = none ∧ tv = .slice none 0 0 ∧ L = [])
structure DI where
  i : Nat
  r : RS
  last : List UInt8
  acc : List En
  v7 : Value
  e : Int
set_option maxHeartbeats 4000000 in
theorem tdec_spec (s : List UInt8) (hs : s.length ≤ 1073741824) : Spec Tryz.prog 121 [.string (str s)] [] (fun v L => ∃ tv e, v = .tuple #[tv, .int .i64 e] ∧ DecT s tv e L) := by
  refine Spec.of 58 Tryz.func121 rfl rfl rfl ?_
  refine swp_sr ?_
  refine s_as rfl ?_
  refine s_as rfl ?_
  refine swl_sub _ (sc0 0 rfl .nil) ?_
  refine swl_nn ?_
  refine swp_sr ?_
  refine s_mv rfl ?_
  refine s_ef (ef_fn (newR_spec s) rfl rfl sp0) ?_
  rintro v12 L1 ⟨p, rfl, rfl⟩
  refine swl_app ?_
  refine s_as rfl ?_
  refine swl_sub _ (sc0 4 rfl .nil) ?_
  refine swl_nn ?_
  refine swp_sr ?_
  refine s_mv rfl ?_
  refine s_ef (ef_fn (rdU16_spec p s (0, 0) hs (Nat.zero_le _)) rfl rfl sp0) ?_
  rintro v15 L1 ⟨rfl, rfl⟩
  refine swl_app ?_
  refine s_mv rfl ?_
  first | refine s_pu (pu_extractL rfl) ?_ | refine s_pu (pu_extract rfl rfl) ?_
  first | refine s_pu (pu_extractL rfl) ?_ | refine s_pu (pu_extract rfl rfl) ?_
  refine s_as rfl ?_
  refine s_as rfl ?_
  refine swl_sub _ (sc0 4 rfl (sc0 5 rfl (sc0 6 rfl .nil))) ?_
  refine swl_nn ?_
  refine swp_cut (fun env L => ∃ e : Int, Sub env [(4, .pointer (some ⟨p, 0, none⟩)), (5, .int .u16 (valB (rawV s 2 (0, 0)) : Nat)), (6, .int .i64 e)] ∧ Ent L [rdB p s (rawR s 2 (0, 0))] ∧ ((e = 0 ∧ 2 ≤ s.length ∧ valB (s.take 2) ≤ 1024) ∨ (e ≠ 0 ∧ decT s = none))) ?_ ?_
  · skip
    refine swp_sr ?_
    refine s_mv rfl ?_
    refine s_pu (pu_eql rfl rfl) ?_
    refine s_mv rfl ?_
    refine s_split 20 rfl (fun h20 => ?_) (fun h20 => ?_)
    · skip   -- 20 T
      refine s_on rfl rfl ?_
      refine s_mv rfl ?_
      refine s_on rfl rfl ?_
      refine s_pu (pu_gtr rfl rfl) ?_
      first | refine s_pu (pu_pick_t rfl rfl) ?_ | refine s_pu (pu_pick_f rfl rfl) ?_
      refine swl_sub _ (sc0 4 rfl (sc0 5 rfl (sc0 6 rfl (sc0 23 rfl .nil)))) ?_
      refine swl_nn ?_
      refine swp_cond (b := _) rfl (fun h23 => ?_) (fun h23 => ?_)
      · skip   -- 23 T
        refine swp_region ?_
        refine s_as rfl ?_
        refine swl_sub _ (sc0 4 rfl (sc0 5 rfl (sc0 6 rfl .nil))) ?_
        refine swl_nil ?_
        have hA : 0 + 2 ≤ s.length := raw_e0 (of_decide_eq_true h20)
        have hv : rawV s 2 (0, 0) = s.take 2 := (rawR_ok hA).2
        have h23' : 1024 < valB (s.take 2) := by rw [hv] at h23; have := of_decide_eq_true h23; omega
        exact then_n ⟨3, ⟨rfl, rfl, rfl, trivial⟩, Split.ent' sp0, .inr ⟨by decide, decT_long h23'⟩⟩
      · skip   -- 23 F
        refine swp_skip ?_
        have hA : 0 + 2 ≤ s.length := raw_e0 (of_decide_eq_true h20)
        have hv : rawV s 2 (0, 0) = s.take 2 := (rawR_ok hA).2
        have h23' : valB (s.take 2) ≤ 1024 := by rw [hv] at h23; have := of_decide_eq_false h23; omega
        exact then_n ⟨_, ⟨rfl, rfl, rfl, trivial⟩, Split.ent' sp0, .inl ⟨of_decide_eq_true h20, by omega, h23'⟩⟩
    · skip   -- 20 F
      refine s_off rfl rfl rfl ?_
      refine s_off rfl rfl rfl ?_
      first | refine s_pu (pu_pick_t rfl rfl) ?_ | refine s_pu (pu_pick_f rfl rfl) ?_
      refine swl_sub _ (sc0 4 rfl (sc0 5 rfl (sc0 6 rfl (sc0 23 rfl .nil)))) ?_
      refine swl_nn ?_
      refine swp_cond (b := _) rfl (fun h23 => by cases h23) (fun h23 => ?_)
      refine swp_skip ?_
      have h20' := of_decide_eq_false h20
      exact then_n ⟨_, ⟨rfl, rfl, rfl, trivial⟩, Split.ent' sp0, .inr ⟨h20', decT_short (by have := raw_e1 h20'; omega)⟩⟩
  rintro env L ⟨e, hsub, hE, hcase⟩
  refine swp_sub _ hsub ?_
  refine swp_ent hE ?_
  clear hsub hE env L
  obtain ⟨n, hn, hr, hcase'⟩ : ∃ n, valB (rawV s 2 (0, 0)) = n ∧ (rawR s 2 (0, 0)).1 ≤ s.length ∧ ((e = 0 ∧ n ≤ 1024 ∧ (rawR s 2 (0, 0)).2 = 0 ∧ decT s = restD s n true [] (rawR s 2 (0, 0)).1 []) ∨ (e ≠ 0 ∧ decT s = none)) := by
    refine ⟨_, rfl, rawR_le (Nat.zero_le _), ?_⟩
    rcases hcase with ⟨h1, h2, h3⟩ | h
    · have hA : 0 + 2 ≤ s.length := by omega
      rw [(rawR_ok hA).1, (rawR_ok hA).2]
      exact .inl ⟨h1, h3, rfl, decT_rest h2 rfl h3⟩
    · exact .inr h
  rw [hn]
  generalize rawR s 2 (0, 0) = r0 at *
  have hn2 : n < 65536 := by rw [← hn]; exact valB_lt2 (rawV_len _ _ _)
  refine swp_sr ?_
  refine s_as rfl ?_
  refine swl_sub _ (sc0 4 rfl (sc0 5 rfl (sc0 6 rfl (sc0 7 rfl .nil)))) ?_
  refine swl_nn ?_
  refine swp_sr ?_
  refine s_as rfl ?_
  refine swl_sub _ (sc0 4 rfl (sc0 5 rfl (sc0 6 rfl (sc0 7 rfl (sc0 8 rfl .nil))))) ?_
  refine swl_nn ?_
  refine swp_seq ?_
  refine swp_sr ?_
  refine s_as rfl ?_
  refine swl_sub _ (sc0 4 rfl (sc0 5 rfl (sc0 6 rfl (sc0 7 rfl (sc0 8 rfl (sc0 9 rfl .nil)))))) ?_
  refine swl_nn ?_
  refine swp_block ?_
  refine swp_ent (own_nil_ent (e := 47) (n := 2)) ?_
  refine swp_loop (ι := DI) (fun x env L => Sub env [(4, .pointer (some ⟨p, 0, none⟩)), (5, .int .u16 (n : Nat)), (6, .int .i64 x.e), (7, x.v7), (8, .string (str x.last)), (9, .int .i64 (x.i : Nat))] ∧ Ent L [own 47 2 x.v7 x.acc.length (ens x.acc), rdB p s x.r] ∧
    x.last.length ≤ 255 ∧ x.r.1 ≤ s.length ∧ x.i ≤ n ∧ x.acc.length ≤ x.i ∧ ((x.e = 0 ∧ n ≤ 1024 ∧ x.r.2 = 0 ∧ decT s = restD s (n - x.i) (decide (x.i = 0)) x.last x.r.1 x.acc) ∨ (x.e ≠ 0 ∧ decT s = none))) (fun x => if x.e = 0 then n + 1 - x.i else 0) ⟨0, r0, [], [], .slice none 0 0, e⟩ ⟨⟨rfl, rfl, rfl, rfl, rfl, rfl, trivial⟩, by show Ent _ [own 47 2 (.slice none 0 0) 0 [], rdB p s r0]; exact Ent.refl _, Nat.zero_le _, hr, Nat.zero_le _, Nat.le_refl _, hcase'⟩ ?_
  clear hcase hcase' hr hn r0 e
  rintro ⟨i, r, last, acc, v7, e⟩ env L ⟨hsub, hE, hl, hr, hi, ha, hc⟩
  dsimp only at hsub hE hl hr hi ha hc
  refine swp_sub _ hsub ?_
  refine swp_ent hE ?_
  clear hsub hE env L
  dsimp only
  refine swp_seq ?_
  refine swp_sr ?_
  refine s_mv rfl ?_
  refine s_pu (pu_eql rfl rfl) ?_
  refine s_mv rfl ?_
  refine s_split 26 rfl (fun h26 => ?_) (fun h26 => ?_)
  · skip   -- 26 T
    obtain ⟨e0, hn1, hr0, hd⟩ : e = 0 ∧ n ≤ 1024 ∧ r.2 = 0 ∧ decT s = restD s (n - i) (decide (i = 0)) last r.1 acc := hc.resolve_right fun k => k.1 (of_decide_eq_true h26)
    obtain ⟨pos, re⟩ := r
    dsimp only at hr hr0 hd
    subst hr0 e0
    clear hc
    refine s_on rfl rfl ?_
    refine s_mv rfl ?_
    refine s_on rfl rfl ?_
    refine s_mv rfl ?_
    refine s_on rfl rfl ?_
    refine s_pu (pu_conv_i64 rfl om0 om0) ?_
    refine s_on rfl rfl ?_
    refine s_pu (pu_lss rfl rfl) ?_
    first | refine s_pu (pu_pick_t rfl rfl) ?_ | refine s_pu (pu_pick_f rfl rfl) ?_
    refine swl_sub _ (sc0 4 rfl (sc0 5 rfl (sc0 6 rfl (sc0 7 rfl (sc0 8 rfl (sc0 9 rfl (sc0 31 rfl .nil))))))) ?_
    refine swl_nn ?_
    refine swp_cond (b := _) rfl (fun h31 => ?_) (fun h31 => ?_)
    · skip   -- 31 T
      have hin : i < n := by have := of_decide_eq_true h31; omega
      rw [show n - i = (n - (i + 1)) + 1 by omega] at hd
      have hf : decide (((i : Nat) : Int) = 0) = decide (i = 0) := by
        by_cases k : i = 0
        · rw [decide_eq_true k, decide_eq_true om0]
        · rw [decide_eq_false k, decide_eq_false om0]
      refine swp_skip ?_
      refine then_n ?_
      refine swp_seq ?_
      refine swp_block ?_
      refine swp_sr ?_
      refine s_ef (ef_alloc) ?_
      intro b10
      refine swl_sub _ (sc0 4 rfl (sc0 5 rfl (sc0 7 rfl (sc0 8 rfl (sc0 9 rfl (sc0 10 rfl .nil)))))) ?_
      refine swl_nn ?_
      refine swp_sr ?_
      refine s_mv rfl ?_
      refine s_mv rfl ?_
      refine s_pu (pu_eql rfl rfl) ?_
      refine s_mv rfl ?_
      refine s_ef (ef_fn (entry_spec p s last (decide (((i : Nat) : Int) = 0)) pos hs hr hl) rfl rfl sp0) ?_
      rintro v39 L1 ⟨x, e', r', rfl, rfl, hq⟩
      rw [hf] at hq
      refine swl_app ?_
      refine s_mv rfl ?_
      first | refine s_pu (pu_extractL rfl) ?_ | refine s_pu (pu_extract rfl rfl) ?_
      first | refine s_pu (pu_extractL rfl) ?_ | refine s_pu (pu_extract rfl rfl) ?_
      refine s_ef0 (ef_storeA rfl rfl rfl rfl) ?_
      refine s_as rfl ?_
      refine swl_sub _ (sc0 4 rfl (sc0 5 rfl (sc0 6 rfl (sc0 7 rfl (sc0 8 rfl (sc0 9 rfl (sc0 10 rfl .nil))))))) ?_
      refine swl_nn ?_
      refine swp_sr ?_
      refine s_mv rfl ?_
      refine s_pu (pu_eql rfl rfl) ?_
      refine swl_sub _ (sc0 4 rfl (sc0 5 rfl (sc0 6 rfl (sc0 7 rfl (sc0 8 rfl (sc0 9 rfl (sc0 10 rfl (sc0 43 rfl .nil)))))))) ?_
      refine swl_nn ?_
      refine swp_cond (b := _) rfl (fun h43 => ?_) (fun h43 => ?_)
      · skip   -- 43 T
        have h43' : e' = 0 := of_decide_eq_true h43
        obtain ⟨hr2, hx⟩ : r'.2 = 0 ∧ entP s (decide (i = 0)) last pos = some (x, r'.1) := by
          rcases hq with ⟨_, h2, h3⟩ | ⟨h1, _⟩
          · exact ⟨h2, h3⟩
          · exact absurd h43' h1
        rw [restD_some hx] at hd
        obtain ⟨q1, q2, q3, q4, q5⟩ := entP_pos hx
        refine swp_sr ?_
        refine s_mv rfl ?_
        first | refine s_rd (rd_loadW rfl rfl) ?_ | refine s_rd (rd_loadX rfl rfl rfl) ?_
        refine s_ef (ef_bldS (qs := [(0, _)]) rfl rfl rfl) ?_
        intro b46
        refine s_ef (ef_append_lit (l := acc.length) (m := 1) rfl rfl sp0 (by simp only [maxLen]; omega) om0) ?_
        rintro v47 -
        skip
        refine s_as rfl ?_
        refine swl_sub _ (sc0 4 rfl (sc0 5 rfl (sc0 6 rfl (sc0 7 rfl (sc0 9 rfl (sc0 10 rfl .nil)))))) ?_
        refine swl_nn ?_
        refine swp_region ?_
        first | refine s_pu (pu_fieldAddr0 rfl) ?_ | refine s_pu (pu_fieldAddr rfl) ?_
        refine s_rd (rd_load rfl rfl) ?_
        refine s_as rfl ?_
        refine swl_sub _ (sc0 4 rfl (sc0 5 rfl (sc0 6 rfl (sc0 7 rfl (sc0 8 rfl (sc0 9 rfl .nil)))))) ?_
        refine swl_nil ?_
        refine block_n ?_
        refine then_n ?_
        refine swp_region ?_
        refine s_mv rfl ?_
        refine s_pu (pu_add_as ((i + 1 : Nat) : Int) rfl rfl om0 om0 om0) ?_
        refine s_as rfl ?_
        refine swl_sub _ (sc0 4 rfl (sc0 5 rfl (sc0 6 rfl (sc0 7 rfl (sc0 8 rfl (sc0 9 rfl .nil)))))) ?_
        refine swl_nil ?_
        refine then_n ⟨⟨i + 1, r', x.1, acc ++ [enOf x], v47, e'⟩, ⟨⟨rfl, rfl, rfl, rfl, rfl, rfl, trivial⟩, ?_, q3, q1, hin, by show (acc ++ [enOf x]).length ≤ i + 1; rw [List.length_append, List.length_singleton]; omega, .inl ⟨h43', hn1, hr2, ?_⟩⟩, ?_⟩
        · show Ent _ [own 47 2 v47 (acc ++ [enOf x]).length (ens (acc ++ [enOf x])), rdB p s r']
          rw [List.length_append, List.length_singleton, show ens (acc ++ [enOf x]) = ens acc ++ [.string (str x.1), .int .u32 (x.2 : Nat)] by simp [ens, enOf]]
          exact Split.ent' sp0
        · rw [hd, decide_eq_false (by show ¬ i + 1 = 0; omega)]
        · show (if e' = 0 then n + 1 - (i + 1) else 0) < if (0 : Int) = 0 then n + 1 - i else 0
          rw [if_pos h43', if_pos rfl]
          omega
      · skip   -- 43 F
        have h43' : e' ≠ 0 := of_decide_eq_false h43
        obtain ⟨hx, hr2⟩ : entP s (decide (i = 0)) last pos = none ∧ r'.1 ≤ s.length := by
          rcases hq with ⟨h1, _⟩ | ⟨_, h2⟩
          · exact absurd h1 h43'
          · exact h2
        rw [restD_none hx] at hd
        refine swp_skip ?_
        refine block_n ?_
        refine then_n ?_
        refine swp_region ?_
        refine s_mv rfl ?_
        refine s_pu (pu_add_as ((i + 1 : Nat) : Int) rfl rfl om0 om0 om0) ?_
        refine s_as rfl ?_
        refine swl_sub _ (sc0 4 rfl (sc0 5 rfl (sc0 6 rfl (sc0 7 rfl (sc0 8 rfl (sc0 9 rfl .nil)))))) ?_
        refine swl_nil ?_
        refine then_n ⟨⟨i + 1, r', last, acc, v7, e'⟩, ⟨⟨rfl, rfl, rfl, rfl, rfl, rfl, trivial⟩, by show Ent _ [own 47 2 v7 acc.length (ens acc), rdB p s r']; exact Split.ent' sp0, hl, hr2, hin, by show acc.length ≤ i + 1; omega, .inr ⟨h43', hd⟩⟩, ?_⟩
        show (if e' = 0 then n + 1 - (i + 1) else 0) < if (0 : Int) = 0 then n + 1 - i else 0
        rw [if_neg h43', if_pos rfl]
        omega
    · skip   -- 31 F
      have hin : n ≤ i := by have := of_decide_eq_false h31; omega
      rw [show n - i = 0 by omega, restD_zero] at hd
      refine swp_exit ?_
      refine then_x ?_
      refine then_x ?_
      refine block_hit rfl ?_
      refine then_n ?_
      refine swp_seq ?_
      refine swp_sr ?_
      refine s_mv rfl ?_
      refine s_pu (pu_eql rfl rfl) ?_
      refine swl_sub _ (sc0 4 rfl (sc0 6 rfl (sc0 7 rfl (sc0 51 rfl .nil)))) ?_
      refine swl_nn ?_
      refine swp_cond (b := _) rfl (fun h51 => ?_) (fun h51 => by exact absurd rfl (of_decide_eq_false h51))
      refine swp_region ?_
      refine s_mv rfl ?_
      refine s_ef (ef_fn (rdEnd_spec p s (pos, 0) hs hr) rfl rfl sp0) ?_
      rintro v53 L1 ⟨rfl, rfl⟩
      refine swl_app ?_
      refine s_as rfl ?_
      refine swl_sub _ (sc0 6 rfl (sc0 7 rfl .nil)) ?_
      refine swl_nn ?_
      refine swp_seq ?_
      refine swp_sr ?_
      refine s_mv rfl ?_
      refine s_pu (pu_neq rfl rfl) ?_
      refine swl_sub _ (sc0 6 rfl (sc0 7 rfl (sc0 55 rfl .nil))) ?_
      refine swl_nn ?_
      refine swp_cond (b := _) rfl (fun h55 => ?_) (fun h55 => ?_)
      · skip   -- 55 T
        refine swp_sr ?_
        refine s_mv rfl ?_
        refine s_as rfl ?_
        refine s_as rfl ?_
        refine swl_sub _ (sc0 2 rfl (sc0 3 rfl .nil)) ?_
        refine swl_nn ?_
        refine swp_ret ?_
        refine then_r ?_
        have h55' : endE s (pos, 0) ≠ 0 := by simpa using h55
        rw [if_neg ((endE_zero hr).2 h55')] at hd
        exact done_ret [] (.tmp rfl (.tmp rfl .nil)) ⟨.slice none 0 0, _, rfl, .inr ⟨h55', hd, rfl, rfl⟩⟩ sp0
      · skip   -- 55 F
        refine swp_skip ?_
        refine then_n ?_
        refine swp_sr ?_
        refine s_mv rfl ?_
        refine s_as rfl ?_
        refine s_as rfl ?_
        refine swl_sub _ (sc0 2 rfl (sc0 3 rfl .nil)) ?_
        refine swl_nn ?_
        refine swp_ret ?_
        have h55' : endE s (pos, 0) = 0 := by simpa using h55
        rw [if_pos ((endE_zero hr).1 h55')] at hd
        exact done_ret [own 47 2 v7 acc.length (ens acc)] (.tmp rfl (.tmp rfl .nil)) ⟨v7, 0, rfl, .inl ⟨rfl, acc, hd, rfl⟩⟩ sp0
  · skip   -- 26 F
    have h26' : e ≠ 0 := of_decide_eq_false h26
    have hd : decT s = none := by
      rcases hc with ⟨h, _⟩ | ⟨_, h⟩
      · exact absurd h h26'
      · exact h
    refine s_off rfl rfl rfl ?_
    refine s_off rfl rfl rfl ?_
    refine s_off rfl rfl rfl ?_
    refine s_off rfl rfl rfl ?_
    first | refine s_pu (pu_pick_t rfl rfl) ?_ | refine s_pu (pu_pick_f rfl rfl) ?_
    refine swl_sub _ (sc0 4 rfl (sc0 5 rfl (sc0 6 rfl (sc0 7 rfl (sc0 8 rfl (sc0 9 rfl (sc0 31 rfl .nil))))))) ?_
    refine swl_nn ?_
    refine swp_cond (b := _) rfl (fun h31 => by cases h31) (fun h31 => ?_)
    refine swp_exit ?_
    refine then_x ?_
    refine then_x ?_
    refine block_hit rfl ?_
    refine then_n ?_
    refine swp_seq ?_
    refine swp_sr ?_
    refine s_mv rfl ?_
    refine s_pu (pu_eql rfl rfl) ?_
    refine swl_sub _ (sc0 4 rfl (sc0 6 rfl (sc0 7 rfl (sc0 51 rfl .nil)))) ?_
    refine swl_nn ?_
    refine swp_cond (b := _) rfl (fun h51 => by exact absurd (of_decide_eq_true h51) h26') (fun h51 => ?_)
    refine swp_skip ?_
    refine then_n ?_
    refine swp_seq ?_
    refine swp_sr ?_
    refine s_mv rfl ?_
    refine s_pu (pu_neq rfl rfl) ?_
    refine swl_sub _ (sc0 6 rfl (sc0 7 rfl (sc0 55 rfl .nil))) ?_
    refine swl_nn ?_
    refine swp_cond (b := _) rfl (fun h55 => ?_) (fun h55 => by exact absurd h55 (by simpa using h26'))
    refine swp_sr ?_
    refine s_mv rfl ?_
    refine s_as rfl ?_
    refine s_as rfl ?_
    refine swl_sub _ (sc0 2 rfl (sc0 3 rfl .nil)) ?_
    refine swl_nn ?_
    refine swp_ret ?_
    refine then_r ?_
    exact done_ret [] (.tmp rfl (.tmp rfl .nil)) ⟨.slice none 0 0, _, rfl, .inr ⟨h26', hd, rfl, rfl⟩⟩ sp0
end SX
namespace SX
open Go Go.Proofs
end SX
namespace SX
open Go Go.Proofs
theorem in_spec (n : Int) : Spec Tryz.prog 127 [.int .i64 n] [] (fun r L => r = .bool (inO n) ∧ L = []) := by
  refine Spec.of 9 Tryz.func127 rfl rfl rfl ?_
  refine swp_sr ?_
  refine s_as rfl ?_
  refine swl_sub _ (sc0 0 rfl .nil) ?_
  refine swl_nn ?_
  refine swp_sr ?_
  refine s_mv rfl ?_
  refine s_pu (pu_leq rfl rfl) ?_
  refine s_mv rfl ?_
  refine s_split 5 rfl (fun h5 => ?_) (fun h5 => ?_)
  · skip   -- 5 T
    refine s_on rfl rfl ?_
    refine s_mv rfl ?_
    refine s_on rfl rfl ?_
    refine s_pu (pu_lss rfl rfl) ?_
    first | refine s_pu (pu_pick_t rfl rfl) ?_ | refine s_pu (pu_pick_f rfl rfl) ?_
    refine s_as rfl ?_
    refine swl_sub _ (sc0 2 rfl .nil) ?_
    refine swl_nn ?_
    refine swp_ret ?_
    refine done_ret [] (.tmp rfl .nil) ⟨?_, rfl⟩ sp0
    unfold inO; rw [h5]; rfl
  · skip   -- 5 F
    refine s_off rfl rfl rfl ?_
    refine s_off rfl rfl rfl ?_
    first | refine s_pu (pu_pick_t rfl rfl) ?_ | refine s_pu (pu_pick_f rfl rfl) ?_
    refine s_as rfl ?_
    refine swl_sub _ (sc0 2 rfl .nil) ?_
    refine swl_nn ?_
    refine swp_ret ?_
    refine done_ret [] (.tmp rfl .nil) ⟨?_, rfl⟩ sp0
    unfold inO; rw [h5]; rfl
theorem rin_spec (n : Int) : Spec Tryz.prog 132 [.int .i64 n] [] (fun r L => r = .bool (inO n) ∧ L = []) := by
  refine Spec.of 9 Tryz.func132 rfl rfl rfl ?_
  refine swp_sr ?_
  refine s_as rfl ?_
  refine swl_sub _ (sc0 0 rfl .nil) ?_
  refine swl_nn ?_
  refine swp_sr ?_
  refine s_mv rfl ?_
  refine s_pu (pu_geq rfl rfl) ?_
  refine s_mv rfl ?_
  refine s_split 5 rfl (fun h5 => ?_) (fun h5 => ?_)
  · skip   -- 5 T
    refine s_on rfl rfl ?_
    refine s_mv rfl ?_
    refine s_on rfl rfl ?_
    refine s_pu (pu_lss rfl rfl) ?_
    first | refine s_pu (pu_pick_t rfl rfl) ?_ | refine s_pu (pu_pick_f rfl rfl) ?_
    refine s_as rfl ?_
    refine swl_sub _ (sc0 2 rfl .nil) ?_
    refine swl_nn ?_
    refine swp_ret ?_
    refine done_ret [] (.tmp rfl .nil) ⟨?_, rfl⟩ sp0
    unfold inO; rw [h5]; rfl
  · skip   -- 5 F
    refine s_off rfl rfl rfl ?_
    refine s_off rfl rfl rfl ?_
    first | refine s_pu (pu_pick_t rfl rfl) ?_ | refine s_pu (pu_pick_f rfl rfl) ?_
    refine s_as rfl ?_
    refine swl_sub _ (sc0 2 rfl .nil) ?_
    refine swl_nn ?_
    refine swp_ret ?_
    refine done_ret [] (.tmp rfl .nil) ⟨?_, rfl⟩ sp0
    unfold inO; rw [h5]; rfl
theorem int_at {μ : PH} {v : Value} {xs : List Int} (h : Row μ v 1 xs.length (xs.flatMap (icsk .i64))) {i : Nat} {p : Int} (hi : xs[i]? = some p) : ∃ b off cap, v = .slice (some ⟨b, off, none⟩) xs.length cap ∧ CellAt μ b (off + i * 1) (.int .i64 p) := by
  have hl := (List.getElem?_eq_some_iff.1 hi).1
  obtain ⟨b, off, cap, hv, _, _, hr⟩ := h.pos om0
  exact ⟨b, off, cap, hv, (hr.elem (icsk_len .i64) hi).cell⟩
theorem tidx_spec (μ : PH) (v : Value) (xs : List Int) (x : Int) (h : Row μ v 1 xs.length (xs.flatMap (icsk .i64))) : Spec Tryz.prog 149 [v, .int .i64 x] [ro μ] (fun r L => (∃ k : Int, r = .int .i64 k ∧ decide (0 ≤ k) = xs.contains x) ∧ L = [ro μ]) := by
  have hsm := h.small
  refine Spec.of 19 Tryz.func149 rfl rfl rfl ?_
  refine swp_sr ?_
  refine s_as rfl ?_
  refine swl_sub _ (sc0 0 rfl (sc0 1 rfl .nil)) ?_
  refine swl_nn ?_
  refine swp_seq ?_
  refine swp_sr ?_
  refine s_mv rfl ?_
  refine s_pu (pu_len_row h rfl) ?_
  refine s_mv rfl ?_
  refine swl_sub _ (sc0 0 rfl (sc0 1 rfl (sc0 7 rfl (sc0 8 rfl .nil)))) ?_
  refine swl_nn ?_
  refine swp_block ?_
  refine swp_loop (ι := Nat) (fun i env L => Sub env [(0, v), (1, .int .i64 x), (7, .int .i64 (xs.length : Nat)), (8, .int .i64 (i : Nat))] ∧ L = [ro μ] ∧ i ≤ xs.length ∧ x ∉ xs.take i) (fun i => xs.length - i) 0 ⟨⟨rfl, rfl, rfl, rfl, trivial⟩, rfl, Nat.zero_le _, by simp⟩ ?_
  rintro i env L ⟨hsub, rfl, hi, hno⟩
  refine swp_sub _ hsub ?_
  clear hsub env
  refine swp_sr ?_
  refine s_pu (pu_lss rfl rfl) ?_
  refine swl_sub _ (sc0 0 rfl (sc0 1 rfl (sc0 7 rfl (sc0 8 rfl (sc0 9 rfl .nil))))) ?_
  refine swl_nn ?_
  refine swp_seq ?_
  refine swp_cond (b := _) rfl (fun h9 => ?_) (fun h9 => ?_)
  · skip   -- 9 T
    have h9' : i < xs.length := by have := of_decide_eq_true h9; omega
    obtain ⟨p, hp⟩ : ∃ p, xs[i]? = some p := ⟨_, List.getElem?_eq_getElem h9'⟩
    obtain ⟨b, off, cap, hv, hc⟩ := int_at h hp
    refine swp_skip ?_
    refine then_n ?_
    refine swp_seq ?_
    refine swp_block ?_
    refine swp_sr ?_
    refine s_mv rfl ?_
    refine s_as rfl ?_
    refine swl_sub _ (sc0 0 rfl (sc0 1 rfl (sc0 5 rfl (sc0 7 rfl (sc0 8 rfl .nil))))) ?_
    refine swl_nn ?_
    refine swp_sr ?_
    refine s_mv rfl ?_
    refine s_mv rfl ?_
    refine s_mv rfl ?_
    refine s_pu (pu_indexAddr (off + i * 1) (congrArg some hv) rfl om0 om0 (by rw [Int.toNat_natCast])) ?_
    refine s_rd (rd_ro rfl hc) ?_
    refine s_pu (pu_eql rfl rfl) ?_
    refine swl_sub _ (sc0 0 rfl (sc0 1 rfl (sc0 5 rfl (sc0 7 rfl (sc0 8 rfl (sc0 16 rfl .nil)))))) ?_
    refine swl_nn ?_
    refine swp_cond (b := _) rfl (fun h16 => ?_) (fun h16 => ?_)
    · skip   -- 16 T
      refine swp_sr ?_
      refine s_mv rfl ?_
      refine s_as rfl ?_
      refine swl_sub _ (sc0 4 rfl .nil) ?_
      refine swl_nn ?_
      refine swp_ret ?_
      refine block_r ?_
      refine then_r ?_
      refine then_r ?_
      refine block_r ?_
      refine then_r ?_
      have hx : x = p := of_decide_eq_true h16
      refine done_ret [ro μ] (.tmp rfl .nil) ⟨⟨_, rfl, ?_⟩, rfl⟩ sp0
      rw [decide_eq_true om0]
      symm
      rw [List.contains_iff_mem, hx]
      exact List.mem_of_getElem? hp
    · skip   -- 16 F
      refine swp_skip ?_
      refine block_n ?_
      refine then_n ?_
      refine swp_region ?_
      refine s_pu (pu_add_as ((i + 1 : Nat) : Int) rfl rfl om0 om0 om0) ?_
      refine s_mv rfl ?_
      refine swl_sub _ (sc0 0 rfl (sc0 1 rfl (sc0 7 rfl (sc0 8 rfl .nil)))) ?_
      refine swl_nil ?_
      refine then_n ⟨i + 1, ⟨⟨rfl, rfl, rfl, rfl, trivial⟩, rfl, h9', ?_⟩, by omega⟩
      rw [List.take_add_one, hp]
      intro hm
      rcases List.mem_append.1 hm with hm | hm
      · exact hno hm
      · have : x = p := by simpa using hm
        exact of_decide_eq_false h16 this
  · skip   -- 9 F
    have h9' := of_decide_eq_false h9
    obtain rfl : i = xs.length := by omega
    rw [List.take_length] at hno
    refine swp_exit ?_
    refine then_x ?_
    refine then_x ?_
    refine block_hit rfl ?_
    refine then_n ?_
    refine swp_sr ?_
    refine s_as rfl ?_
    refine swl_sub _ (sc0 4 rfl .nil) ?_
    refine swl_nn ?_
    refine swp_ret ?_
    refine done_ret [ro μ] (.tmp rfl .nil) ⟨⟨-1, rfl, ?_⟩, rfl⟩ sp0
    rw [decide_eq_false om0]
    symm
    rw [← Bool.not_eq_true, List.contains_iff_mem]
    exact hno
theorem has_spec (μ : PH) (v : Value) (xs : List Int) (x : Int) (h : Row μ v 1 xs.length (xs.flatMap (icsk .i64))) : Spec Tryz.prog 128 [v, .int .i64 x] [ro μ] (fun r L => r = .bool (xs.contains x) ∧ L = [ro μ]) := by
  refine Spec.of 9 Tryz.func128 rfl rfl rfl ?_
  refine swp_sr ?_
  refine s_as rfl ?_
  refine swl_sub _ (sc0 0 rfl (sc0 1 rfl .nil)) ?_
  refine swl_nn ?_
  refine swp_sr ?_
  refine s_mv rfl ?_
  refine s_mv rfl ?_
  refine s_ef (ef_fn (tidx_spec μ v xs x h) rfl rfl sp0) ?_
  rintro v7 L1 ⟨⟨k, rfl, hk⟩, rfl⟩
  refine swl_app ?_
  refine s_pu (pu_geq rfl rfl) ?_
  refine s_as rfl ?_
  refine swl_sub _ (sc0 4 rfl .nil) ?_
  refine swl_nn ?_
  refine swp_ret ?_
  exact done_ret [ro μ] (.tmp rfl .nil) ⟨by rw [← hk]; rfl, rfl⟩ sp0
end SX
namespace SX
open Go Go.Proofs
/-- a commit as a value -/
abbrev cmV (pv : Value) (t : Int) : Value := .agg #[pv, .int .i64 t]
theorem checkC_long {c : Cm} (h : 16 < c.1.length) : checkC c = 5 := by unfold checkC; rw [if_pos h]
theorem checkC_arg {c : Cm} (h : ¬ 16 < c.1.length) (h2 : inO c.2 = false) : checkC c = 1 := by unfold checkC; rw [if_neg h, if_pos h2]
theorem checkC_in {c : Cm} (h : ¬ 16 < c.1.length) (h2 : inO c.2 = true) : checkC c = firstNZ (wrongP c.1) c.1.length := by unfold checkC; rw [if_neg h, if_neg (by rw [h2]; decide)]
set_option maxHeartbeats 2000000 in
theorem cchk_spec (μ : PH) (pv : Value) (c : Cm) (h : Row μ pv 1 c.1.length (c.1.flatMap (icsk .i64))) : Spec Tryz.prog 100 [cmV pv c.2] [ro μ] (fun r L => r = .int .i64 (checkC c) ∧ L = [ro μ]) := by
  have hsm := h.small
  refine Spec.of 35 Tryz.func100 rfl rfl rfl ?_
  refine swp_sr ?_
  refine s_ef (ef_box rfl rfl) ?_
  intro b1
  refine s_as rfl ?_
  refine swl_sub _ (sc0 1 rfl .nil) ?_
  refine swl_nn ?_
  refine swp_seq ?_
  refine swp_block ?_
  refine swp_sr ?_
  first | refine s_pu (pu_fieldAddr0 rfl) ?_ | refine s_pu (pu_fieldAddr rfl) ?_
  refine s_rd (rd_load rfl rfl) ?_
  refine s_pu (pu_len_row h rfl) ?_
  refine s_pu (pu_gtr rfl rfl) ?_
  refine s_as rfl ?_
  refine swl_sub _ (sc0 1 rfl (sc0 5 rfl .nil)) ?_
  refine swl_nn ?_
  refine swp_cond (b := _) rfl (fun h5 => ?_) (fun h5 => ?_)
  · skip   -- 5 T
    refine swp_sr ?_
    refine s_as rfl ?_
    refine swl_sub _ (sc0 2 rfl .nil) ?_
    refine swl_nn ?_
    refine swp_ret ?_
    refine block_r ?_
    refine then_r ?_
    have h5' : 16 < c.1.length := by have := of_decide_eq_true h5; omega
    rw [checkC_long h5']
    exact done_ret [ro μ] (.tmp rfl .nil) ⟨rfl, rfl⟩ sp0
  · skip   -- 5 F
    have h5' : ¬ 16 < c.1.length := by have := of_decide_eq_false h5; omega
    refine swp_sr ?_
    first | refine s_pu (pu_fieldAddr0 rfl) ?_ | refine s_pu (pu_fieldAddr rfl) ?_
    refine s_rd (rd_load rfl rfl) ?_
    refine s_ef (ef_fn (in_spec c.2) rfl rfl sp0) ?_
    rintro v13 L1 ⟨rfl, rfl⟩
    refine swl_app ?_
    refine s_pu (pu_not rfl) ?_
    refine s_as rfl ?_
    refine swl_sub _ (sc0 1 rfl (sc0 10 rfl .nil)) ?_
    refine swl_nn ?_
    refine swp_cond (b := _) rfl (fun h10 => ?_) (fun h10 => ?_)
    · skip   -- 10 T
      refine swp_sr ?_
      refine s_as rfl ?_
      refine swl_sub _ (sc0 2 rfl .nil) ?_
      refine swl_nn ?_
      refine swp_ret ?_
      refine block_r ?_
      refine then_r ?_
      have h10' : inO c.2 = false := by simpa using h10
      rw [checkC_arg h5' h10']
      exact done_ret [ro μ] (.tmp rfl .nil) ⟨rfl, rfl⟩ sp0
    · skip   -- 10 F
      have h10' : inO c.2 = true := by simpa using h10
      rw [checkC_in h5' h10']
      refine swp_skip ?_
      refine block_n ?_
      refine then_n ?_
      refine swp_seq ?_
      refine swp_sr ?_
      first | refine s_pu (pu_fieldAddr0 rfl) ?_ | refine s_pu (pu_fieldAddr rfl) ?_
      refine s_rd (rd_load rfl rfl) ?_
      refine s_pu (pu_len_row h rfl) ?_
      refine s_mv rfl ?_
      refine swl_sub _ (sc0 1 rfl (sc0 16 rfl (sc0 17 rfl (sc0 18 rfl .nil)))) ?_
      refine swl_nn ?_
      refine swp_block ?_
      refine swp_loop (ι := Nat) (fun i env L => Sub env [(1, .pointer (some ⟨b1, 0, none⟩)), (16, pv), (17, .int .i64 (c.1.length : Nat)), (18, .int .i64 (i : Nat))] ∧ Ent L [blk b1 25 [pv, .int .i64 c.2], ro μ] ∧ i ≤ c.1.length ∧ ∀ j < i, wrongP c.1 j = 0) (fun i => c.1.length - i) 0 ⟨⟨rfl, rfl, rfl, rfl, trivial⟩, Split.ent' sp0, Nat.zero_le _, fun j hj => by omega⟩ ?_
      rintro i env L ⟨hsub, hE, hi, hw⟩
      refine swp_sub _ hsub ?_
      refine swp_ent hE ?_
      clear hsub hE env L
      refine swp_sr ?_
      refine s_pu (pu_lss rfl rfl) ?_
      refine swl_sub _ (sc0 1 rfl (sc0 16 rfl (sc0 17 rfl (sc0 18 rfl (sc0 19 rfl .nil))))) ?_
      refine swl_nn ?_
      refine swp_seq ?_
      refine swp_cond (b := _) rfl (fun h19 => ?_) (fun h19 => ?_)
      · skip   -- 19 T
        have h19' : i < c.1.length := by have := of_decide_eq_true h19; omega
        obtain ⟨p, hp⟩ : ∃ p, c.1[i]? = some p := ⟨_, List.getElem?_eq_getElem h19'⟩
        obtain ⟨gb, off, cap, hv, hc⟩ := int_at h hp
        have hwe := wrongP_at hp
        obtain ⟨vhi, hhi1, hhi2⟩ := Row.hi (P := Tryz.prog) (t := 23) h i hi
        have hhi3 : Row μ vhi 1 (c.1.take i).length ((c.1.take i).flatMap (icsk .i64)) := by
          rw [List.length_take, Nat.min_eq_left hi]
          have e : (c.1.flatMap (icsk .i64)).take (i * 1) = (c.1.take i).flatMap (icsk .i64) := by
            rw [icsk_map, icsk_map, Nat.mul_one, List.map_take]
          rw [← e]; exact hhi1
        refine swp_skip ?_
        refine then_n ?_
        refine swp_seq ?_
        refine swp_block ?_
        refine swp_sr ?_
        refine s_mv rfl ?_
        refine s_pu (pu_indexAddr (off + i * 1) (congrArg some hv) rfl om0 om0 (by rw [Int.toNat_natCast])) ?_
        refine s_rd (rd_ro rfl hc) ?_
        refine s_as rfl ?_
        refine s_as rfl ?_
        refine swl_sub _ (sc0 1 rfl (sc0 3 rfl (sc0 4 rfl (sc0 16 rfl (sc0 17 rfl (sc0 18 rfl .nil)))))) ?_
        refine swl_nn ?_
        refine swp_block ?_
        refine swp_sr ?_
        refine s_mv rfl ?_
        refine s_ef (ef_fn (in_spec p) rfl rfl sp0) ?_
        rintro v25 L1 ⟨rfl, rfl⟩
        refine swl_app ?_
        refine s_pu (pu_not rfl) ?_
        refine s_as rfl ?_
        refine swl_sub _ (sc0 1 rfl (sc0 3 rfl (sc0 4 rfl (sc0 16 rfl (sc0 17 rfl (sc0 18 rfl (sc0 23 rfl .nil))))))) ?_
        refine swl_nn ?_
        refine swp_cond (b := _) rfl (fun h23 => ?_) (fun h23 => ?_)
        · skip   -- 23 T
          refine swp_sr ?_
          refine s_as rfl ?_
          refine swl_sub _ (sc0 2 rfl .nil) ?_
          refine swl_nn ?_
          refine swp_ret ?_
          refine block_r ?_
          refine block_r ?_
          refine then_r ?_
          refine then_r ?_
          refine block_r ?_
          refine then_r ?_
          have h23' : inO p = false := by simpa using h23
          rw [if_pos h23'] at hwe
          rw [firstNZ_at h19' hw (by rw [hwe]; decide), hwe]
          exact done_ret [ro μ] (.tmp rfl .nil) ⟨rfl, rfl⟩ sp0
        · skip   -- 23 F
          have h23' : ¬ inO p = false := by rw [Bool.not_eq_false']at h23; rw [h23]; decide
          rw [if_neg h23'] at hwe
          refine swp_sr ?_
          first | refine s_pu (pu_fieldAddr0 rfl) ?_ | refine s_pu (pu_fieldAddr rfl) ?_
          refine s_rd (rd_load rfl rfl) ?_
          refine s_mv rfl ?_
          refine s_pu (hhi2 _ _ _ _ _ rfl rfl rfl) ?_
          refine s_mv rfl ?_
          refine s_ef (ef_fn (has_spec μ vhi (c.1.take i) p hhi3) rfl rfl sp0) ?_
          rintro v33 L1 ⟨rfl, rfl⟩
          refine swl_app ?_
          refine s_as rfl ?_
          refine swl_sub _ (sc0 1 rfl (sc0 16 rfl (sc0 17 rfl (sc0 18 rfl (sc0 27 rfl .nil))))) ?_
          refine swl_nn ?_
          refine swp_cond (b := _) rfl (fun h27 => ?_) (fun h27 => ?_)
          · skip   -- 27 T
            refine swp_sr ?_
            refine s_as rfl ?_
            refine swl_sub _ (sc0 2 rfl .nil) ?_
            refine swl_nn ?_
            refine swp_ret ?_
            refine block_r ?_
            refine block_r ?_
            refine then_r ?_
            refine then_r ?_
            refine block_r ?_
            refine then_r ?_
            rw [if_pos h27] at hwe
            rw [firstNZ_at h19' hw (by rw [hwe]; decide), hwe]
            exact done_ret [ro μ] (.tmp rfl .nil) ⟨rfl, rfl⟩ sp0
          · skip   -- 27 F
            refine swp_skip ?_
            refine block_n ?_
            refine block_n ?_
            refine then_n ?_
            refine swp_region ?_
            refine s_pu (pu_add_as ((i + 1 : Nat) : Int) rfl rfl om0 om0 om0) ?_
            refine s_mv rfl ?_
            refine swl_sub _ (sc0 1 rfl (sc0 16 rfl (sc0 17 rfl (sc0 18 rfl .nil)))) ?_
            refine swl_nil ?_
            rw [if_neg (by rw [h27]; decide)] at hwe
            refine then_n ⟨i + 1, ⟨⟨rfl, rfl, rfl, rfl, trivial⟩, Split.ent' sp0, h19', fun j hj => ?_⟩, by omega⟩
            by_cases e1 : j = i
            · subst e1; exact hwe
            · exact hw j om0
      · skip   -- 19 F
        have h19' := of_decide_eq_false h19
        refine swp_exit ?_
        refine then_x ?_
        refine then_x ?_
        refine block_hit rfl ?_
        refine then_n ?_
        refine swp_sr ?_
        refine s_as rfl ?_
        refine swl_sub _ (sc0 2 rfl .nil) ?_
        refine swl_nn ?_
        refine swp_ret ?_
        rw [firstNZ_ok fun j hj => hw j om0]
        exact done_ret [ro μ] (.tmp rfl .nil) ⟨rfl, rfl⟩ sp0
set_option maxHeartbeats 2000000 in
theorem rcchk_spec (μ : PH) (pv : Value) (c : Cm) (h : Row μ pv 1 c.1.length (c.1.flatMap (icsk .i64))) : Spec Tryz.prog 108 [cmV pv c.2] [ro μ] (fun r L => r = .int .i64 (checkC c) ∧ L = [ro μ]) := by
  have hsm := h.small
  refine Spec.of 43 Tryz.func108 rfl rfl rfl ?_
  refine swp_sr ?_
  refine s_ef (ef_box rfl rfl) ?_
  intro b1
  refine s_as rfl ?_
  refine swl_sub _ (sc0 1 rfl .nil) ?_
  refine swl_nn ?_
  refine swp_seq ?_
  refine swp_sr ?_
  first | refine s_pu (pu_fieldAddr0 rfl) ?_ | refine s_pu (pu_fieldAddr rfl) ?_
  refine s_rd (rd_load rfl rfl) ?_
  refine s_pu (pu_len_row h rfl) ?_
  refine s_pu (pu_gtr rfl rfl) ?_
  refine swl_sub _ (sc0 1 rfl (sc0 8 rfl .nil)) ?_
  refine swl_nn ?_
  refine swp_cond (b := _) rfl (fun h8 => ?_) (fun h8 => ?_)
  · skip   -- 8 T
    refine swp_sr ?_
    refine s_as rfl ?_
    refine swl_sub _ (sc0 2 rfl .nil) ?_
    refine swl_nn ?_
    refine swp_ret ?_
    refine then_r ?_
    have h5' : 16 < c.1.length := by have := of_decide_eq_true h8; omega
    rw [checkC_long h5']
    exact done_ret [ro μ] (.tmp rfl .nil) ⟨rfl, rfl⟩ sp0
  · skip   -- 8 F
    have h5' : ¬ 16 < c.1.length := by have := of_decide_eq_false h8; omega
    refine swp_skip ?_
    refine then_n ?_
    refine swp_seq ?_
    refine swp_sr ?_
    first | refine s_pu (pu_fieldAddr0 rfl) ?_ | refine s_pu (pu_fieldAddr rfl) ?_
    refine s_rd (rd_load rfl rfl) ?_
    refine s_ef (ef_fn (rin_spec c.2) rfl rfl sp0) ?_
    rintro v11 L1 ⟨rfl, rfl⟩
    refine swl_app ?_
    refine s_pu (pu_not rfl) ?_
    refine swl_sub _ (sc0 1 rfl (sc0 12 rfl .nil)) ?_
    refine swl_nn ?_
    refine swp_cond (b := _) rfl (fun h12 => ?_) (fun h12 => ?_)
    · skip   -- 12 T
      refine swp_sr ?_
      refine s_as rfl ?_
      refine swl_sub _ (sc0 2 rfl .nil) ?_
      refine swl_nn ?_
      refine swp_ret ?_
      refine then_r ?_
      have h10' : inO c.2 = false := by simpa using h12
      rw [checkC_arg h5' h10']
      exact done_ret [ro μ] (.tmp rfl .nil) ⟨rfl, rfl⟩ sp0
    · skip   -- 12 F
      have h10' : inO c.2 = true := by simpa using h12
      rw [checkC_in h5' h10']
      refine swp_skip ?_
      refine then_n ?_
      refine swp_seq ?_
      refine swp_sr ?_
      refine s_as rfl ?_
      refine swl_sub _ (sc0 1 rfl (sc0 3 rfl .nil)) ?_
      refine swl_nn ?_
      refine swp_block ?_
      refine swp_loop (ι := Nat) (fun i env L => Sub env [(1, .pointer (some ⟨b1, 0, none⟩)), (3, .int .i64 (i : Nat))] ∧ Ent L [blk b1 25 [pv, .int .i64 c.2], ro μ] ∧ i ≤ c.1.length ∧ ∀ j < i, wrongP c.1 j = 0) (fun i => c.1.length - i) 0 ⟨⟨rfl, rfl, trivial⟩, Split.ent' sp0, Nat.zero_le _, fun j hj => by omega⟩ ?_
      rintro i env L ⟨hsub, hE, hi, hw⟩
      refine swp_sub _ hsub ?_
      refine swp_ent hE ?_
      clear hsub hE env L
      refine swp_seq ?_
      refine swp_sr ?_
      refine s_mv rfl ?_
      first | refine s_pu (pu_fieldAddr0 rfl) ?_ | refine s_pu (pu_fieldAddr rfl) ?_
      refine s_rd (rd_load rfl rfl) ?_
      refine s_pu (pu_len_row h rfl) ?_
      refine s_pu (pu_lss rfl rfl) ?_
      refine swl_sub _ (sc0 1 rfl (sc0 3 rfl (sc0 17 rfl .nil))) ?_
      refine swl_nn ?_
      refine swp_cond (b := _) rfl (fun h17 => ?_) (fun h17 => ?_)
      · skip   -- 17 T
        have h19' : i < c.1.length := by have := of_decide_eq_true h17; omega
        obtain ⟨p, hp⟩ : ∃ p, c.1[i]? = some p := ⟨_, List.getElem?_eq_getElem h19'⟩
        obtain ⟨gb, off, cap, hv, hc⟩ := int_at h hp
        have hwe := wrongP_at hp
        refine swp_skip ?_
        refine then_n ?_
        refine swp_seq ?_
        refine swp_block ?_
        refine swp_seq ?_
        refine swp_sr ?_
        first | refine s_pu (pu_fieldAddr0 rfl) ?_ | refine s_pu (pu_fieldAddr rfl) ?_
        refine s_rd (rd_load rfl rfl) ?_
        refine s_mv rfl ?_
        refine s_pu (pu_indexAddr (off + i * 1) (congrArg some hv) rfl om0 om0 (by rw [Int.toNat_natCast])) ?_
        refine s_rd (rd_ro rfl hc) ?_
        refine s_ef (ef_fn (rin_spec p) rfl rfl sp0) ?_
        rintro v25 L1 ⟨rfl, rfl⟩
        refine swl_app ?_
        refine s_pu (pu_not rfl) ?_
        refine swl_sub _ (sc0 1 rfl (sc0 3 rfl (sc0 26 rfl .nil))) ?_
        refine swl_nn ?_
        refine swp_cond (b := _) rfl (fun h26 => ?_) (fun h26 => ?_)
        · skip   -- 26 T
          refine swp_sr ?_
          refine s_as rfl ?_
          refine swl_sub _ (sc0 2 rfl .nil) ?_
          refine swl_nn ?_
          refine swp_ret ?_
          refine then_r ?_
          refine block_r ?_
          refine then_r ?_
          refine then_r ?_
          refine block_r ?_
          refine then_r ?_
          have h23' : inO p = false := by simpa using h26
          rw [if_pos h23'] at hwe
          rw [firstNZ_at h19' hw (by rw [hwe]; decide), hwe]
          exact done_ret [ro μ] (.tmp rfl .nil) ⟨rfl, rfl⟩ sp0
        · skip   -- 26 F
          have h23' : ¬ inO p = false := by rw [Bool.not_eq_false'] at h26; rw [h26]; decide
          rw [if_neg h23'] at hwe
          refine swp_skip ?_
          refine then_n ?_
          refine swp_sr ?_
          refine s_as rfl ?_
          refine swl_sub _ (sc0 1 rfl (sc0 3 rfl (sc0 4 rfl .nil))) ?_
          refine swl_nn ?_
          refine swp_block ?_
          refine swp_loop (ι := Nat) (fun k env L => Sub env [(1, .pointer (some ⟨b1, 0, none⟩)), (3, .int .i64 (i : Nat)), (4, .int .i64 (k : Nat))] ∧ Ent L [blk b1 25 [pv, .int .i64 c.2], ro μ] ∧ k ≤ i ∧ p ∉ c.1.take k) (fun k => i - k) 0 ⟨⟨rfl, rfl, rfl, trivial⟩, Split.ent' sp0, Nat.zero_le _, by simp⟩ ?_
          rintro k env L ⟨hsub, hE, hk, hno⟩
          refine swp_sub _ hsub ?_
          refine swp_ent hE ?_
          clear hsub hE env L
          refine swp_seq ?_
          refine swp_sr ?_
          refine s_mv rfl ?_
          refine s_mv rfl ?_
          refine s_pu (pu_lss rfl rfl) ?_
          refine swl_sub _ (sc0 1 rfl (sc0 3 rfl (sc0 4 rfl (sc0 29 rfl .nil)))) ?_
          refine swl_nn ?_
          refine swp_cond (b := _) rfl (fun h29 => ?_) (fun h29 => ?_)
          · skip   -- 29 T
            have h29' : k < i := by have := of_decide_eq_true h29; omega
            obtain ⟨q, hq⟩ : ∃ q, c.1[k]? = some q := ⟨_, List.getElem?_eq_getElem om0⟩
            obtain ⟨gb', off', cap', hv', hc'⟩ := int_at h hq
            refine swp_skip ?_
            refine then_n ?_
            refine swp_seq ?_
            refine swp_block ?_
            refine swp_seq ?_
            refine swp_draw [1, 4, 6, 9] _ [] (by simp only [List.append_nil]; exact Ent.refl _) kr0 ?_
            first | refine d_pu 0 rfl (pu_fieldAddr0 rfl) kr0 kr0 kr0 ?_ | refine d_pu 0 rfl (pu_fieldAddr rfl) kr0 kr0 kr0 ?_
            refine d_rd 1 rfl (rd_load rfl rfl) rfl kr0 kr0 kr0 ?_
            refine d_pu 2 rfl (pu_move rfl) kr0 kr0 kr0 ?_
            refine d_pu 3 rfl (pu_indexAddr (off' + k * 1) (congrArg some hv') rfl om0 om0 (by rw [Int.toNat_natCast])) kr0 kr0 kr0 ?_
            refine d_rd 4 rfl (rd_ro rfl hc') rfl kr0 kr0 kr0 ?_
            first | refine d_pu 5 rfl (pu_fieldAddr0 rfl) kr0 kr0 kr0 ?_ | refine d_pu 5 rfl (pu_fieldAddr rfl) kr0 kr0 kr0 ?_
            refine d_rd 6 rfl (rd_load rfl rfl) rfl kr0 kr0 kr0 ?_
            refine d_pu 7 rfl (pu_move rfl) kr0 kr0 kr0 ?_
            refine d_pu 8 rfl (pu_indexAddr (off + i * 1) (congrArg some hv) rfl om0 om0 (by rw [Int.toNat_natCast])) kr0 kr0 kr0 ?_
            refine d_rd 9 rfl (rd_ro rfl hc) rfl kr0 kr0 kr0 ?_
            refine d_pu 10 rfl (pu_eql rfl rfl) kr0 kr0 kr0 ?_
            refine d_sub _ (sc0 1 rfl (sc0 3 rfl (sc0 4 rfl (sc0 42 rfl .nil)))) ?_
            first | refine d_nilt kr0 ?_ | refine d_nilf kr0 ?_
            refine then_n ?_
            refine swp_cond (b := _) rfl (fun h42 => ?_) (fun h42 => ?_)
            · skip   -- 42 T
              refine swp_sr ?_
              refine s_as rfl ?_
              refine swl_sub _ (sc0 2 rfl .nil) ?_
              refine swl_nn ?_
              refine swp_ret ?_
              refine block_r ?_
              refine then_r ?_
              refine then_r ?_
              refine block_r ?_
              refine block_r ?_
              refine then_r ?_
              refine then_r ?_
              refine block_r ?_
              refine then_r ?_
              have hqp : q = p := of_decide_eq_true h42
              have hin : (c.1.take i).contains p = true := by
                rw [List.contains_iff_mem, ← hqp]
                exact List.mem_of_getElem? (i := k) (by rw [List.getElem?_take_of_lt h29']; exact hq)
              rw [if_pos hin] at hwe
              rw [firstNZ_at h19' hw (by rw [hwe]; decide), hwe]
              exact done_ret [ro μ] (.tmp rfl .nil) ⟨rfl, rfl⟩ sp0
            · skip   -- 42 F
              refine swp_skip ?_
              refine block_n ?_
              refine then_n ?_
              refine swp_region ?_
              refine s_mv rfl ?_
              refine s_pu (pu_add_as ((k + 1 : Nat) : Int) rfl rfl om0 om0 om0) ?_
              refine s_as rfl ?_
              refine swl_sub _ (sc0 1 rfl (sc0 3 rfl (sc0 4 rfl .nil))) ?_
              refine swl_nil ?_
              refine then_n ⟨k + 1, ⟨⟨rfl, rfl, rfl, trivial⟩, Split.ent' sp0, h29', ?_⟩, by omega⟩
              rw [List.take_add_one, hq]
              intro hm
              rcases List.mem_append.1 hm with hm | hm
              · exact hno hm
              · have : p = q := by simpa using hm
                exact of_decide_eq_false h42 this.symm
          · skip   -- 29 F
            have h29' := of_decide_eq_false h29
            obtain rfl : k = i := by omega
            have hnc : ¬ (c.1.take k).contains p = true := by rw [List.contains_iff_mem]; exact hno
            rw [if_neg hnc] at hwe
            refine swp_exit ?_
            refine then_x ?_
            refine then_x ?_
            refine block_hit rfl ?_
            refine block_n ?_
            refine then_n ?_
            refine swp_region ?_
            refine s_mv rfl ?_
            refine s_pu (pu_add_as ((k + 1 : Nat) : Int) rfl rfl om0 om0 om0) ?_
            refine s_as rfl ?_
            refine swl_sub _ (sc0 1 rfl (sc0 3 rfl .nil)) ?_
            refine swl_nil ?_
            refine then_n ⟨k + 1, ⟨⟨rfl, rfl, trivial⟩, Split.ent' sp0, h19', fun j hj => ?_⟩, by omega⟩
            by_cases e1 : j = k
            · subst e1; exact hwe
            · exact hw j om0
      · skip   -- 17 F
        have h19' := of_decide_eq_false h17
        refine swp_exit ?_
        refine then_x ?_
        refine then_x ?_
        refine block_hit rfl ?_
        refine then_n ?_
        refine swp_sr ?_
        refine s_as rfl ?_
        refine swl_sub _ (sc0 2 rfl .nil) ?_
        refine swl_nn ?_
        refine swp_ret ?_
        rw [firstNZ_ok fun j hj => hw j om0]
        exact done_ret [ro μ] (.tmp rfl .nil) ⟨rfl, rfl⟩ sp0
end SX
namespace SX
open Go Go.Proofs
set_option maxHeartbeats 4000000 in
theorem cenc_spec (μ : PH) (pv : Value) (c : Cm) (h : Row μ pv 1 c.1.length (c.1.flatMap (icsk .i64))) : Spec Tryz.prog 48 [cmV pv c.2] [ro μ] (fun r L => r = .tuple #[.string (str (comV c)), .int .i64 (checkC c)] ∧ L = [ro μ]) := by
  have hsm := h.small
  refine Spec.of 39 Tryz.func48 rfl rfl rfl ?_
  refine swp_sr ?_
  refine s_ef (ef_box rfl rfl) ?_
  intro b1
  refine s_as rfl ?_
  refine s_as rfl ?_
  refine swl_sub _ (sc0 1 rfl .nil) ?_
  refine swl_nn ?_
  refine swp_seq ?_
  refine swp_sr ?_
  first | refine s_rd (rd_loadW rfl rfl) ?_ | refine s_rd (rd_loadX rfl rfl rfl) ?_
  refine s_ef (ef_fn (cchk_spec μ pv c h) rfl rfl sp0) ?_
  rintro v9 L1 ⟨rfl, rfl⟩
  refine swl_app ?_
  refine s_as rfl ?_
  refine swl_sub _ (sc0 1 rfl (sc0 4 rfl .nil)) ?_
  refine swl_nn ?_
  refine swp_sr ?_
  refine s_mv rfl ?_
  refine s_pu (pu_neq rfl rfl) ?_
  refine swl_sub _ (sc0 1 rfl (sc0 4 rfl (sc0 11 rfl .nil))) ?_
  refine swl_nn ?_
  refine swp_cond (b := _) rfl (fun h11 => ?_) (fun h11 => ?_)
  · skip   -- 11 T
    refine swp_sr ?_
    refine s_mv rfl ?_
    refine s_as rfl ?_
    refine s_as rfl ?_
    refine swl_sub _ (sc0 2 rfl (sc0 3 rfl .nil)) ?_
    refine swl_nn ?_
    refine swp_ret ?_
    refine then_r ?_
    have h11' : checkC c ≠ 0 := by simpa using h11
    have e2 : comV c = [] := by unfold comV; rw [if_neg h11']
    rw [e2]
    exact done_ret [ro μ] (.tmp rfl (.tmp rfl .nil)) ⟨rfl, rfl⟩ sp0
  · skip   -- 11 F
    have h11' : checkC c = 0 := by simpa using h11
    have e2 : comV c = encC' c := by unfold comV; rw [if_pos h11']
    rw [e2, h11']
    obtain ⟨k1, k2, k3⟩ := checkC_ok h11'
    obtain ⟨tq, htq⟩ : ∃ q : Nat, c.2 = (q : Int) := ⟨c.2.toNat, by omega⟩
    refine swp_skip ?_
    refine then_n ?_
    refine swp_sr ?_
    refine s_ef (ef_fn wNew_spec rfl rfl sp0) ?_
    rintro v13 L1 ⟨p, rfl, rfl⟩
    refine swl_app ?_
    refine s_as rfl ?_
    refine swl_sub _ (sc0 1 rfl (sc0 5 rfl .nil)) ?_
    refine swl_nn ?_
    refine swp_sr ?_
    refine s_mv rfl ?_
    first | refine s_pu (pu_fieldAddr0 rfl) ?_ | refine s_pu (pu_fieldAddr rfl) ?_
    refine s_rd (rd_load rfl (show _ = some (Value.int .i64 (tq : Nat)) by rw [← htq]; rfl)) ?_
    refine s_pu (pu_conv_as rfl (wrap_lt32 om0)) ?_
    refine s_ef (ef_fn (wU32_spec p tq [] om0 (by decide)) rfl rfl sp0) ?_
    rintro v18 L1 ⟨rfl, rfl⟩
    rw [List.nil_append]
    refine swl_app ?_
    refine swl_sub _ (sc0 1 rfl (sc0 5 rfl .nil)) ?_
    refine swl_nn ?_
    refine swp_sr ?_
    refine s_mv rfl ?_
    first | refine s_pu (pu_fieldAddr0 rfl) ?_ | refine s_pu (pu_fieldAddr rfl) ?_
    refine s_rd (rd_load rfl rfl) ?_
    refine s_pu (pu_len_row h rfl) ?_
    refine s_pu (pu_conv_as rfl (wrap_lt8 om0)) ?_
    refine s_ef (ef_fn (wU8_spec p c.1.length (numB 4 tq) om0 (by rw [numB_len]; decide)) rfl rfl sp0) ?_
    rintro v24 L1 ⟨rfl, rfl⟩
    refine swl_app ?_
    refine swl_sub _ (sc0 1 rfl (sc0 5 rfl .nil)) ?_
    refine swl_nn ?_
    refine swp_seq ?_
    refine swp_sr ?_
    first | refine s_pu (pu_fieldAddr0 rfl) ?_ | refine s_pu (pu_fieldAddr rfl) ?_
    refine s_rd (rd_load rfl rfl) ?_
    refine s_pu (pu_len_row h rfl) ?_
    refine s_mv rfl ?_
    refine swl_sub _ (sc0 5 rfl (sc0 26 rfl (sc0 27 rfl (sc0 28 rfl .nil)))) ?_
    refine swl_nn ?_
    refine swp_block ?_
    refine swp_loop (ι := Nat) (fun i env L => Sub env [(5, .pointer (some ⟨p, 0, none⟩)), (26, pv), (27, .int .i64 (c.1.length : Nat)), (28, .int .i64 (i : Nat))] ∧ Ent L [wrA p (numB 4 tq ++ numB 1 c.1.length ++ encPs (c.1.take i)), ro μ] ∧ i ≤ c.1.length) (fun i => c.1.length - i) 0 ⟨⟨rfl, rfl, rfl, rfl, trivial⟩, by show Ent _ [wrA p (numB 4 tq ++ numB 1 c.1.length ++ []), ro μ]; rw [List.append_nil]; exact Split.ent' sp0, Nat.zero_le _⟩ ?_
    rintro i env L ⟨hsub, hE, hi⟩
    refine swp_sub _ hsub ?_
    refine swp_ent hE ?_
    clear hsub hE env L
    refine swp_sr ?_
    refine s_pu (pu_lss rfl rfl) ?_
    refine swl_sub _ (sc0 5 rfl (sc0 26 rfl (sc0 27 rfl (sc0 28 rfl (sc0 29 rfl .nil))))) ?_
    refine swl_nn ?_
    refine swp_seq ?_
    refine swp_cond (b := _) rfl (fun h29 => ?_) (fun h29 => ?_)
    · skip   -- 29 T
      have h29' : i < c.1.length := by have := of_decide_eq_true h29; omega
      obtain ⟨x, hx⟩ : ∃ x, c.1[i]? = some x := ⟨_, List.getElem?_eq_getElem h29'⟩
      obtain ⟨gb, off, cap, hv, hc⟩ := int_at h hx
      have hxb := k3 x (List.mem_of_getElem? hx)
      obtain ⟨q, hq⟩ : ∃ q : Nat, x = (q : Int) := ⟨x.toNat, by omega⟩
      have hsucc := encPs_succ hx
      rw [hq] at hc hsucc
      have hq2 : q < 4294967296 := by omega
      have hpl := encPs_len (c.1.take i)
      rw [List.length_take, Nat.min_eq_left hi] at hpl
      generalize hbsd : numB 4 tq ++ numB 1 c.1.length ++ encPs (c.1.take i) = bs
      have hbs : bs.length ≤ 300000 := by rw [← hbsd]; simp only [List.length_append, numB_len, hpl]; omega
      refine swp_skip ?_
      refine then_n ?_
      refine swp_seq ?_
      refine swp_block ?_
      refine swp_sr ?_
      refine s_pu (pu_indexAddr (off + i * 1) (congrArg some hv) rfl om0 om0 (by rw [Int.toNat_natCast])) ?_
      refine s_rd (rd_ro rfl hc) ?_
      refine s_as rfl ?_
      refine swl_sub _ (sc0 5 rfl (sc0 7 rfl (sc0 26 rfl (sc0 27 rfl (sc0 28 rfl .nil))))) ?_
      refine swl_nn ?_
      refine swp_region ?_
      refine s_mv rfl ?_
      refine s_mv rfl ?_
      refine s_pu (pu_conv_as rfl (wrap_lt32 hq2)) ?_
      refine s_ef (ef_fn (wU32_spec p q bs hq2 om0) rfl rfl sp0) ?_
      rintro v35 L1 ⟨rfl, rfl⟩
      refine swl_app ?_
      refine swl_sub _ (sc0 5 rfl (sc0 26 rfl (sc0 27 rfl (sc0 28 rfl .nil)))) ?_
      refine swl_nil ?_
      refine block_n ?_
      refine then_n ?_
      refine swp_region ?_
      refine s_pu (pu_add_as ((i + 1 : Nat) : Int) rfl rfl om0 om0 om0) ?_
      refine s_mv rfl ?_
      refine swl_sub _ (sc0 5 rfl (sc0 26 rfl (sc0 27 rfl (sc0 28 rfl .nil)))) ?_
      refine swl_nil ?_
      refine then_n ⟨i + 1, ⟨⟨rfl, rfl, rfl, rfl, trivial⟩, ?_, h29'⟩, by omega⟩
      rw [hsucc, ← List.append_assoc, hbsd, show (q : Int).toNat = q from rfl]
      exact Split.ent' sp0
    · skip   -- 29 F
      have h29' := of_decide_eq_false h29
      obtain rfl : i = c.1.length := by omega
      rw [List.take_length]
      have e3 : encC' c = numB 4 tq ++ numB 1 c.1.length ++ encPs c.1 := by unfold encC'; rw [htq]; rfl
      rw [e3]
      refine swp_exit ?_
      refine then_x ?_
      refine then_x ?_
      refine block_hit rfl ?_
      refine then_n ?_
      refine swp_sr ?_
      refine s_mv rfl ?_
      refine s_ef (ef_fn (wBytes_spec p (numB 4 tq ++ numB 1 c.1.length ++ encPs c.1) (fun e => by have := congrArg List.length e; simp only [List.length_append, numB_len, List.length_nil] at this; omega)) rfl rfl sp0) ?_
      rintro v38 L1 ⟨rfl, rfl⟩
      refine swl_app ?_
      refine s_as rfl ?_
      refine s_as rfl ?_
      refine swl_sub _ (sc0 2 rfl (sc0 3 rfl .nil)) ?_
      refine swl_nn ?_
      refine swp_ret ?_
      exact done_ret [ro μ] (.tmp rfl (.tmp rfl .nil)) ⟨rfl, rfl⟩ sp0
set_option maxHeartbeats 4000000 in
theorem rcenc_spec (μ : PH) (pv : Value) (c : Cm) (h : Row μ pv 1 c.1.length (c.1.flatMap (icsk .i64))) : Spec Tryz.prog 53 [cmV pv c.2] [ro μ] (fun r L => r = .tuple #[.string (str (comV c)), .int .i64 (checkC c)] ∧ L = [ro μ]) := by
  have hsm := h.small
  refine Spec.of 39 Tryz.func53 rfl rfl rfl ?_
  refine swp_sr ?_
  refine s_ef (ef_box rfl rfl) ?_
  intro b1
  refine s_as rfl ?_
  refine s_as rfl ?_
  refine swl_sub _ (sc0 1 rfl .nil) ?_
  refine swl_nn ?_
  refine swp_sr ?_
  first | refine s_rd (rd_loadW rfl rfl) ?_ | refine s_rd (rd_loadX rfl rfl rfl) ?_
  refine s_ef (ef_fn (rcchk_spec μ pv c h) rfl rfl sp0) ?_
  rintro v9 L1 ⟨rfl, rfl⟩
  refine swl_app ?_
  refine s_as rfl ?_
  refine swl_sub _ (sc0 1 rfl (sc0 4 rfl .nil)) ?_
  refine swl_nn ?_
  refine swp_seq ?_
  refine swp_sr ?_
  refine s_mv rfl ?_
  refine s_pu (pu_neq rfl rfl) ?_
  refine swl_sub _ (sc0 1 rfl (sc0 4 rfl (sc0 10 rfl .nil))) ?_
  refine swl_nn ?_
  refine swp_cond (b := _) rfl (fun h10 => ?_) (fun h10 => ?_)
  · skip   -- 10 T
    refine swp_sr ?_
    refine s_mv rfl ?_
    refine s_as rfl ?_
    refine s_as rfl ?_
    refine swl_sub _ (sc0 2 rfl (sc0 3 rfl .nil)) ?_
    refine swl_nn ?_
    refine swp_ret ?_
    refine then_r ?_
    have h11' : checkC c ≠ 0 := by simpa using h10
    have e2 : comV c = [] := by unfold comV; rw [if_neg h11']
    rw [e2]
    exact done_ret [ro μ] (.tmp rfl (.tmp rfl .nil)) ⟨rfl, rfl⟩ sp0
  · skip   -- 10 F
    have h11' : checkC c = 0 := by simpa using h10
    have e2 : comV c = encC' c := by unfold comV; rw [if_pos h11']
    rw [e2, h11']
    obtain ⟨k1, k2, k3⟩ := checkC_ok h11'
    obtain ⟨tq, htq⟩ : ∃ q : Nat, c.2 = (q : Int) := ⟨c.2.toNat, by omega⟩
    refine swp_skip ?_
    refine then_n ?_
    refine swp_seq ?_
    refine swp_draw [1, 5] _ [] (by simp only [List.append_nil]; exact Ent.refl _) kr0 ?_
    first | refine d_pu 0 rfl (pu_fieldAddr0 rfl) kr0 kr0 kr0 ?_ | refine d_pu 0 rfl (pu_fieldAddr rfl) kr0 kr0 kr0 ?_
    refine d_rd 1 rfl (rd_load rfl (show _ = some (Value.int .i64 (tq : Nat)) by rw [← htq]; rfl)) rfl kr0 kr0 kr0 ?_
    refine d_pu 2 rfl (pu_conv_u64 rfl om0 om0) kr0 kr0 kr0 ?_
    first | refine d_pu 4 rfl (pu_fieldAddr0 rfl) kr0 kr0 kr0 ?_ | refine d_pu 4 rfl (pu_fieldAddr rfl) kr0 kr0 kr0 ?_
    refine d_rd 5 rfl (rd_load rfl rfl) rfl kr0 kr0 kr0 ?_
    refine d_pu 6 rfl (pu_len_row h rfl) kr0 kr0 kr0 ?_
    refine d_pu 7 rfl (pu_conv_u64 rfl om0 om0) kr0 kr0 kr0 ?_
    refine d_eft 3 rfl kr0 (ef_fn (rNumber_spec tq 4 (by decide) (by decide) om0) rfl rfl sp0) ?_
    rintro v15 L1 ⟨rfl, rfl⟩
    refine ⟨_, ent_appC (Split.ent sp0), ?_⟩
    first | refine d_fint 8 rfl kr0 kr0 (ef_fn (rNumber_spec c.1.length 1 (by decide) (by decide) om0) rfl rfl sp0) ?_ | refine d_finf 8 rfl kr0 kr0 (ef_fn (rNumber_spec c.1.length 1 (by decide) (by decide) om0) rfl rfl sp0) ?_
    rintro v20 L1 ⟨rfl, rfl⟩
    refine swd_app ?_
    refine d_pu 9 rfl (pu_strcat rfl rfl (by rw [numB_len, numB_len]; omega)) kr0 kr0 kr0 ?_
    refine d_pu 10 rfl (pu_assign rfl) kr0 kr0 kr0 ?_
    refine d_sub _ (sc0 1 rfl (sc0 5 rfl .nil)) ?_
    first | refine d_nilt kr0 ?_ | refine d_nilf kr0 ?_
    refine then_n ?_
    refine swp_seq ?_
    refine swp_sr ?_
    refine s_as rfl ?_
    refine swl_sub _ (sc0 1 rfl (sc0 5 rfl (sc0 6 rfl .nil))) ?_
    refine swl_nn ?_
    refine swp_block ?_
    refine swp_loop (ι := Nat) (fun i env L => Sub env [(1, .pointer (some ⟨b1, 0, none⟩)), (5, .string (str (numB 4 tq ++ numB 1 c.1.length ++ encPs (c.1.take i)))), (6, .int .i64 (i : Nat))] ∧ Ent L [blk b1 25 [pv, .int .i64 c.2], ro μ] ∧ i ≤ c.1.length) (fun i => c.1.length - i) 0 ⟨⟨rfl, by show look _ 5 = some (.string (str (numB 4 tq ++ numB 1 c.1.length ++ []))); rw [List.append_nil]; rfl, rfl, trivial⟩, Split.ent' sp0, Nat.zero_le _⟩ ?_
    rintro i env L ⟨hsub, hE, hi⟩
    refine swp_sub _ hsub ?_
    refine swp_ent hE ?_
    clear hsub hE env L
    refine swp_seq ?_
    refine swp_sr ?_
    refine s_mv rfl ?_
    first | refine s_pu (pu_fieldAddr0 rfl) ?_ | refine s_pu (pu_fieldAddr rfl) ?_
    refine s_rd (rd_load rfl rfl) ?_
    refine s_pu (pu_len_row h rfl) ?_
    refine s_pu (pu_lss rfl rfl) ?_
    refine swl_sub _ (sc0 1 rfl (sc0 5 rfl (sc0 6 rfl (sc0 26 rfl .nil)))) ?_
    refine swl_nn ?_
    refine swp_cond (b := _) rfl (fun h26 => ?_) (fun h26 => ?_)
    · skip   -- 26 T
      have h29' : i < c.1.length := by have := of_decide_eq_true h26; omega
      obtain ⟨x, hx⟩ : ∃ x, c.1[i]? = some x := ⟨_, List.getElem?_eq_getElem h29'⟩
      obtain ⟨gb, off, cap, hv, hc⟩ := int_at h hx
      have hxb := k3 x (List.mem_of_getElem? hx)
      obtain ⟨q, hq⟩ : ∃ q : Nat, x = (q : Int) := ⟨x.toNat, by omega⟩
      have hsucc := encPs_succ hx
      rw [hq] at hc hsucc
      have hq2 : q < 4294967296 := by omega
      have hpl := encPs_len (c.1.take i)
      rw [List.length_take, Nat.min_eq_left hi] at hpl
      generalize hbsd : numB 4 tq ++ numB 1 c.1.length ++ encPs (c.1.take i) = bs
      have hbs : bs.length ≤ 300000 := by rw [← hbsd]; simp only [List.length_append, numB_len, hpl]; omega
      refine swp_skip ?_
      refine then_n ?_
      refine swp_seq ?_
      refine swp_block ?_
      refine swp_region ?_
      refine s_mv rfl ?_
      first | refine s_pu (pu_fieldAddr0 rfl) ?_ | refine s_pu (pu_fieldAddr rfl) ?_
      refine s_rd (rd_load rfl rfl) ?_
      refine s_mv rfl ?_
      refine s_pu (pu_indexAddr (off + i * 1) (congrArg some hv) rfl om0 om0 (by rw [Int.toNat_natCast])) ?_
      refine s_rd (rd_ro rfl hc) ?_
      refine s_pu (pu_conv_u64 rfl om0 om0) ?_
      refine s_ef (ef_fn (rNumber_spec q 4 (by decide) (by decide) om0) rfl rfl sp0) ?_
      rintro v36 L1 ⟨rfl, rfl⟩
      refine swl_app ?_
      refine s_pu (pu_strcat rfl rfl (by rw [numB_len]; omega)) ?_
      refine s_as rfl ?_
      refine swl_sub _ (sc0 1 rfl (sc0 5 rfl (sc0 6 rfl .nil))) ?_
      refine swl_nil ?_
      refine block_n ?_
      refine then_n ?_
      refine swp_region ?_
      refine s_mv rfl ?_
      refine s_pu (pu_add_as ((i + 1 : Nat) : Int) rfl rfl om0 om0 om0) ?_
      refine s_as rfl ?_
      refine swl_sub _ (sc0 1 rfl (sc0 5 rfl (sc0 6 rfl .nil))) ?_
      refine swl_nil ?_
      refine then_n ⟨i + 1, ⟨⟨rfl, ?_, rfl, trivial⟩, Split.ent' sp0, h29'⟩, by omega⟩
      rw [hsucc, ← List.append_assoc, hbsd, show (q : Int).toNat = q from rfl]
      rfl
    · skip   -- 26 F
      have h29' := of_decide_eq_false h26
      obtain rfl : i = c.1.length := by omega
      rw [List.take_length]
      have e3 : encC' c = numB 4 tq ++ numB 1 c.1.length ++ encPs c.1 := by unfold encC'; rw [htq]; rfl
      rw [e3]
      refine swp_exit ?_
      refine then_x ?_
      refine then_x ?_
      refine block_hit rfl ?_
      refine then_n ?_
      refine swp_sr ?_
      refine s_mv rfl ?_
      refine s_as rfl ?_
      refine s_as rfl ?_
      refine swl_sub _ (sc0 2 rfl (sc0 3 rfl .nil)) ?_
      refine swl_nn ?_
      refine swp_ret ?_
      exact done_ret [ro μ] (.tmp rfl (.tmp rfl .nil)) ⟨rfl, rfl⟩ sp0
end SX
namespace SX
open Go Go.Proofs
theorem pu_add_u8 {P : Program} {env : Env} {t u : TypeId} {x y : Operand} {a b : Int} (c : Nat) (hx : evalE env x = some (.int .u8 a)) (hy : evalE env y = some (.int .u8 b)) (hc : a + b = (c : Int)) (h2 : c < 256) : Pu P env (.binOp .add t x y u) (.int .u8 (c : Nat)) := by
  have := pu_add (P := P) (t := t) (u := u) hx hy
  rw [hc, wrap_lt8 h2] at this
  exact this
/-- what a decoder of commits answers -/
def DecC (s : List UInt8) (μ : PH) (cv : Value) (e : Int) : Prop :=
  (e = 0 ∧ ∃ c pv, decC s = some c ∧ cv = cmV pv c.2 ∧ Row μ pv 1 c.1.length (c.1.flatMap (icsk .i64))) ∨ (e ≠ 0 ∧ decC s = none ∧ cv = cmV (.slice none 0 0) 0)
structure CI where
  i : Nat
  r : RS
  acc : List Int
  v : Value
/-- where a reader of numbers stands -/
def CIn (s : List UInt8) (n i : Nat) (r : RS) (acc : List Int) : Prop :=
  (r = (5 + 4 * i, 0) ∧ 5 + 4 * i ≤ s.length ∧ acc = numsAt s i 5) ∨ (r.2 ≠ 0 ∧ r.1 ≤ s.length ∧ s.length ≠ 5 + 4 * n)
theorem CIn.step {s : List UInt8} {n i : Nat} {r : RS} {acc : List Int} (h : CIn s n i r acc) (hi : i < n) : CIn s n (i + 1) (rawR s 4 r) (acc ++ [((valB (rawV s 4 r) : Nat) : Int)]) := by
  rcases h with ⟨h1, h2, h3⟩ | ⟨h1, h2, h3⟩
  · subst h1
    by_cases hk : 5 + 4 * i + 4 ≤ s.length
    · rw [(rawR_ok hk).1, (rawR_ok hk).2]
      exact .inl ⟨by rw [show 5 + 4 * i + 4 = 5 + 4 * (i + 1) by omega], by omega, by rw [numsAt_snoc, h3]⟩
    · rw [(rawR_no om0).1]
      exact .inr ⟨by show ¬ (2 : Int) = 0; decide, h2, by omega⟩
  · rw [(rawR_err h1).1]
    exact .inr ⟨h1, h2, h3⟩
theorem CIn.le {s : List UInt8} {n i : Nat} {r : RS} {acc : List Int} (h : CIn s n i r acc) : r.1 ≤ s.length := by
  rcases h with ⟨h1, h2, _⟩ | ⟨_, h2, _⟩
  · subst h1; exact h2
  · exact h2
theorem decC_short {s : List UInt8} (h : s.length < 5) : decC s = none := by unfold decC; rw [if_pos h]
theorem decC_long {s : List UInt8} (h : 16 < valB ((s.drop 4).take 1)) : decC s = none := by
  unfold decC
  split
  · rfl
  · first | rfl | rw [if_pos h]
theorem decC_len {s : List UInt8} {n : Nat} (hn : valB ((s.drop 4).take 1) = n) (h : s.length ≠ 5 + 4 * n) : decC s = none := by
  unfold decC
  rw [hn]
  split
  · rfl
  · split
    · rfl
    · first | rfl | rw [if_pos h]
theorem decC_chk {s : List UInt8} {n : Nat} (hn : valB ((s.drop 4).take 1) = n) (h : s.length = 5 + 4 * n) (hN : n ≤ 16) : decC s = if checkC (numsAt s n 5, ((valB (s.take 4) : Nat) : Int)) ≠ 0 then none else some (numsAt s n 5, ((valB (s.take 4) : Nat) : Int)) := by
  unfold decC
  rw [hn, if_neg om0, if_neg om0, if_neg (fun k => k h)]
/-- the end of a reader of numbers -/
theorem CIn.ends {s : List UInt8} {n : Nat} {r : RS} {acc : List Int} (h : CIn s n n r acc) : (endE s r = 0 → s.length = 5 + 4 * n ∧ acc = numsAt s n 5) ∧ (endE s r ≠ 0 → s.length ≠ 5 + 4 * n) := by
  rcases h with ⟨h1, h2, h3⟩ | ⟨h1, h2, h3⟩
  · subst h1
    exact ⟨fun k => ⟨((endE_zero h2).1 k).symm, h3⟩, fun k => fun e => (endE_zero h2).2 k e.symm⟩
  · have : endE s r = r.2 := by unfold endE; rw [if_pos h1]
    rw [this]
    exact ⟨fun k => absurd k h1, fun _ => h3⟩
/-- the beginning of a commit's bytes -/
theorem head5 (s : List UInt8) : (s.length < 5 ∧ (rawR s 1 (rawR s 4 (0, 0))).2 ≠ 0 ∧ (rawR s 1 (rawR s 4 (0, 0))).1 ≤ s.length ∧ valB (rawV s 1 (rawR s 4 (0, 0))) = 0) ∨
    (5 ≤ s.length ∧ rawR s 1 (rawR s 4 (0, 0)) = (5, 0) ∧ rawV s 4 (0, 0) = s.take 4 ∧ rawV s 1 (rawR s 4 (0, 0)) = (s.drop 4).take 1) := by
  by_cases h4 : 0 + 4 ≤ s.length
  · rw [(rawR_ok h4).1, (rawR_ok h4).2]
    by_cases h5 : 0 + 4 + 1 ≤ s.length
    · rw [(rawR_ok h5).1, (rawR_ok h5).2]
      exact .inr ⟨by omega, rfl, rfl, rfl⟩
    · rw [(rawR_no om0).1, (rawR_no om0).2]
      exact .inl ⟨by omega, by show ¬ (2 : Int) = 0; decide, h4, rfl⟩
  · rw [(rawR_no om0).1]
    have hr2 : ((0, 2) : RS).2 ≠ 0 := by show ¬ (2 : Int) = 0; decide
    rw [(rawR_err hr2).1, (rawR_err hr2).2]
    exact .inl ⟨by omega, hr2, Nat.zero_le _, rfl⟩
theorem head_cin {s : List UInt8} (h : (rawR s 1 (rawR s 4 (0, 0))).2 ≠ 0 ∨ valB (rawV s 1 (rawR s 4 (0, 0))) ≤ 16) : valB (rawV s 1 (rawR s 4 (0, 0))) ≤ 16 ∧ CIn s (valB (rawV s 1 (rawR s 4 (0, 0)))) 0 (rawR s 1 (rawR s 4 (0, 0))) [] ∧
    (5 ≤ s.length → valB ((s.drop 4).take 1) = valB (rawV s 1 (rawR s 4 (0, 0))) ∧ valB (s.take 4) = valB (rawV s 4 (0, 0))) ∧ (s.length < 5 → valB (rawV s 1 (rawR s 4 (0, 0))) = 0) := by
  rcases head5 s with ⟨h1, h2, h3, h4⟩ | ⟨h1, h2, h3, h4⟩
  · rw [h4]
    exact ⟨Nat.zero_le _, .inr ⟨h2, h3, by omega⟩, fun k => absurd h1 om0, fun _ => rfl⟩
  · rw [h2, h4] at h
    rw [h2, h4, h3]
    refine ⟨?_, .inl ⟨rfl, h1, rfl⟩, fun _ => ⟨rfl, rfl⟩, fun k => absurd h1 om0⟩
    rcases h with h | h
    · exact absurd rfl h
    · exact h
set_option maxHeartbeats 4000000 in
theorem cdec_spec (μ : PH) (s : List UInt8) (hs : s.length ≤ 1073741824) : Spec Tryz.prog 122 [.string (str s)] [ro μ] (fun v L => ∃ cv e μ', v = .tuple #[cv, .int .i64 e] ∧ L = [ro μ'] ∧ Le μ μ' ∧ DecC s μ' cv e) := by
  have hh := head5 s
  have hr1 := rawR_le (s := s) (n := 4) (r := (0, 0)) (Nat.zero_le _)
  refine Spec.of 62 Tryz.func122 rfl rfl rfl ?_
  refine swp_sr ?_
  refine s_ef (ef_alloc) ?_
  intro b2
  refine s_as rfl ?_
  refine swl_sub _ (sc0 0 rfl (sc0 2 rfl .nil)) ?_
  refine swl_nn ?_
  refine swp_sr ?_
  refine s_mv rfl ?_
  refine s_ef (ef_fn (newR_spec s) rfl rfl sp0) ?_
  rintro v14 L1 ⟨p, rfl, rfl⟩
  refine swl_app ?_
  refine s_as rfl ?_
  refine swl_sub _ (sc0 2 rfl (sc0 4 rfl .nil)) ?_
  refine swl_nn ?_
  refine swp_sr ?_
  refine s_mv rfl ?_
  refine s_ef (ef_fn (rdU32_spec p s (0, 0) hs (Nat.zero_le _)) rfl rfl sp0) ?_
  rintro v17 L1 ⟨rfl, rfl⟩
  refine swl_app ?_
  refine s_mv rfl ?_
  first | refine s_pu (pu_extractL rfl) ?_ | refine s_pu (pu_extract rfl rfl) ?_
  first | refine s_pu (pu_extractL rfl) ?_ | refine s_pu (pu_extract rfl rfl) ?_
  refine s_as rfl ?_
  refine s_as rfl ?_
  refine swl_sub _ (sc0 2 rfl (sc0 4 rfl (sc0 5 rfl .nil))) ?_
  refine swl_nn ?_
  refine swp_sr ?_
  refine s_mv rfl ?_
  refine s_ef (ef_fn (rdU8_spec p s (rawR s 4 (0, 0)) hs hr1) rfl rfl sp0) ?_
  rintro v22 L1 ⟨rfl, rfl⟩
  refine swl_app ?_
  refine s_mv rfl ?_
  first | refine s_pu (pu_extractL rfl) ?_ | refine s_pu (pu_extract rfl rfl) ?_
  first | refine s_pu (pu_extractL rfl) ?_ | refine s_pu (pu_extract rfl rfl) ?_
  refine s_as rfl ?_
  refine s_as rfl ?_
  refine swl_sub _ (sc0 2 rfl (sc0 4 rfl (sc0 5 rfl (sc0 7 rfl (sc0 8 rfl .nil))))) ?_
  refine swl_nn ?_
  refine swp_cut (fun env L => ∃ (n : Nat) (r : RS) (tq : Nat), Sub env [(2, .pointer (some ⟨b2, 0, none⟩)), (4, .pointer (some ⟨p, 0, none⟩)), (5, .int .u32 (tq : Nat)), (7, .int .u8 (n : Nat))] ∧ Ent L [blk b2 25 [.slice none 0 0, .int .i64 0], rdB p s r, ro μ] ∧ n ≤ 16 ∧ tq < 4294967296 ∧ CIn s n 0 r [] ∧ (5 ≤ s.length → valB ((s.drop 4).take 1) = n ∧ valB (s.take 4) = tq) ∧ (s.length < 5 → n = 0)) ?_ ?_
  · skip
    refine swp_sr ?_
    refine s_mv rfl ?_
    refine s_pu (pu_eql rfl rfl) ?_
    refine s_mv rfl ?_
    refine s_split 27 rfl (fun h27 => ?_) (fun h27 => ?_)
    · skip   -- 27 T
      refine s_on rfl rfl ?_
      refine s_mv rfl ?_
      refine s_on rfl rfl ?_
      refine s_pu (pu_gtr rfl rfl) ?_
      first | refine s_pu (pu_pick_t rfl rfl) ?_ | refine s_pu (pu_pick_f rfl rfl) ?_
      refine swl_sub _ (sc0 2 rfl (sc0 4 rfl (sc0 5 rfl (sc0 7 rfl (sc0 30 rfl .nil))))) ?_
      refine swl_nn ?_
      refine swp_cond (b := _) rfl (fun h30 => ?_) (fun h30 => ?_)
      · skip   -- 30 T
        refine swp_sr ?_
        refine s_pu (pu_bld (qs := []) rfl) ?_
        refine s_ef0 (ef_storeA rfl rfl rfl rfl) ?_
        refine s_as rfl ?_
        refine swl_sub _ (sc0 2 rfl (sc0 3 rfl .nil)) ?_
        refine swl_nn ?_
        refine swp_ret ?_
        refine then_r ?_
        have h27' := of_decide_eq_true h27
        have h30' : 16 < valB (rawV s 1 (rawR s 4 (0, 0))) := by have := of_decide_eq_true h30; omega
        have hd : decC s = none := by
          rcases hh with ⟨h1, _⟩ | ⟨_, _, _, h4⟩
          · exact decC_short h1
          · rw [h4] at h30'; exact decC_long h30'
        exact done_ret [ro μ] (.cell rfl (ld_whole rfl) (.tmp rfl .nil)) ⟨_, 3, μ, rfl, rfl, Le.refl _, .inr ⟨by decide, hd, rfl⟩⟩ sp0
      · skip   -- 30 F
        refine swp_skip ?_
        obtain ⟨q1, q2, q3⟩ := head_cin (s := s) (.inr (by have := of_decide_eq_false h30; omega))
        exact then_n ⟨_, _, _, ⟨rfl, rfl, rfl, rfl, trivial⟩, Split.ent' sp0, q1, valB_lt4 (rawV_len _ _ _), q2, q3⟩
    · skip   -- 27 F
      refine s_off rfl rfl rfl ?_
      refine s_off rfl rfl rfl ?_
      first | refine s_pu (pu_pick_t rfl rfl) ?_ | refine s_pu (pu_pick_f rfl rfl) ?_
      refine swl_sub _ (sc0 2 rfl (sc0 4 rfl (sc0 5 rfl (sc0 7 rfl (sc0 30 rfl .nil))))) ?_
      refine swl_nn ?_
      refine swp_cond (b := _) rfl (fun h30 => by cases h30) (fun h30 => ?_)
      refine swp_skip ?_
      obtain ⟨q1, q2, q3⟩ := head_cin (s := s) (.inl (of_decide_eq_false h27))
      exact then_n ⟨_, _, _, ⟨rfl, rfl, rfl, rfl, trivial⟩, Split.ent' sp0, q1, valB_lt4 (rawV_len _ _ _), q2, q3⟩
  rintro env L ⟨n, r0, tq, hsub, hE, hn, htq, hin, h5, h50⟩
  refine swp_sub _ hsub ?_
  refine swp_ent hE ?_
  clear hsub hE env L hh hr1
  refine swp_sr ?_
  refine s_mv rfl ?_
  refine s_pu (pu_conv_i64 rfl om0 om0) ?_
  refine s_pu (pu_bld (qs := [(1, _)]) rfl) ?_
  refine s_ef (ef_alloc) ?_
  intro b9
  refine s_ef0 (ef_storeA rfl rfl rfl rfl) ?_
  refine swl_sub _ (sc0 2 rfl (sc0 4 rfl (sc0 7 rfl (sc0 9 rfl .nil)))) ?_
  refine swl_nn ?_
  refine swp_seq ?_
  refine swp_sr ?_
  refine s_mv rfl ?_
  refine s_mv rfl ?_
  refine swl_sub _ (sc0 2 rfl (sc0 4 rfl (sc0 9 rfl (sc0 35 rfl (sc0 36 rfl .nil))))) ?_
  refine swl_nn ?_
  refine swp_block ?_
  refine swp_ent (own_nil_ent (e := 3) (n := 1)) ?_
  refine swp_loop (ι := CI) (fun x env L => Sub env [(2, .pointer (some ⟨b2, 0, none⟩)), (4, .pointer (some ⟨p, 0, none⟩)), (9, .pointer (some ⟨b9, 0, none⟩)), (35, .int .u8 (n : Nat)), (36, .int .u8 (x.i : Nat))] ∧ Ent L [blk b9 25 [x.v, .int .i64 (tq : Nat)], own 3 1 x.v x.i (x.acc.flatMap (icsk .i64)), blk b2 25 [.slice none 0 0, .int .i64 0], rdB p s x.r, ro μ] ∧ x.i ≤ n ∧ x.acc.length = x.i ∧ CIn s n x.i x.r x.acc) (fun x => n - x.i) ⟨0, r0, [], .slice none 0 0⟩ ⟨⟨rfl, rfl, rfl, rfl, rfl, trivial⟩, by show Ent _ [blk b9 25 [.slice none 0 0, .int .i64 (tq : Nat)], own 3 1 (.slice none 0 0) 0 [], blk b2 25 [.slice none 0 0, .int .i64 0], rdB p s r0, ro μ]; exact Split.ent' sp0, Nat.zero_le _, rfl, hin⟩ ?_
  clear hin r0
  rintro ⟨i, r, acc, v⟩ env L ⟨hsub, hE, hi, hacc, hin⟩
  dsimp only at hsub hE hi hacc hin
  refine swp_sub _ hsub ?_
  refine swp_ent hE ?_
  clear hsub hE env L
  dsimp only
  refine swp_sr ?_
  refine s_pu (pu_lss rfl rfl) ?_
  refine swl_sub _ (sc0 2 rfl (sc0 4 rfl (sc0 9 rfl (sc0 35 rfl (sc0 36 rfl (sc0 37 rfl .nil)))))) ?_
  refine swl_nn ?_
  refine swp_seq ?_
  refine swp_cond (b := _) rfl (fun h37 => ?_) (fun h37 => ?_)
  · skip   -- 37 T
    have h37' : i < n := by have := of_decide_eq_true h37; omega
    refine swp_skip ?_
    refine then_n ?_
    refine swp_seq ?_
    refine swp_block ?_
    refine swp_sr ?_
    refine s_mv rfl ?_
    refine s_ef (ef_fn (rdU32_spec p s r hs hin.le) rfl rfl sp0) ?_
    rintro v40 L1 ⟨rfl, rfl⟩
    refine swl_app ?_
    refine s_mv rfl ?_
    first | refine s_pu (pu_extractL rfl) ?_ | refine s_pu (pu_extract rfl rfl) ?_
    first | refine s_pu (pu_extractL rfl) ?_ | refine s_pu (pu_extract rfl rfl) ?_
    refine s_as rfl ?_
    refine s_as rfl ?_
    refine swl_sub _ (sc0 2 rfl (sc0 4 rfl (sc0 9 rfl (sc0 10 rfl (sc0 35 rfl (sc0 36 rfl .nil)))))) ?_
    refine swl_nn ?_
    refine swp_region ?_
    first | refine s_pu (pu_fieldAddr0 rfl) ?_ | refine s_pu (pu_fieldAddr rfl) ?_
    refine s_rd (rd_load rfl rfl) ?_
    refine s_mv rfl ?_
    refine s_pu (pu_conv_i64 rfl om0 (by have := valB_lt4 (rawV_len s 4 r); omega)) ?_
    refine s_ef (ef_bldS (qs := [(0, _)]) rfl rfl rfl) ?_
    intro b47
    refine s_ef (ef_append_lit (l := i) (m := 1) rfl rfl sp0 (by simp only [maxLen]; omega) om0) ?_
    rintro v48 -
    refine swl_fact (fun m h => own_form h) fun ⟨A48, cap48, hv48⟩ => ?_
    subst hv48
    first | refine s_pu (pu_fieldAddr0 rfl) ?_ | refine s_pu (pu_fieldAddr rfl) ?_
    refine s_ef0 (ef_store rfl rfl rfl) ?_
    refine swl_sub _ (sc0 2 rfl (sc0 4 rfl (sc0 9 rfl (sc0 35 rfl (sc0 36 rfl .nil))))) ?_
    refine swl_nil ?_
    refine block_n ?_
    refine then_n ?_
    refine swp_region ?_
    refine s_pu (pu_add_u8 (i + 1) rfl rfl om0 om0) ?_
    refine s_mv rfl ?_
    refine swl_sub _ (sc0 2 rfl (sc0 4 rfl (sc0 9 rfl (sc0 35 rfl (sc0 36 rfl .nil))))) ?_
    refine swl_nil ?_
    refine then_n ⟨⟨i + 1, rawR s 4 r, acc ++ [((valB (rawV s 4 r) : Nat) : Int)], .slice A48 (i + 1) cap48⟩, ⟨⟨rfl, rfl, rfl, rfl, rfl, trivial⟩, ?_, h37', by show (acc ++ [_]).length = i + 1; rw [List.length_append, List.length_singleton, hacc], hin.step h37'⟩, by show n - (i + 1) < n - i; omega⟩
    show Ent _ [blk b9 25 [.slice A48 (i + 1) cap48, .int .i64 (tq : Nat)], own 3 1 (.slice A48 (i + 1) cap48) (i + 1) ((acc ++ [((valB (rawV s 4 r) : Nat) : Int)]).flatMap (icsk .i64)), blk b2 25 [.slice none 0 0, .int .i64 0], rdB p s (rawR s 4 r), ro μ]
    rw [show (acc ++ [((valB (rawV s 4 r) : Nat) : Int)]).flatMap (icsk .i64) = acc.flatMap (icsk .i64) ++ [.int .i64 ((valB (rawV s 4 r) : Nat) : Int)] by rw [List.flatMap_append]; rfl]
    exact Split.ent' sp0
  · skip   -- 37 F
    have h37' := of_decide_eq_false h37
    obtain rfl : i = n := by omega
    obtain ⟨hk1, hk2⟩ := hin.ends
    refine swp_exit ?_
    refine then_x ?_
    refine then_x ?_
    refine block_hit rfl ?_
    refine then_n ?_
    refine swp_seq ?_
    refine swp_sr ?_
    refine s_mv rfl ?_
    refine s_ef (ef_fn (rdEnd_spec p s r hs hin.le) rfl rfl sp0) ?_
    rintro v52 L1 ⟨rfl, rfl⟩
    refine swl_app ?_
    refine s_as rfl ?_
    refine swl_sub _ (sc0 2 rfl (sc0 9 rfl (sc0 12 rfl .nil))) ?_
    refine swl_nn ?_
    refine swp_sr ?_
    refine s_mv rfl ?_
    refine s_pu (pu_neq rfl rfl) ?_
    refine swl_sub _ (sc0 2 rfl (sc0 9 rfl (sc0 12 rfl (sc0 54 rfl .nil)))) ?_
    refine swl_nn ?_
    refine swp_cond (b := _) rfl (fun h54 => ?_) (fun h54 => ?_)
    · skip   -- 54 T
      refine swp_sr ?_
      refine s_pu (pu_bld (qs := []) rfl) ?_
      refine s_mv rfl ?_
      refine s_ef0 (ef_storeA rfl rfl rfl rfl) ?_
      refine s_as rfl ?_
      refine swl_sub _ (sc0 2 rfl (sc0 3 rfl .nil)) ?_
      refine swl_nn ?_
      refine swp_ret ?_
      refine then_r ?_
      have h54' : endE s r ≠ 0 := by simpa using h54
      have hd : decC s = none := by
        by_cases h : s.length < 5
        · exact decC_short h
        · exact decC_len (h5 om0).1 (hk2 h54')
      exact done_ret [ro μ] (.cell rfl (ld_whole rfl) (.tmp rfl .nil)) ⟨_, _, μ, rfl, rfl, Le.refl _, .inr ⟨h54', hd, rfl⟩⟩ sp0
    · skip   -- 54 F
      have h54' : endE s r = 0 := by simpa using h54
      obtain ⟨hk3, hk4⟩ := hk1 h54'
      obtain ⟨hn5, ht5⟩ := h5 om0
      have hd := decC_chk hn5 hk3 hn
      rw [ht5, ← hk4] at hd
      refine swp_skip ?_
      refine then_n ?_
      refine swp_seq ?_
      refine swp_seq ?_
      subst hacc
      refine swp_share_own (μ := μ) (v := v) sp0 fun μ' hle hrow => ?_
      obtain ⟨A9, cap9, rfl⟩ := hrow.sl
      refine swp_region ?_
      first | refine s_rd (rd_loadW rfl rfl) ?_ | refine s_rd (rd_loadX rfl rfl rfl) ?_
      refine s_ef (ef_fn (cchk_spec μ' (.slice A9 acc.length cap9) (acc, (tq : Nat)) hrow) rfl rfl sp0) ?_
      rintro v58 L1 ⟨rfl, rfl⟩
      refine swl_app ?_
      refine s_pu (pu_neq rfl rfl) ?_
      refine swl_sub _ (sc0 2 rfl (sc0 9 rfl (sc0 59 rfl .nil))) ?_
      refine swl_nn ?_
      refine swp_cond (b := _) rfl (fun h59 => ?_) (fun h59 => ?_)
      · skip   -- 59 T
        refine swp_sr ?_
        refine s_pu (pu_bld (qs := []) rfl) ?_
        refine s_ef0 (ef_storeA rfl rfl rfl rfl) ?_
        refine s_as rfl ?_
        refine swl_sub _ (sc0 2 rfl (sc0 3 rfl .nil)) ?_
        refine swl_nn ?_
        refine swp_ret ?_
        refine then_r ?_
        have h59' : checkC (acc, ((tq : Nat) : Int)) ≠ 0 := by simpa using h59
        rw [if_pos h59'] at hd
        exact done_ret [ro μ'] (.cell rfl (ld_whole rfl) (.tmp rfl .nil)) ⟨_, 3, μ', rfl, rfl, hle, .inr ⟨by decide, hd, rfl⟩⟩ sp0
      · skip   -- 59 F
        refine swp_skip ?_
        refine then_n ?_
        refine swp_sr ?_
        first | refine s_rd (rd_loadW rfl rfl) ?_ | refine s_rd (rd_loadX rfl rfl rfl) ?_
        refine s_ef0 (ef_storeA rfl rfl rfl rfl) ?_
        refine s_as rfl ?_
        refine swl_sub _ (sc0 2 rfl (sc0 3 rfl .nil)) ?_
        refine swl_nn ?_
        refine swp_ret ?_
        have h59' : checkC (acc, ((tq : Nat) : Int)) = 0 := by simpa using h59
        rw [if_neg (not_not_intro h59')] at hd
        exact done_ret [ro μ'] (.cell rfl (ld_whole rfl) (.tmp rfl .nil)) ⟨_, 0, μ', rfl, rfl, hle, .inl ⟨rfl, _, _, hd, rfl, hrow⟩⟩ sp0
end SX
namespace SX
open Go Go.Proofs
end SX
namespace SX
open Go Go.Proofs
/-- a frame as a value -/
abbrev fmV (f : Fm) : Value := .agg #[.int .i64 (f.1 : Nat), .string (str f.2)]
theorem fsize_spec (f : Fm) (hb : f.2.length ≤ 1048576) : Spec Tryz.prog 83 [fmV f] [] (fun r L => r = .int .i64 ((f.2.length + 9 : Nat) : Int) ∧ L = []) := by
  refine Spec.of 7 Tryz.func83 rfl rfl rfl ?_
  refine swp_sr ?_
  refine s_ef (ef_box rfl rfl) ?_
  intro b1
  refine s_as rfl ?_
  refine swl_sub _ (sc0 1 rfl .nil) ?_
  refine swl_nn ?_
  refine swp_sr ?_
  first | refine s_pu (pu_fieldAddr0 rfl) ?_ | refine s_pu (pu_fieldAddr rfl) ?_
  refine s_rd (rd_load rfl rfl) ?_
  refine s_pu (pu_strln rfl) ?_
  refine s_pu (pu_add_as ((f.2.length + 9 : Nat) : Int) rfl rfl om0 om0 om0) ?_
  refine s_as rfl ?_
  refine swl_sub _ (sc0 2 rfl .nil) ?_
  refine swl_nn ?_
  refine swp_ret ?_
  exact done_ret [] (.tmp rfl .nil) ⟨rfl, rfl⟩ sp0
set_option maxHeartbeats 2000000 in
theorem fenc_spec (f : Fm) (h1 : 0 < f.1) (h2 : f.1 < 256) (hb : f.2.length ≤ 1048576) : Spec Tryz.prog 97 [fmV f] [] (fun r L => r = .tuple #[.string (str (encFm f)), .int .i64 0] ∧ L = []) := by
  have hh := headF_len f
  refine Spec.of 43 Tryz.func97 rfl rfl rfl ?_
  refine swp_sr ?_
  refine s_ef (ef_box rfl rfl) ?_
  intro b1
  refine s_as rfl ?_
  refine s_as rfl ?_
  refine swl_sub _ (sc0 1 rfl .nil) ?_
  refine swl_nn ?_
  refine swp_seq ?_
  refine swp_block ?_
  refine swp_sr ?_
  first | refine s_pu (pu_fieldAddr0 rfl) ?_ | refine s_pu (pu_fieldAddr rfl) ?_
  refine s_rd (rd_load rfl rfl) ?_
  refine s_pu (pu_lss rfl rfl) ?_
  refine s_mv rfl ?_
  refine s_split 9 rfl (fun h9 => by exfalso; have := of_decide_eq_true h9; omega) (fun h9 => ?_)
  refine s_on rfl rfl ?_
  first | refine s_pu (pu_fieldAddr0 rfl) ?_ | refine s_pu (pu_fieldAddr rfl) ?_
  refine s_on rfl rfl ?_
  refine s_rd (rd_load rfl rfl) ?_
  refine s_on rfl rfl ?_
  refine s_pu (pu_gtr rfl rfl) ?_
  first | refine s_pu (pu_pick_t rfl rfl) ?_ | refine s_pu (pu_pick_f rfl rfl) ?_
  refine s_as rfl ?_
  refine swl_sub _ (sc0 1 rfl (sc0 5 rfl .nil)) ?_
  refine swl_nn ?_
  refine swp_cond (b := _) rfl (fun h5 => by exfalso; have := of_decide_eq_true h5; omega) (fun h5 => ?_)
  refine swp_sr ?_
  first | refine s_pu (pu_fieldAddr0 rfl) ?_ | refine s_pu (pu_fieldAddr rfl) ?_
  refine s_rd (rd_load rfl rfl) ?_
  refine s_pu (pu_strln rfl) ?_
  refine s_pu (pu_gtr rfl rfl) ?_
  refine s_as rfl ?_
  refine swl_sub _ (sc0 1 rfl (sc0 14 rfl .nil)) ?_
  refine swl_nn ?_
  refine swp_cond (b := _) rfl (fun h14 => by exfalso; have := of_decide_eq_true h14; omega) (fun h14 => ?_)
  refine swp_skip ?_
  refine block_n ?_
  refine then_n ?_
  refine swp_sr ?_
  refine s_ef (ef_fn wNew_spec rfl rfl sp0) ?_
  rintro v19 L1 ⟨p, rfl, rfl⟩
  refine swl_app ?_
  refine s_as rfl ?_
  refine swl_sub _ (sc0 1 rfl (sc0 4 rfl .nil)) ?_
  refine swl_nn ?_
  refine swp_sr ?_
  refine s_mv rfl ?_
  first | refine s_pu (pu_fieldAddr0 rfl) ?_ | refine s_pu (pu_fieldAddr rfl) ?_
  refine s_rd (rd_load rfl rfl) ?_
  refine s_pu (pu_conv_as rfl (wrap_lt8 h2)) ?_
  refine s_ef (ef_fn (wU8_spec p f.1 [] h2 (by decide)) rfl rfl sp0) ?_
  rintro v24 L1 ⟨rfl, rfl⟩
  rw [List.nil_append]
  refine swl_app ?_
  refine swl_sub _ (sc0 1 rfl (sc0 4 rfl .nil)) ?_
  refine swl_nn ?_
  refine swp_sr ?_
  refine s_mv rfl ?_
  first | refine s_pu (pu_fieldAddr0 rfl) ?_ | refine s_pu (pu_fieldAddr rfl) ?_
  refine s_rd (rd_load rfl rfl) ?_
  refine s_pu (pu_strln rfl) ?_
  refine s_pu (pu_conv_as rfl (wrap_lt32 om0)) ?_
  refine s_ef (ef_fn (wU32_spec p f.2.length (numB 1 f.1) om0 (by rw [numB_len]; decide)) rfl rfl sp0) ?_
  rintro v30 L1 ⟨rfl, rfl⟩
  refine swl_app ?_
  refine swl_sub _ (sc0 1 rfl (sc0 4 rfl .nil)) ?_
  refine swl_nn ?_
  refine swp_sr ?_
  refine s_mv rfl ?_
  first | refine s_pu (pu_fieldAddr0 rfl) ?_ | refine s_pu (pu_fieldAddr rfl) ?_
  refine s_rd (rd_load rfl rfl) ?_
  refine s_ef (ef_fn (wRaw_spec p (numB 1 f.1 ++ numB 4 f.2.length) f.2 (by rw [List.length_append, numB_len, numB_len]; decide) om0) rfl rfl sp0) ?_
  rintro v34 L1 ⟨rfl, rfl⟩
  refine swl_app ?_
  refine swl_sub _ (sc0 4 rfl .nil) ?_
  refine swl_nn ?_
  refine swp_seq ?_
  rw [show numB 1 f.1 ++ numB 4 f.2.length ++ f.2 = headF f from rfl]
  refine swp_region ?_
  refine s_mv rfl ?_
  refine s_mv rfl ?_
  refine s_ef (ef_fn (wBytes_spec p (headF f) (fun e => by rw [e] at hh; simp at hh)) rfl rfl sp0) ?_
  rintro v37 L1 ⟨rfl, rfl⟩
  refine swl_app ?_
  refine s_ef (ef_bldS (qs := [(0, _)]) rfl rfl rfl) ?_
  intro b38
  refine s_ef (ef_fn (sum_spec b38 1 (str (headF f)) (by rw [str_len]; omega)) rfl rfl sp0) ?_
  rintro v39 L1 ⟨rfl, rfl⟩
  refine swl_app ?_
  refine s_ef (ef_fn (wU32_spec p (sumN (headF f)) (headF f) (sumN_lt _) om0) rfl rfl sp0) ?_
  rintro v40 L1 ⟨rfl, rfl⟩
  refine swl_app ?_
  refine swl_sub _ (sc0 4 rfl .nil) ?_
  refine swl_nn ?_
  refine swp_seq ?_
  rw [show headF f ++ numB 4 (sumN (headF f)) = encFm f from rfl]
  refine swp_region ?_
  refine s_mv rfl ?_
  refine s_ef (ef_fn (wBytes_spec p (encFm f) (fun e => by have := encFm_len f; rw [e] at this; simp at this)) rfl rfl sp0) ?_
  rintro v42 L1 ⟨rfl, rfl⟩
  refine swl_app ?_
  refine s_as rfl ?_
  refine s_as rfl ?_
  refine swl_sub _ (sc0 2 rfl (sc0 3 rfl .nil)) ?_
  refine swl_nn ?_
  refine swp_ret ?_
  exact done_ret [] (.tmp rfl (.tmp rfl .nil)) ⟨rfl, rfl⟩ sp0
set_option maxHeartbeats 2000000 in
theorem rfenc_spec (f : Fm) (h1 : 0 < f.1) (h2 : f.1 < 256) (hb : f.2.length ≤ 1048576) : Spec Tryz.prog 106 [fmV f] [] (fun r L => r = .tuple #[.string (str (encFm f)), .int .i64 0] ∧ L = []) := by
  have hh := headF_len f
  have hsl := sumN_lt (headF f)
  refine Spec.of 37 Tryz.func106 rfl rfl rfl ?_
  refine swp_sr ?_
  refine s_ef (ef_box rfl rfl) ?_
  intro b1
  refine s_as rfl ?_
  refine s_as rfl ?_
  refine swl_sub _ (sc0 1 rfl .nil) ?_
  refine swl_nn ?_
  refine swp_seq ?_
  refine swp_sr ?_
  first | refine s_pu (pu_fieldAddr0 rfl) ?_ | refine s_pu (pu_fieldAddr rfl) ?_
  refine s_rd (rd_load rfl rfl) ?_
  refine s_pu (pu_lss rfl rfl) ?_
  refine s_mv rfl ?_
  refine s_split 8 rfl (fun h8 => by exfalso; have := of_decide_eq_true h8; omega) (fun h8 => ?_)
  refine s_on rfl rfl ?_
  first | refine s_pu (pu_fieldAddr0 rfl) ?_ | refine s_pu (pu_fieldAddr rfl) ?_
  refine s_on rfl rfl ?_
  refine s_rd (rd_load rfl rfl) ?_
  refine s_on rfl rfl ?_
  refine s_pu (pu_gtr rfl rfl) ?_
  first | refine s_pu (pu_pick_t rfl rfl) ?_ | refine s_pu (pu_pick_f rfl rfl) ?_
  refine swl_sub _ (sc0 1 rfl (sc0 12 rfl .nil)) ?_
  refine swl_nn ?_
  refine swp_cond (b := _) rfl (fun h12 => by exfalso; have := of_decide_eq_true h12; omega) (fun h12 => ?_)
  refine swp_skip ?_
  refine then_n ?_
  refine swp_seq ?_
  refine swp_sr ?_
  first | refine s_pu (pu_fieldAddr0 rfl) ?_ | refine s_pu (pu_fieldAddr rfl) ?_
  refine s_rd (rd_load rfl rfl) ?_
  refine s_pu (pu_strln rfl) ?_
  refine s_pu (pu_gtr rfl rfl) ?_
  refine swl_sub _ (sc0 1 rfl (sc0 16 rfl .nil)) ?_
  refine swl_nn ?_
  refine swp_cond (b := _) rfl (fun h16 => by exfalso; have := of_decide_eq_true h16; omega) (fun h16 => ?_)
  refine swp_skip ?_
  refine then_n ?_
  refine swp_seq ?_
  refine swp_draw [1, 5, 11] _ [] (by simp only [List.append_nil]; exact Ent.refl _) kr0 ?_
  first | refine d_pu 0 rfl (pu_fieldAddr0 rfl) kr0 kr0 kr0 ?_ | refine d_pu 0 rfl (pu_fieldAddr rfl) kr0 kr0 kr0 ?_
  refine d_rd 1 rfl (rd_load rfl rfl) rfl kr0 kr0 kr0 ?_
  refine d_pu 2 rfl (pu_conv_u64 rfl om0 om0) kr0 kr0 kr0 ?_
  first | refine d_pu 4 rfl (pu_fieldAddr0 rfl) kr0 kr0 kr0 ?_ | refine d_pu 4 rfl (pu_fieldAddr rfl) kr0 kr0 kr0 ?_
  refine d_rd 5 rfl (rd_load rfl rfl) rfl kr0 kr0 kr0 ?_
  refine d_pu 6 rfl (pu_strln rfl) kr0 kr0 kr0 ?_
  refine d_pu 7 rfl (pu_conv_u64 rfl om0 om0) kr0 kr0 kr0 ?_
  first | refine d_pu 10 rfl (pu_fieldAddr0 rfl) kr0 kr0 kr0 ?_ | refine d_pu 10 rfl (pu_fieldAddr rfl) kr0 kr0 kr0 ?_
  refine d_rd 11 rfl (rd_load rfl rfl) rfl kr0 kr0 kr0 ?_
  refine d_eft 3 rfl kr0 (ef_fn (rNumber_spec f.1 1 (by decide) (by decide) om0) rfl rfl sp0) ?_
  rintro v20 L1 ⟨rfl, rfl⟩
  refine ⟨_, ent_appC (Split.ent sp0), ?_⟩
  refine d_eft 8 rfl kr0 (ef_fn (rNumber_spec f.2.length 4 (by decide) (by decide) om0) rfl rfl sp0) ?_
  rintro v25 L1 ⟨rfl, rfl⟩
  refine ⟨_, ent_appC (Split.ent sp0), ?_⟩
  refine d_pu 9 rfl (pu_strcat rfl rfl (by rw [numB_len, numB_len]; omega)) kr0 kr0 kr0 ?_
  refine d_pu 12 rfl (pu_strcat rfl rfl (by rw [List.length_append, numB_len, numB_len]; omega)) kr0 kr0 kr0 ?_
  refine d_pu 13 rfl (pu_assign rfl) kr0 kr0 kr0 ?_
  refine d_sub _ (sc0 4 rfl .nil) ?_
  first | refine d_nilt kr0 ?_ | refine d_nilf kr0 ?_
  refine then_n ?_
  refine swp_seq ?_
  rw [show numB 1 f.1 ++ numB 4 f.2.length ++ f.2 = headF f from rfl]
  refine swp_region ?_
  refine s_mv rfl ?_
  refine s_mv rfl ?_
  refine s_ef (ef_bldS (qs := [(0, _)]) rfl rfl rfl) ?_
  intro b32
  refine s_ef (ef_fn (rsum_spec b32 1 (str (headF f)) (by rw [str_len]; omega)) rfl rfl sp0) ?_
  rintro v33 L1 ⟨rfl, rfl⟩
  refine swl_app ?_
  refine s_pu (pu_conv_u64 (n := (sumN (headF f) : Nat)) rfl om0 om0) ?_
  refine s_ef (ef_fn (rNumber_spec (sumN (headF f)) 4 (by decide) (by decide) om0) rfl rfl sp0) ?_
  rintro v35 L1 ⟨rfl, rfl⟩
  refine swl_app ?_
  refine s_pu (pu_strcat rfl rfl (by rw [numB_len]; omega)) ?_
  refine s_as rfl ?_
  refine s_as rfl ?_
  refine swl_sub _ (sc0 2 rfl (sc0 3 rfl .nil)) ?_
  refine swl_nn ?_
  refine swp_ret ?_
  exact done_ret [] (.tmp rfl (.tmp rfl .nil)) ⟨rfl, rfl⟩ sp0
/-- what a decoder of frames answers -/
def DecF (s : List UInt8) (fv : Value) (n : Int) (e : Int) : Prop :=
  (e = 0 ∧ ∃ f k, decF s = some (f, k) ∧ fv = fmV f ∧ n = (k : Nat)) ∨ (e ≠ 0 ∧ decF s = none ∧ fv = fmV (0, []) ∧ n = 0)
set_option maxHeartbeats 4000000 in
theorem fdec_spec (s : List UInt8) (hs : s.length ≤ 1073741824) : Spec Tryz.prog 120 [.string (str s)] [] (fun v L => ∃ fv n e, v = .tuple #[fv, .int .i64 n, .int .i64 e] ∧ L = [] ∧ DecF s fv n e) := by
  refine Spec.of 70 Tryz.func120 rfl rfl rfl ?_
  refine swp_sr ?_
  refine s_ef (ef_alloc) ?_
  intro b2
  refine s_as rfl ?_
  refine s_as rfl ?_
  refine swl_sub _ (sc0 0 rfl (sc0 2 rfl .nil)) ?_
  refine swl_nn ?_
  refine swp_sr ?_
  refine s_mv rfl ?_
  refine s_ef (ef_fn (newR_spec s) rfl rfl sp0) ?_
  rintro v13 L1 ⟨p, rfl, rfl⟩
  refine swl_app ?_
  refine s_as rfl ?_
  refine swl_sub _ (sc0 0 rfl (sc0 2 rfl (sc0 5 rfl .nil))) ?_
  refine swl_nn ?_
  refine swp_sr ?_
  refine s_mv rfl ?_
  refine s_ef (ef_fn (rdU8_spec p s (0, 0) hs (Nat.zero_le _)) rfl rfl sp0) ?_
  rintro v16 L1 ⟨rfl, rfl⟩
  refine swl_app ?_
  refine s_mv rfl ?_
  first | refine s_pu (pu_extractL rfl) ?_ | refine s_pu (pu_extract rfl rfl) ?_
  first | refine s_pu (pu_extractL rfl) ?_ | refine s_pu (pu_extract rfl rfl) ?_
  refine s_as rfl ?_
  refine s_as rfl ?_
  refine swl_sub _ (sc0 0 rfl (sc0 2 rfl (sc0 5 rfl (sc0 6 rfl (sc0 7 rfl .nil))))) ?_
  refine swl_nn ?_
  refine swp_seq ?_
  refine swp_sr ?_
  refine s_mv rfl ?_
  refine s_pu (pu_eql rfl rfl) ?_
  refine s_mv rfl ?_
  refine s_split 21 rfl (fun h21 => ?_) (fun h21 => ?_)
  · skip   -- 21 T
    have hA : 0 + 1 ≤ s.length := raw_e0 (of_decide_eq_true h21)
    rw [(rawR_ok hA).1, (rawR_ok hA).2]
    have hk := valB_lt1 (l := (s.drop 0).take 1) (by rw [List.length_take]; exact Nat.min_le_left _ _)
    refine s_on rfl rfl ?_
    refine s_mv rfl ?_
    refine s_on rfl rfl ?_
    refine s_pu (pu_eql rfl rfl) ?_
    first | refine s_pu (pu_pick_t rfl rfl) ?_ | refine s_pu (pu_pick_f rfl rfl) ?_
    refine swl_sub _ (sc0 0 rfl (sc0 2 rfl (sc0 5 rfl (sc0 6 rfl (sc0 24 rfl .nil))))) ?_
    refine swl_nn ?_
    refine swp_cond (b := _) rfl (fun h24 => ?_) (fun h24 => ?_)
    · skip   -- 24 T
      refine swp_sr ?_
      refine s_pu (pu_bld (qs := []) rfl) ?_
      refine s_ef0 (ef_storeA rfl rfl rfl rfl) ?_
      refine s_as rfl ?_
      refine s_as rfl ?_
      refine swl_sub _ (sc0 2 rfl (sc0 3 rfl (sc0 4 rfl .nil))) ?_
      refine swl_nn ?_
      refine swp_ret ?_
      refine then_r ?_
      have h24' : valB (s.take 1) = 0 := by
        have := of_decide_eq_true h24
        exact Int.ofNat_inj.1 this
      exact done_ret [] (.cell rfl (ld_whole rfl) (.tmp rfl (.tmp rfl .nil))) ⟨fmV (0, []), 0, 3, rfl, rfl, .inr ⟨by decide, decF_kind h24', rfl, rfl⟩⟩ sp0
    · skip   -- 24 F
      have h24' : valB (s.take 1) ≠ 0 := fun e => by
        have := of_decide_eq_false h24
        exact this (congrArg Int.ofNat e)
      refine swp_skip ?_
      refine then_n ?_
      refine swp_sr ?_
      refine s_mv rfl ?_
      refine s_ef (ef_fn (rdU32_spec p s (0 + 1, 0) hs hA) rfl rfl sp0) ?_
      rintro v28 L1 ⟨rfl, rfl⟩
      refine swl_app ?_
      refine s_mv rfl ?_
      first | refine s_pu (pu_extractL rfl) ?_ | refine s_pu (pu_extract rfl rfl) ?_
      first | refine s_pu (pu_extractL rfl) ?_ | refine s_pu (pu_extract rfl rfl) ?_
      refine s_as rfl ?_
      refine s_as rfl ?_
      refine swl_sub _ (sc0 0 rfl (sc0 2 rfl (sc0 5 rfl (sc0 6 rfl (sc0 7 rfl (sc0 8 rfl .nil)))))) ?_
      refine swl_nn ?_
      refine swp_seq ?_
      refine swp_sr ?_
      refine s_mv rfl ?_
      refine s_pu (pu_neq rfl rfl) ?_
      refine swl_sub _ (sc0 0 rfl (sc0 2 rfl (sc0 5 rfl (sc0 6 rfl (sc0 7 rfl (sc0 8 rfl (sc0 32 rfl .nil))))))) ?_
      refine swl_nn ?_
      refine swp_cond (b := _) rfl (fun h32 => ?_) (fun h32 => ?_)
      · skip   -- 32 T
        refine swp_sr ?_
        refine s_pu (pu_bld (qs := []) rfl) ?_
        refine s_mv rfl ?_
        refine s_ef0 (ef_storeA rfl rfl rfl rfl) ?_
        refine s_as rfl ?_
        refine s_as rfl ?_
        refine swl_sub _ (sc0 2 rfl (sc0 3 rfl (sc0 4 rfl .nil))) ?_
        refine swl_nn ?_
        refine swp_ret ?_
        refine then_r ?_
        have h32' : (rawR s 4 (0 + 1, 0)).2 ≠ 0 := by simpa using h32
        exact done_ret [] (.cell rfl (ld_whole rfl) (.tmp rfl (.tmp rfl .nil))) ⟨fmV (0, []), 0, _, rfl, rfl, .inr ⟨h32', decF_short (by have := raw_e1 h32'; omega), rfl, rfl⟩⟩ sp0
      · skip   -- 32 F
        have hB : 0 + 1 + 4 ≤ s.length := raw_e0 (by simpa using h32)
        rw [(rawR_ok hB).1, (rawR_ok hB).2]
        have hn := valB_lt4 (l := (s.drop (0 + 1)).take 4) (by rw [List.length_take]; exact Nat.min_le_left _ _)
        generalize hN : valB ((s.drop (0 + 1)).take 4) = n at *
        refine swp_skip ?_
        refine then_n ?_
        refine swp_seq ?_
        refine swp_sr ?_
        refine s_mv rfl ?_
        refine s_pu (pu_gtr rfl rfl) ?_
        refine swl_sub _ (sc0 0 rfl (sc0 2 rfl (sc0 5 rfl (sc0 6 rfl (sc0 8 rfl (sc0 36 rfl .nil)))))) ?_
        refine swl_nn ?_
        refine swp_cond (b := _) rfl (fun h36 => ?_) (fun h36 => ?_)
        · skip   -- 36 T
          refine swp_sr ?_
          refine s_pu (pu_bld (qs := []) rfl) ?_
          refine s_ef0 (ef_storeA rfl rfl rfl rfl) ?_
          refine s_as rfl ?_
          refine s_as rfl ?_
          refine swl_sub _ (sc0 2 rfl (sc0 3 rfl (sc0 4 rfl .nil))) ?_
          refine swl_nn ?_
          refine swp_ret ?_
          refine then_r ?_
          have h36' : 1048576 < valB ((s.drop (0 + 1)).take 4) := by rw [hN]; have := of_decide_eq_true h36; omega
          exact done_ret [] (.cell rfl (ld_whole rfl) (.tmp rfl (.tmp rfl .nil))) ⟨fmV (0, []), 0, 3, rfl, rfl, .inr ⟨by decide, decF_big h36', rfl, rfl⟩⟩ sp0
        · skip   -- 36 F
          have h36' : n ≤ 1048576 := by have := of_decide_eq_false h36; omega
          refine swp_skip ?_
          refine then_n ?_
          refine swp_sr ?_
          refine s_mv rfl ?_
          refine s_mv rfl ?_
          refine s_pu (pu_conv_i64 rfl om0 om0) ?_
          refine s_ef (ef_fn (rdRaw_spec p s (0 + 1 + 4, 0) n hs hB om0) rfl rfl sp0) ?_
          rintro v42 L1 ⟨rfl, rfl⟩
          refine swl_app ?_
          refine s_mv rfl ?_
          first | refine s_pu (pu_extractL rfl) ?_ | refine s_pu (pu_extract rfl rfl) ?_
          first | refine s_pu (pu_extractL rfl) ?_ | refine s_pu (pu_extract rfl rfl) ?_
          refine s_as rfl ?_
          refine s_as rfl ?_
          refine swl_sub _ (sc0 0 rfl (sc0 2 rfl (sc0 5 rfl (sc0 6 rfl (sc0 9 rfl .nil))))) ?_
          refine swl_nn ?_
          refine swp_sr ?_
          refine s_mv rfl ?_
          refine s_ef (ef_fn (rdU32_spec p s (rawR s n (0 + 1 + 4, 0)) hs (rawR_le hB)) rfl rfl sp0) ?_
          rintro v47 L1 ⟨rfl, rfl⟩
          refine swl_app ?_
          refine s_mv rfl ?_
          first | refine s_pu (pu_extractL rfl) ?_ | refine s_pu (pu_extract rfl rfl) ?_
          first | refine s_pu (pu_extractL rfl) ?_ | refine s_pu (pu_extract rfl rfl) ?_
          refine s_as rfl ?_
          refine s_as rfl ?_
          refine swl_sub _ (sc0 0 rfl (sc0 2 rfl (sc0 5 rfl (sc0 6 rfl (sc0 7 rfl (sc0 9 rfl (sc0 11 rfl .nil))))))) ?_
          refine swl_nn ?_
          refine swp_seq ?_
          refine swp_sr ?_
          refine s_mv rfl ?_
          refine s_pu (pu_neq rfl rfl) ?_
          refine swl_sub _ (sc0 0 rfl (sc0 2 rfl (sc0 5 rfl (sc0 6 rfl (sc0 7 rfl (sc0 9 rfl (sc0 11 rfl (sc0 51 rfl .nil)))))))) ?_
          refine swl_nn ?_
          refine swp_cond (b := _) rfl (fun h51 => ?_) (fun h51 => ?_)
          · skip   -- 51 T
            refine swp_sr ?_
            refine s_pu (pu_bld (qs := []) rfl) ?_
            refine s_mv rfl ?_
            refine s_ef0 (ef_storeA rfl rfl rfl rfl) ?_
            refine s_as rfl ?_
            refine s_as rfl ?_
            refine swl_sub _ (sc0 2 rfl (sc0 3 rfl (sc0 4 rfl .nil))) ?_
            refine swl_nn ?_
            refine swp_ret ?_
            refine then_r ?_
            have h51' : (rawR s 4 (rawR s n (0 + 1 + 4, 0))).2 ≠ 0 := by simpa using h51
            have hC : s.length < n + 9 := by
              refine Nat.lt_of_not_le fun k => ?_
              rw [(rawR_ok (s := s) (n := n) (pos := 0 + 1 + 4) om0).1, (rawR_ok (s := s) (n := 4) (pos := 0 + 1 + 4 + n) om0).1] at h51'
              exact h51' rfl
            exact done_ret [] (.cell rfl (ld_whole rfl) (.tmp rfl (.tmp rfl .nil))) ⟨fmV (0, []), 0, _, rfl, rfl, .inr ⟨h51', decF_cut hN hC, rfl, rfl⟩⟩ sp0
          · skip   -- 51 F
            have h51' : (rawR s 4 (rawR s n (0 + 1 + 4, 0))).2 = 0 := by simpa using h51
            have hC : 0 + 1 + 4 + n ≤ s.length := by
              refine Nat.le_of_not_lt fun k => ?_
              rw [(rawR_no (s := s) (n := n) (pos := 0 + 1 + 4) k).1, (rawR_err (s := s) (r := (0 + 1 + 4, 2)) (by show ¬ (2 : Int) = 0; decide)).1] at h51'
              exact absurd h51' (by show ¬ (2 : Int) = 0; decide)
            rw [(rawR_ok hC).1, (rawR_ok hC).2] at *
            have hD := raw_e0 h51'
            rw [(rawR_ok hD).1, (rawR_ok hD).2]
            have hd := decF_sum hN h24' h36' om0
            have hb4 := valB_lt4 (l := (s.drop (0 + 1 + 4 + n)).take 4) (by rw [List.length_take]; exact Nat.min_le_left _ _)
            have hslt := sumN_lt (s.take (n + 5))
            refine swp_skip ?_
            refine then_n ?_
            refine swp_seq ?_
            refine swp_sr ?_
            refine s_mv rfl ?_
            refine s_mv rfl ?_
            refine s_mv rfl ?_
            refine s_ef (ef_fn (rdAt_spec p s (0 + 1 + 4 + n + 4, 0)) rfl rfl sp0) ?_
            rintro v57 L1 ⟨rfl, rfl⟩
            refine swl_app ?_
            refine s_pu (pu_sub_as ((n + 5 : Nat) : Int) rfl rfl om0 om0 om0) ?_
            refine s_pu (pu_strhi (n + 5) rfl rfl rfl om0) ?_
            refine s_ef (ef_bldS (qs := [(0, _)]) rfl rfl rfl) ?_
            intro b60
            refine s_ef (ef_fn (sum_spec b60 1 (str (s.take (n + 5))) (by rw [str_len, List.length_take]; omega)) rfl rfl sp0) ?_
            rintro v61 L1 ⟨rfl, rfl⟩
            refine swl_app ?_
            refine s_pu (pu_neq rfl rfl) ?_
            refine swl_sub _ (sc0 2 rfl (sc0 5 rfl (sc0 6 rfl (sc0 9 rfl (sc0 62 rfl .nil))))) ?_
            refine swl_nn ?_
            refine swp_cond (b := _) rfl (fun h62 => ?_) (fun h62 => ?_)
            · skip   -- 62 T
              refine swp_sr ?_
              refine s_pu (pu_bld (qs := []) rfl) ?_
              refine s_ef0 (ef_storeA rfl rfl rfl rfl) ?_
              refine s_as rfl ?_
              refine s_as rfl ?_
              refine swl_sub _ (sc0 2 rfl (sc0 3 rfl (sc0 4 rfl .nil))) ?_
              refine swl_nn ?_
              refine swp_ret ?_
              refine then_r ?_
              have h62' : valB ((s.drop (n + 5)).take 4) ≠ sumN (s.take (n + 5)) := fun e => by
                rw [show 0 + 1 + 4 + n = n + 5 by omega, e] at h62
                exact absurd h62 (by show ¬ (!decide (((sumN (s.take (n + 5)) : Nat) : Int) = ((sumN (s.take (n + 5)) : Nat) : Int))) = true; simp)
              rw [if_pos h62'] at hd
              exact done_ret [] (.cell rfl (ld_whole rfl) (.tmp rfl (.tmp rfl .nil))) ⟨fmV (0, []), 0, 4, rfl, rfl, .inr ⟨by decide, hd, rfl, rfl⟩⟩ sp0
            · skip   -- 62 F
              have h62' : valB ((s.drop (n + 5)).take 4) = sumN (s.take (n + 5)) := by
                rw [show 0 + 1 + 4 + n = n + 5 by omega] at h62
                have : ((valB ((s.drop (n + 5)).take 4) : Nat) : Int) = ((sumN (s.take (n + 5)) : Nat) : Int) := by simpa [sumN] using h62
                omega
              rw [if_neg (not_not_intro h62')] at hd
              refine swp_skip ?_
              refine then_n ?_
              refine swp_sr ?_
              refine s_mv rfl ?_
              refine s_pu (pu_conv_i64 rfl om0 om0) ?_
              refine s_mv rfl ?_
              refine s_pu (pu_bld (qs := [(0, _), (1, _)]) rfl) ?_
              refine s_mv rfl ?_
              refine s_ef (ef_fn (rdAt_spec p s (0 + 1 + 4 + n + 4, 0)) rfl rfl sp0) ?_
              rintro v69 L1 ⟨rfl, rfl⟩
              refine swl_app ?_
              refine s_ef0 (ef_storeA rfl rfl rfl rfl) ?_
              refine s_as rfl ?_
              refine s_as rfl ?_
              refine swl_sub _ (sc0 2 rfl (sc0 3 rfl (sc0 4 rfl .nil))) ?_
              refine swl_nn ?_
              refine swp_ret ?_
              exact done_ret [] (.cell rfl (ld_whole rfl) (.tmp rfl (.tmp rfl .nil))) ⟨fmV (valB (s.take 1), (s.drop 5).take n), _, 0, rfl, rfl, .inl ⟨rfl, _, _, hd, rfl, by show ((0 + 1 + 4 + n + 4 : Nat) : Int) = ((n + 9 : Nat) : Int); omega⟩⟩ sp0
  · skip   -- 21 F
    have hZ := raw_e1 (of_decide_eq_false h21)
    rw [(rawR_no hZ).1, (rawR_no hZ).2]
    have hr2 : ((0, 2) : RS).2 ≠ 0 := by show ¬ (2 : Int) = 0; decide
    refine s_off rfl rfl rfl ?_
    refine s_off rfl rfl rfl ?_
    first | refine s_pu (pu_pick_t rfl rfl) ?_ | refine s_pu (pu_pick_f rfl rfl) ?_
    refine swl_sub _ (sc0 0 rfl (sc0 2 rfl (sc0 5 rfl (sc0 6 rfl (sc0 24 rfl .nil))))) ?_
    refine swl_nn ?_
    refine swp_cond (b := _) rfl (fun h24 => by cases h24) (fun h24 => ?_)
    refine swp_skip ?_
    refine then_n ?_
    refine swp_sr ?_
    refine s_mv rfl ?_
    refine s_ef (ef_fn (rdU32_spec p s (0, 2) hs (Nat.zero_le _)) rfl rfl sp0) ?_
    rintro v28 L1 ⟨rfl, rfl⟩
    rw [(rawR_err hr2).1, (rawR_err hr2).2]
    refine swl_app ?_
    refine s_mv rfl ?_
    first | refine s_pu (pu_extractL rfl) ?_ | refine s_pu (pu_extract rfl rfl) ?_
    first | refine s_pu (pu_extractL rfl) ?_ | refine s_pu (pu_extract rfl rfl) ?_
    refine s_as rfl ?_
    refine s_as rfl ?_
    refine swl_sub _ (sc0 0 rfl (sc0 2 rfl (sc0 5 rfl (sc0 6 rfl (sc0 7 rfl (sc0 8 rfl .nil)))))) ?_
    refine swl_nn ?_
    refine swp_seq ?_
    refine swp_sr ?_
    refine s_mv rfl ?_
    refine s_pu (pu_neq rfl rfl) ?_
    refine swl_sub _ (sc0 0 rfl (sc0 2 rfl (sc0 5 rfl (sc0 6 rfl (sc0 7 rfl (sc0 8 rfl (sc0 32 rfl .nil))))))) ?_
    refine swl_nn ?_
    refine swp_cond (b := _) rfl (fun h32 => ?_) (fun h32 => by cases h32)
    refine swp_sr ?_
    refine s_pu (pu_bld (qs := []) rfl) ?_
    refine s_mv rfl ?_
    refine s_ef0 (ef_storeA rfl rfl rfl rfl) ?_
    refine s_as rfl ?_
    refine s_as rfl ?_
    refine swl_sub _ (sc0 2 rfl (sc0 3 rfl (sc0 4 rfl .nil))) ?_
    refine swl_nn ?_
    refine swp_ret ?_
    refine then_r ?_
    exact done_ret [] (.cell rfl (ld_whole rfl) (.tmp rfl (.tmp rfl .nil))) ⟨fmV (0, []), 0, 2, rfl, rfl, .inr ⟨by decide, decF_short om0, rfl, rfl⟩⟩ sp0
end SX
namespace SX
open Go Go.Proofs
end SX
namespace SX
open Go Go.Proofs
def recG (k : Nat) (r : Rc) : List Assn := [blk r.a 118 [.int .i64 (k : Nat), r.v, .int .i64 (r.f.safe : Nat)], own 5 1 r.v r.f.bytes.length (bcs r.f.bytes)]
/-- a record whose file has more safe bytes than bytes is none: nothing lies in memory -/
def recA (k : Nat) (r : Rc) : List Assn := if r.f.safe ≤ r.f.bytes.length then recG k r else []
theorem recA_ok {k : Nat} {r : Rc} (h : r.f.safe ≤ r.f.bytes.length) : recA k r = recG k r := if_pos h
theorem real_of {d : Dk} (hd : d.Ok) {k : Nat} {r : Rc} (hf : r.f = d.fl k) : r.f.safe ≤ r.f.bytes.length := by rw [hf]; exact (Dk.fl_ok hd k).2
def recsL : Nat → List Rc → List Assn
  | _, [] => []
  | k, r :: rs => recA k r ++ recsL (k + 1) rs
theorem recsL_app : ∀ (k : Nat) (a b : List Rc), recsL k (a ++ b) = recsL k a ++ recsL (k + a.length) b
  | k, [], b => by simp [recsL]
  | k, r :: a, b => by
    rw [List.cons_append, recsL, recsL, recsL_app, List.append_assoc, List.length_cons]
    congr 3; omega
def recsA (rs : List Rc) : Assn := star (recsL 0 rs)
def holeA (rs : List Rc) (i : Nat) : Assn := star (recsL 0 (rs.take i) ++ recsL (i + 1) (rs.drop (i + 1)))
theorem recs_eq {rs : List Rc} {i : Nat} {r : Rc} (h : rs[i]? = some r) : recsL 0 rs = recsL 0 (rs.take i) ++ (recA i r ++ recsL (i + 1) (rs.drop (i + 1))) := by
  have hlt := (List.getElem?_eq_some_iff.1 h).1
  have e : rs = rs.take i ++ r :: rs.drop (i + 1) := by
    rw [← (List.getElem?_eq_some_iff.1 h).2, ← List.drop_eq_getElem_cons hlt, List.take_append_drop]
  conv => lhs; rw [e]
  rw [recsL_app, List.length_take, Nat.min_eq_left om0, Nat.zero_add]; rfl
theorem recs_open {rs : List Rc} {i : Nat} {r : Rc} (h : rs[i]? = some r) (hg : r.f.safe ≤ r.f.bytes.length) {L : List Assn} : Ent (recsA rs :: L) (recG i r ++ holeA rs i :: L) := by
  rw [← recA_ok hg]
  refine star_ent.trans ?_
  rw [recs_eq h]
  refine Ent.trans (Ent.perm ?_) (Ent.under (X := recA i r) star_close)
  rw [List.append_assoc, List.append_assoc]
  refine (List.perm_append_comm_assoc _ _ _).trans ?_
  rw [List.append_assoc]
theorem recs_close {rs : List Rc} {i : Nat} {r : Rc} (h : i < rs.length) (hg : r.f.safe ≤ r.f.bytes.length) {L : List Assn} : Ent (recG i r ++ holeA rs i :: L) (recsA (rs.set i r) :: L) := by
  rw [← recA_ok hg]
  have h1 : (rs.set i r)[i]? = some r := List.getElem?_set_self h
  have e : recsL 0 (rs.set i r) = recsL 0 (rs.take i) ++ (recA i r ++ recsL (i + 1) (rs.drop (i + 1))) := by
    rw [recs_eq h1, List.take_set_of_le (Nat.le_refl _), List.drop_set_of_lt om0]
  refine Ent.trans ?_ star_close
  rw [e]
  refine Ent.trans (Ent.under (X := recA i r) star_ent) (Ent.perm ?_)
  simp only [List.append_assoc]
  exact List.perm_append_comm_assoc _ _ _
theorem recs_new {rs : List Rc} {r : Rc} (hg : r.f.safe ≤ r.f.bytes.length) {L : List Assn} : Ent (recG rs.length r ++ recsA rs :: L) (recsA (rs ++ [r]) :: L) := by
  rw [← recA_ok hg]
  refine Ent.trans (Ent.under (X := recA rs.length r) star_ent) ?_
  refine Ent.trans ?_ star_close
  rw [recsL_app, Nat.zero_add]
  show Ent _ ((recsL 0 rs ++ (recA rs.length r ++ [])) ++ L)
  rw [List.append_nil, List.append_assoc]
  exact Ent.perm (List.perm_append_comm_assoc _ _ _)
/-- what lies in memory of a disk -/
structure FX where
  sb : Nat
  fb : Nat
  es : Ents ByteArray
  cs : Nat
  ef : Ents ByteArray
  cf : Nat
  rs : List Rc
  ps : List Pc
  pv : Value
abbrev fsC (q : Int) (n : Nat) (sb fb : Nat) (pv : Value) (fa : Int) (off : Bool) : List Value := [.int .i64 q, .int .i64 (n : Nat), .map (some sb), .map (some fb), pv, .int .i64 fa, .bool off]
def live (d : Dk) (k : Nat) : Prop := (∃ x ∈ d.seen, x.2 = k) ∨ (∃ x ∈ d.safe, x.2 = k) ∨ ∃ c ∈ d.pend, strEq c.come nos = false ∧ c.file = k
structure Rep (d : Dk) (x : FX) : Prop where
  seen : NmRel x.es d.seen x.rs
  safe : NmRel x.ef d.safe x.rs
  bs : Born x.es x.cs
  bf : Born x.ef x.cf
  len : x.rs.length = d.files.length
  fl : ∀ k, live d k → ∃ r, x.rs[k]? = some r ∧ r.f = d.fl k
  ps : x.ps.length = d.pend.length ∧ ∀ (i : Nat) (p : Pc) (c : Cg), x.ps[i]? = some p → d.pend[i]? = some c → PcRel x.rs p c
abbrev fsH (p : Nat) (d : Dk) (x : FX) : Assn := blk p 81 (fsC d.quota x.rs.length x.sb x.fb x.pv d.falls d.off)
def FSA (p : Nat) (d : Dk) : Assn := exA fun x : {x : FX // Rep d x} => [fsH p d x.1, mpe x.1.sb skv x.1.es x.1.cs, mpe x.1.fb skv x.1.ef x.1.cf, own 127 3 x.1.pv x.1.ps.length (x.1.ps.flatMap encP), recsA x.1.rs]
theorem fs_close {p : Nat} {d : Dk} {x : FX} (h : Rep d x) {L : List Assn} : Ent (fsH p d x :: mpe x.sb skv x.es x.cs :: mpe x.fb skv x.ef x.cf :: own 127 3 x.pv x.ps.length (x.ps.flatMap encP) :: recsA x.rs :: L) (FSA p d :: L) :=
  ent_ex (F := fun x : {x : FX // Rep d x} => [fsH p d x.1, mpe x.1.sb skv x.1.es x.1.cs, mpe x.1.fb skv x.1.ef x.1.cf, own 127 3 x.1.pv x.1.ps.length (x.1.ps.flatMap encP), recsA x.1.rs]) ⟨x, h⟩ sp0
theorem FSA.open' {p : Nat} {d : Dk} {f : FuncId} {args : List Value} {L : List Assn} {post : Value → List Assn → Prop}
    (h : ∀ x, Rep d x → Spec Tryz.prog f args (fsH p d x :: mpe x.sb skv x.es x.cs :: mpe x.fb skv x.ef x.cf :: own 127 3 x.pv x.ps.length (x.ps.flatMap encP) :: recsA x.rs :: L) post) : Spec Tryz.prog f args (FSA p d :: L) post := Spec.exA' fun x => h x.1 x.2
abbrev pv (p : Nat) : Value := .pointer (some ⟨p, 0, none⟩)
/-- find -/
def findV (rs : List Rc) (d : Dk) (s : ByteArray) : Value × Int := if d.off = true then (.pointer none, 8) else match findN d.seen s with | none => (.pointer none, 6) | some k => (adr rs k, 0)
theorem find_spec (p : Nat) (d : Dk) (x : FX) (hx : Rep d x) (s : ByteArray) : Spec Tryz.prog 69 [pv p, .string s] [fsH p d x, mpe x.sb skv x.es x.cs] (fun r L => r = .tuple #[(findV x.rs d s).1, .int .i64 (findV x.rs d s).2] ∧ L = [fsH p d x, mpe x.sb skv x.es x.cs]) := by
  have hl := hx.seen.look s
  refine Spec.of 28 Tryz.func69 rfl rfl rfl ?_
  refine swp_sr ?_
  refine s_as rfl ?_
  refine s_as rfl ?_
  refine swl_sub _ (sc0 0 rfl (sc0 1 rfl .nil)) ?_
  refine swl_nn ?_
  refine swp_seq ?_
  refine swp_block ?_
  refine swp_sr ?_
  refine s_mv rfl ?_
  refine s_pu (pu_ptr_eq_nil rfl rfl) ?_
  refine s_as rfl ?_
  refine swl_sub _ (sc0 0 rfl (sc0 1 rfl (sc0 8 rfl .nil))) ?_
  refine swl_nn ?_
  refine swp_cond (b := _) rfl (fun h8 => by cases h8) (fun h8 => ?_)
  refine swp_sr ?_
  refine s_mv rfl ?_
  first | refine s_pu (pu_nilCheck rfl) ?_ | refine s_pu (pu_nilCheck_fn rfl) ?_ | refine s_pu (pu_nilCheck_if rfl) ?_
  first | refine s_pu (pu_fieldAddr0 rfl) ?_ | refine s_pu (pu_fieldAddr rfl) ?_
  refine s_rd (rd_load rfl rfl) ?_
  refine s_as rfl ?_
  refine swl_sub _ (sc0 0 rfl (sc0 1 rfl (sc0 11 rfl .nil))) ?_
  refine swl_nn ?_
  refine swp_cond (b := _) rfl (fun h11 => ?_) (fun h11 => ?_)
  · skip   -- 11 T
    refine swp_sr ?_
    refine s_as rfl ?_
    refine s_as rfl ?_
    refine swl_sub _ (sc0 4 rfl (sc0 5 rfl .nil)) ?_
    refine swl_nn ?_
    refine swp_ret ?_
    refine block_r ?_
    refine then_r ?_
    refine done_ret [fsH p d x, mpe x.sb skv x.es x.cs] (.tmp rfl (.tmp rfl .nil)) ⟨?_, rfl⟩ sp0
    unfold findV; rw [if_pos h11]; rfl
  · skip   -- 11 F
    refine swp_skip ?_
    refine block_n ?_
    refine then_n ?_
    refine swp_sr ?_
    refine s_mv rfl ?_
    first | refine s_pu (pu_nilCheck rfl) ?_ | refine s_pu (pu_nilCheck_fn rfl) ?_ | refine s_pu (pu_nilCheck_if rfl) ?_
    first | refine s_pu (pu_fieldAddr0 rfl) ?_ | refine s_pu (pu_fieldAddr rfl) ?_
    refine s_rd (rd_load rfl rfl) ?_
    refine s_mv rfl ?_
    refine s_rd (rd_mlook2E (kv := skv) s hl rfl rfl) ?_
    refine s_mv rfl ?_
    first | refine s_pu (pu_extractL rfl) ?_ | refine s_pu (pu_extract rfl rfl) ?_
    first | refine s_pu (pu_extractL rfl) ?_ | refine s_pu (pu_extract rfl rfl) ?_
    refine s_as rfl ?_
    refine s_as rfl ?_
    refine swl_sub _ (sc0 6 rfl (sc0 7 rfl .nil)) ?_
    refine swl_nn ?_
    refine swp_seq ?_
    refine swp_sr ?_
    refine s_mv rfl ?_
    refine s_pu (pu_not rfl) ?_
    refine swl_sub _ (sc0 6 rfl (sc0 26 rfl .nil)) ?_
    refine swl_nn ?_
    refine swp_cond (b := _) rfl (fun h26 => ?_) (fun h26 => ?_)
    · skip   -- 26 T
      refine swp_sr ?_
      refine s_as rfl ?_
      refine s_as rfl ?_
      refine swl_sub _ (sc0 4 rfl (sc0 5 rfl .nil)) ?_
      refine swl_nn ?_
      refine swp_ret ?_
      refine then_r ?_
      refine done_ret [fsH p d x, mpe x.sb skv x.es x.cs] (.tmp rfl (.tmp rfl .nil)) ⟨?_, rfl⟩ sp0
      unfold findV
      cases hf : findN d.seen s with
      | none => rw [if_neg (by rw [h11]; decide)]; rfl
      | some k => rw [hf] at h26; cases h26
    · skip   -- 26 F
      refine swp_skip ?_
      refine then_n ?_
      refine swp_sr ?_
      refine s_mv rfl ?_
      refine s_as rfl ?_
      refine s_as rfl ?_
      refine swl_sub _ (sc0 4 rfl (sc0 5 rfl .nil)) ?_
      refine swl_nn ?_
      refine swp_ret ?_
      refine done_ret [fsH p d x, mpe x.sb skv x.es x.cs] (.tmp rfl (.tmp rfl .nil)) ⟨?_, rfl⟩ sp0
      unfold findV
      cases hf : findN d.seen s with
      | none => rw [hf] at h26; cases h26
      | some k => rw [if_neg (by rw [h11]; decide)]; rfl
end SX
namespace SX
open Go Go.Proofs
theorem indexf_spec (v : Value) (xs : List Int) (L0 : List Assn) (fn : FuncId) [Body Tryz.prog fn] (fi ca : List Value) (p : Int → Bool) (hv : Ints Tryz.prog 3 L0 v xs)
    (hf : ∀ x ∈ xs, Spec Tryz.prog fn (fi ++ [.int .i64 x] ++ ca) L0 (fun r L => r = .bool (p x) ∧ L = L0)) : Spec Tryz.prog 129 [v, .func (.func fn) fi.toArray ca.toArray] L0
    (fun r L => (∃ k : Int, r = .int .i64 k ∧ (decide (0 ≤ k) = xs.any p) ∧ -1 ≤ k) ∧ L = L0) := by
  obtain ⟨A, cap, hv1, hv2, hv3⟩ := hv
  subst hv1
  refine Spec.of 19 Tryz.func129 rfl rfl rfl ?_
  refine swp_sr ?_
  refine s_as rfl ?_
  refine swl_sub _ (sc0 0 rfl (sc0 1 rfl .nil)) ?_
  refine swl_nn ?_
  refine swp_seq ?_
  refine swp_sr ?_
  refine s_mv rfl ?_
  refine s_pu (pu_len rfl) ?_
  refine s_mv rfl ?_
  refine swl_sub _ (sc0 0 rfl (sc0 1 rfl (sc0 7 rfl (sc0 8 rfl .nil)))) ?_
  refine swl_nn ?_
  refine swp_block ?_
  refine swp_loop (ι := Nat) (fun k env L => env = [(0, .slice A xs.length cap), (1, .func (.func fn) fi.toArray ca.toArray), (7, .int .i64 (xs.length : Nat)), (8, .int .i64 (k : Nat))] ∧ L = L0 ∧ k ≤ xs.length ∧ ∀ y ∈ xs.take k, p y = false) (fun k => xs.length - k) 0 ⟨rfl, rfl, Nat.zero_le _, fun y hy => by simp at hy⟩ ?_
  rintro k env L ⟨rfl, rfl, hk, hno⟩
  refine swp_sr ?_
  refine s_pu (pu_lss rfl rfl) ?_
  refine swl_sub _ (sc0 0 rfl (sc0 1 rfl (sc0 7 rfl (sc0 8 rfl (sc0 9 rfl .nil))))) ?_
  refine swl_nn ?_
  refine swp_seq ?_
  refine swp_cond (b := _) rfl (fun h9 => ?_) (fun h9 => ?_)
  · skip   -- 9 T
    have h9' : k < xs.length := by have := of_decide_eq_true h9; omega
    obtain ⟨b, off, rfl, hld⟩ := hv3 om0
    obtain ⟨x, hx⟩ : ∃ x, xs[k]? = some x := ⟨_, List.getElem?_eq_getElem h9'⟩
    refine swp_skip ?_
    refine then_n ?_
    refine swp_seq ?_
    refine swp_block ?_
    refine swp_sr ?_
    refine s_mv rfl ?_
    refine s_as rfl ?_
    refine swl_sub _ (sc0 0 rfl (sc0 1 rfl (sc0 5 rfl (sc0 7 rfl (sc0 8 rfl .nil))))) ?_
    refine swl_nn ?_
    refine swp_sr ?_
    refine s_mv rfl ?_
    refine s_mv rfl ?_
    refine s_mv rfl ?_
    refine s_pu (pu_indexAddr (off + k * 1) rfl rfl om0 om0 (by rw [Int.toNat_natCast])) ?_
    refine s_rd (rd_of_ld rfl (by rw [Nat.mul_one]; exact hld k x hx)) ?_
    refine s_ef (ef_clo (R := []) (hf x (List.mem_of_getElem? hx)) rfl rfl (Split.all)) ?_
    rintro v1 L1 ⟨rfl, rfl⟩
    rw [List.append_nil]
    refine swl_sub _ (sc0 0 rfl (sc0 1 rfl (sc0 5 rfl (sc0 7 rfl (sc0 8 rfl (sc0 16 rfl .nil)))))) ?_
    refine swl_nn ?_
    refine swp_cond (b := _) rfl (fun h16 => ?_) (fun h16 => ?_)
    · skip   -- 16 T
      refine swp_sr ?_
      refine s_mv rfl ?_
      refine s_as rfl ?_
      refine swl_sub _ (sc0 4 rfl .nil) ?_
      refine swl_nn ?_
      refine swp_ret ?_
      refine block_r ?_
      refine then_r ?_
      refine then_r ?_
      refine block_r ?_
      refine then_r ?_
      exact done_ret _ (.tmp rfl .nil) ⟨⟨k, rfl, by rw [decide_eq_true om0]; exact (List.any_eq_true.2 ⟨x, List.mem_of_getElem? hx, h16⟩).symm, by omega⟩, rfl⟩ Split.all
    · skip   -- 16 F
      refine swp_skip ?_
      refine block_n ?_
      refine then_n ?_
      refine swp_region ?_
      refine s_pu (pu_add_as ((k + 1 : Nat) : Int) rfl rfl om0 om0 om0) ?_
      refine s_mv rfl ?_
      refine swl_sub _ (sc0 0 rfl (sc0 1 rfl (sc0 7 rfl (sc0 8 rfl .nil)))) ?_
      refine swl_nil ?_
      exact then_n ⟨k + 1, ⟨rfl, rfl, h9', fun y hy => by
        rw [List.take_add_one, hx] at hy
        rcases List.mem_append.1 hy with hy | hy
        · exact hno y hy
        · obtain rfl : y = x := by simpa using hy
          exact h16⟩, by omega⟩
  · skip   -- 9 F
    have h9' := of_decide_eq_false h9
    obtain rfl : k = xs.length := by omega
    refine swp_exit ?_
    refine then_x ?_
    refine then_x ?_
    refine block_hit rfl ?_
    refine then_n ?_
    refine swp_sr ?_
    refine s_as rfl ?_
    refine swl_sub _ (sc0 4 rfl .nil) ?_
    refine swl_nn ?_
    refine swp_ret ?_
    refine done_ret _ (.tmp rfl .nil) ⟨⟨-1, rfl, ?_, by omega⟩, rfl⟩ Split.all
    rw [List.take_length] at hno
    rw [decide_eq_false om0]
    symm
    rw [List.any_eq_false]
    exact fun x hx => by rw [hno x hx]; simp
theorem containsf_spec (v : Value) (xs : List Int) (L0 : List Assn) (fn : FuncId) [Body Tryz.prog fn] (fi ca : List Value) (p : Int → Bool) (hv : Ints Tryz.prog 3 L0 v xs)
    (hf : ∀ x ∈ xs, Spec Tryz.prog fn (fi ++ [.int .i64 x] ++ ca) L0 (fun r L => r = .bool (p x) ∧ L = L0)) : Spec Tryz.prog 101 [v, .func (.func fn) fi.toArray ca.toArray] L0
    (fun r L => r = .bool (xs.any p) ∧ L = L0) := by
  refine Spec.of 9 Tryz.func101 rfl rfl rfl ?_
  refine swp_sr ?_
  refine s_as rfl ?_
  refine swl_sub _ (sc0 0 rfl (sc0 1 rfl .nil)) ?_
  refine swl_nn ?_
  refine swp_sr ?_
  refine s_mv rfl ?_
  refine s_mv rfl ?_
  refine s_ef (ef_fn (R := []) (indexf_spec v xs L0 fn fi ca p hv hf) rfl rfl (Split.all)) ?_
  rintro v1 L1 ⟨⟨k, rfl, hk, hk1⟩, rfl⟩
  rw [List.append_nil]
  refine s_pu (pu_geq rfl rfl) ?_
  refine s_as rfl ?_
  refine swl_sub _ (sc0 4 rfl .nil) ?_
  refine swl_nn ?_
  refine swp_ret ?_
  exact done_ret _ (.tmp rfl .nil) ⟨congrArg Value.bool hk, rfl⟩ Split.all
/-- a function without arguments that answers an error -/
def StepF (v : Value) (pre : List Assn) (post : Int → List Assn → Prop) : Prop :=
  ∃ fn, Body Tryz.prog fn ∧ ∃ fi ca : List Value, v = .func (.func fn) fi.toArray ca.toArray ∧ Spec Tryz.prog fn (fi ++ [] ++ ca) pre (fun r L => ∃ e, r = .int .i64 e ∧ post e L)
def StepsF : List Value → List Assn → (Int → List Assn → Prop) → Prop
  | [], pre, Q => Q 0 pre
  | v :: vs, pre, Q => StepF v pre fun e L => (e = 0 ∧ StepsF vs L Q) ∨ (e ≠ 0 ∧ Q e L)
theorem StepF.one {v : Value} {pre : List Assn} {post : Int → List Assn → Prop} (h : StepF v pre post) : v.oneCell' = true := by
  obtain ⟨fn, _, fi, ca, rfl, _⟩ := h; rfl
theorem first_spec (g cap : Nat) (vs : List Value) (pre : List Assn) (Q : Int → List Assn → Prop) (hl : vs.length ≤ 1000) (h : StepsF vs pre Q) : Spec Tryz.prog 35 [.slice (some ⟨g, 0, none⟩) vs.length cap] (blk g 87 vs :: pre) (fun r L => ∃ e L', r = .int .i64 e ∧ Q e L' ∧ L = L') := by
  refine Spec.of 18 Tryz.func35 rfl rfl rfl ?_
  refine swp_sr ?_
  refine s_as rfl ?_
  refine swl_sub _ (sc0 0 rfl .nil) ?_
  refine swl_nn ?_
  refine swp_seq ?_
  refine swp_sr ?_
  refine s_mv rfl ?_
  refine s_pu (pu_len rfl) ?_
  refine s_mv rfl ?_
  refine swl_sub _ (sc0 6 rfl (sc0 7 rfl (sc0 8 rfl .nil))) ?_
  refine swl_nn ?_
  refine swp_block ?_
  refine swp_loop (ι := Nat × List Assn) (fun x env L => Sub env [(6, .slice (some ⟨g, 0, none⟩) vs.length cap), (7, .int .i64 (vs.length : Nat)), (8, .int .i64 (x.1 : Nat))] ∧ L = blk g 87 vs :: x.2 ∧ x.1 ≤ vs.length ∧ StepsF (vs.drop x.1) x.2 Q) (fun x => vs.length - x.1) (0, pre) ⟨⟨rfl, rfl, rfl, trivial⟩, rfl, Nat.zero_le _, h⟩ ?_
  rintro ⟨i, L0⟩ env L ⟨hsub, rfl, hi, hq⟩
  dsimp only at hsub hi hq ⊢
  refine swp_sub _ hsub ?_
  clear hsub env
  refine swp_sr ?_
  refine s_pu (pu_lss rfl rfl) ?_
  refine swl_sub _ (sc0 6 rfl (sc0 7 rfl (sc0 8 rfl (sc0 9 rfl .nil)))) ?_
  refine swl_nn ?_
  refine swp_seq ?_
  refine swp_cond (b := _) rfl (fun h9 => ?_) (fun h9 => ?_)
  · skip   -- 9 T
    have h9' : i < vs.length := by have := of_decide_eq_true h9; omega
    obtain ⟨v, hv⟩ : ∃ v, vs[i]? = some v := ⟨_, List.getElem?_eq_getElem h9'⟩
    have hdr : vs.drop i = v :: vs.drop (i + 1) := by
      rw [List.drop_eq_getElem_cons h9']
      congr 1
      exact (List.getElem?_eq_some_iff.1 hv).2
    rw [hdr] at hq
    obtain ⟨fn, hb, fi, ca, rfl, hs⟩ := hq
    refine swp_skip ?_
    refine then_n ?_
    refine swp_seq ?_
    refine swp_block ?_
    refine swp_sr ?_
    refine s_pu (pu_indexAddr (0 + i * 1) rfl rfl om0 om0 (by rw [Int.toNat_natCast])) ?_
    refine s_rd (rd_of_ld rfl (by rw [Nat.zero_add, Nat.mul_one]; exact ld_one hv)) ?_
    refine s_as rfl ?_
    refine swl_sub _ (sc0 4 rfl (sc0 6 rfl (sc0 7 rfl (sc0 8 rfl .nil)))) ?_
    refine swl_nn ?_
    refine swp_sr ?_
    refine s_mv rfl ?_
    refine s_ef (ef_clo (fi := fi) (args := []) (ca := ca) (R := [blk g 87 vs]) hs rfl rfl (Split.skip Split.all)) ?_
    rintro v13 L1 ⟨e, rfl, hp⟩
    refine swl_ent (L' := blk g 87 vs :: L1) (Ent.perm (List.perm_append_comm (l₁ := L1))) ?_
    refine s_as rfl ?_
    refine swl_sub _ (sc0 5 rfl (sc0 6 rfl (sc0 7 rfl (sc0 8 rfl .nil)))) ?_
    refine swl_nn ?_
    refine swp_sr ?_
    refine s_mv rfl ?_
    refine s_pu (pu_neq rfl rfl) ?_
    refine swl_sub _ (sc0 5 rfl (sc0 6 rfl (sc0 7 rfl (sc0 8 rfl (sc0 15 rfl .nil))))) ?_
    refine swl_nn ?_
    refine swp_cond (b := _) rfl (fun h15 => ?_) (fun h15 => ?_)
    · skip   -- 15 T
      refine swp_sr ?_
      refine s_mv rfl ?_
      refine s_as rfl ?_
      refine swl_sub _ (sc0 2 rfl .nil) ?_
      refine swl_nn ?_
      refine swp_ret ?_
      refine block_r ?_
      refine then_r ?_
      refine then_r ?_
      refine block_r ?_
      refine then_r ?_
      have h15' : e ≠ 0 := by simpa using h15
      have hp' : Q e L1 := by
        rcases hp with ⟨h, _⟩ | ⟨_, h⟩
        · exact absurd h h15'
        · exact h
      exact done_ret L1 (.tmp rfl .nil) ⟨e, L1, rfl, hp', rfl⟩ (Split.skip Split.all)
    · skip   -- 15 F
      refine swp_skip ?_
      refine block_n ?_
      refine then_n ?_
      refine swp_region ?_
      refine s_pu (pu_add_as ((i + 1 : Nat) : Int) rfl rfl om0 om0 om0) ?_
      refine s_mv rfl ?_
      refine swl_sub _ (sc0 6 rfl (sc0 7 rfl (sc0 8 rfl .nil))) ?_
      refine swl_nil ?_
      have h15' : e = 0 := by simpa using h15
      have hp' : StepsF (vs.drop (i + 1)) L1 Q := by
        rcases hp with ⟨_, h⟩ | ⟨h, _⟩
        · exact h
        · exact absurd h15' h
      exact then_n ⟨(i + 1, L1), ⟨⟨rfl, rfl, rfl, trivial⟩, rfl, h9', hp'⟩, by show vs.length - (i + 1) < vs.length - i; omega⟩
  · skip   -- 9 F
    have h9' := of_decide_eq_false h9
    rw [List.drop_eq_nil_of_le om0] at hq
    refine swp_exit ?_
    refine then_x ?_
    refine then_x ?_
    refine block_hit rfl ?_
    refine then_n ?_
    refine swp_sr ?_
    refine s_as rfl ?_
    refine swl_sub _ (sc0 2 rfl .nil) ?_
    refine swl_nn ?_
    refine swp_ret ?_
    exact done_ret L0 (.tmp rfl .nil) ⟨0, L0, rfl, hq, rfl⟩ (Split.skip Split.all)
/-- a store as it lies: of what type, on which disk -/
structure SW where
  q : Nat
  tv : Value
  cv : Value
  T : List (Value × List En)
  C : List (Value × Cm)
  dead : Bool
abbrev tcs (x : Value × List En) : List Value := [x.1]
abbrev ccs (x : Value × Cm) : List Value := [x.1, .int .i64 x.2.2]
abbrev stCl (W : SW) : List Value := [pv W.q, W.tv, W.cv, .bool W.dead]
abbrev stH (p : Nat) (W : SW) : Assn := blk p 83 (stCl W)
abbrev rsH (p : Nat) (W : SW) : Assn := blk p 39 (stCl W)
abbrev ttA (W : SW) : Assn := own 22 1 W.tv W.T.length (W.T.flatMap tcs)
abbrev ccA (W : SW) : Assn := own 25 2 W.cv W.C.length (W.C.flatMap ccs)
structure SW.Ok (μ : PH) (W : SW) : Prop where
  tf : ∃ A c, W.tv = .slice A W.T.length c
  cf : ∃ A c, W.cv = .slice A W.C.length c
  tr : ∀ x ∈ W.T, Row μ x.1 2 x.2.length (ens x.2)
  cr : ∀ x ∈ W.C, Row μ x.1 1 x.2.1.length (x.2.1.flatMap (icsk .i64))
  tl : W.T.length ≤ 65536
  cl : W.C.length ≤ 65536
theorem SW.Ok.le {μ μ' : PH} {W : SW} (h : W.Ok μ) (k : Le μ μ') : W.Ok μ' := ⟨h.tf, h.cf, fun x hx => (h.tr x hx).le k, fun x hx => (h.cr x hx).le k, h.tl, h.cl⟩
/-- a commit whose tree and parents are there -/
def knownS (nT nC : Nat) (c : Cm) : Bool := decide (c.2 < (nT : Int)) && !(c.1.any fun p => decide ((nC : Int) ≤ p))
theorem known1_spec (b p : Nat) (W : SW) (A : Option Addr) (c : Nat) (h : W.cv = .slice A W.C.length c) (K : List Assn) (x : Int) : Spec Tryz.prog 102 [.int .i64 x, pv b] (blk b 31 [pv p] :: stH p W :: K) (fun r L => r = .bool (decide ((W.C.length : Int) ≤ x)) ∧ L = blk b 31 [pv p] :: stH p W :: K) := by
  obtain ⟨q, tv, cv, T, C, dead⟩ := W
  dsimp only at h
  subst h
  refine Spec.of 11 Tryz.func102 rfl rfl rfl ?_
  refine swp_sr ?_
  refine s_as rfl ?_
  refine swl_sub _ (sc0 0 rfl (sc0 1 rfl .nil)) ?_
  refine swl_nn ?_
  refine swp_sr ?_
  refine s_mv rfl ?_
  refine s_rd (rd_load rfl rfl) ?_
  first | refine s_pu (pu_nilCheck rfl) ?_ | refine s_pu (pu_nilCheck_fn rfl) ?_ | refine s_pu (pu_nilCheck_if rfl) ?_
  first | refine s_pu (pu_fieldAddr0 rfl) ?_ | refine s_pu (pu_fieldAddr rfl) ?_
  refine s_rd (rd_load rfl rfl) ?_
  refine s_pu (pu_len rfl) ?_
  refine s_pu (pu_geq rfl rfl) ?_
  refine s_as rfl ?_
  refine swl_sub _ (sc0 3 rfl .nil) ?_
  refine swl_nn ?_
  refine swp_ret ?_
  exact done_ret _ (.tmp rfl .nil) ⟨rfl, rfl⟩ Split.all
set_option maxHeartbeats 2000000 in
theorem known_spec (μ : PH) (p : Nat) (W : SW) (hW : W.Ok μ) (pvv : Value) (c : Cm) (h : Row μ pvv 1 c.1.length (c.1.flatMap (icsk .i64))) : Spec Tryz.prog 49 [pv p, cmV pvv c.2] [stH p W, ro μ] (fun r L => r = .bool (knownS W.T.length W.C.length c) ∧ L = [stH p W, ro μ]) := by
  obtain ⟨⟨A1, c1, e1⟩, ⟨A2, c2, e2⟩, _, _, _, _⟩ := hW
  have hk1 := fun b x => known1_spec b p W A2 c2 e2 [ro μ] x
  obtain ⟨q, tv, cv, T, C, dead⟩ := W
  dsimp only at e1 e2
  subst e1 e2
  refine Spec.of 20 Tryz.func49 rfl rfl rfl ?_
  refine swp_sr ?_
  refine s_ef (ef_box rfl rfl) ?_
  intro b2
  refine s_ef (ef_box rfl rfl) ?_
  intro b3
  refine s_as rfl ?_
  refine swl_sub _ (sc0 2 rfl (sc0 3 rfl .nil)) ?_
  refine swl_nn ?_
  refine swp_seq ?_
  refine swp_draw [1, 2, 5, 10] _ [] (by simp only [List.append_nil]; exact Ent.refl _) kr0 ?_
  first | refine d_pu 0 rfl (pu_fieldAddr0 rfl) kr0 kr0 kr0 ?_ | refine d_pu 0 rfl (pu_fieldAddr rfl) kr0 kr0 kr0 ?_
  refine d_rd 1 rfl (rd_load rfl rfl) rfl kr0 kr0 kr0 ?_
  refine d_rd 2 rfl (rd_load rfl rfl) rfl kr0 kr0 kr0 ?_
  first | refine d_pu 3 rfl (pu_nilCheck rfl) kr0 kr0 kr0 ?_ | refine d_pu 3 rfl (pu_nilCheck_fn rfl) kr0 kr0 kr0 ?_ | refine d_pu 3 rfl (pu_nilCheck_if rfl) kr0 kr0 kr0 ?_
  first | refine d_pu 4 rfl (pu_fieldAddr0 rfl) kr0 kr0 kr0 ?_ | refine d_pu 4 rfl (pu_fieldAddr rfl) kr0 kr0 kr0 ?_
  refine d_rd 5 rfl (rd_load rfl rfl) rfl kr0 kr0 kr0 ?_
  refine d_pu 6 rfl (pu_len rfl) kr0 kr0 kr0 ?_
  refine d_pu 7 rfl (pu_lss rfl rfl) kr0 kr0 kr0 ?_
  refine d_pu 8 rfl (pu_move rfl) kr0 kr0 kr0 ?_
  refine d_split 13 rfl (fun h13 => ?_) (fun h13 => ?_)
  · skip   -- 13 T
    first | refine d_pu_on 9 rfl rfl rfl (pu_fieldAddr0 rfl) kr0 kr0 kr0 ?_ | refine d_pu_on 9 rfl rfl rfl (pu_fieldAddr rfl) kr0 kr0 kr0 ?_
    refine d_rd_on 10 rfl rfl rfl (rd_load rfl rfl) rfl kr0 kr0 kr0 ?_
    refine d_pu_on 11 rfl rfl rfl (pu_func (vs := []) (us := [_]) rfl rfl) kr0 kr0 kr0 ?_
    refine d_amb [12] kr0 rfl ?_
    first | refine dA_fint 12 rfl (GOn.some rfl rfl) kr0 (ef_fn (containsf_spec pvv c.1 [blk b2 31 [pv p], stH p ⟨q, .slice A1 T.length c1, .slice A2 C.length c2, T, C, dead⟩, ro μ] 102 [] [pv b2] (fun x => decide ((C.length : Int) ≤ x)) (Ints.row h) (fun x _ => hk1 b2 x)) rfl rfl sp0) ?_ | refine dA_finf 12 rfl (GOn.some rfl rfl) kr0 (ef_fn (containsf_spec pvv c.1 [blk b2 31 [pv p], stH p ⟨q, .slice A1 T.length c1, .slice A2 C.length c2, T, C, dead⟩, ro μ] 102 [] [pv b2] (fun x => decide ((C.length : Int) ≤ x)) (Ints.row h) (fun x _ => hk1 b2 x)) rfl rfl sp0) ?_
    rintro v17 L1 ⟨rfl, rfl⟩
    refine swd_app ?_
    refine d_pu_on 13 rfl rfl rfl (pu_not rfl) kr0 kr0 kr0 ?_
    first | refine d_pu 14 rfl (pu_pick_t rfl rfl) kr0 kr0 kr0 ?_ | refine d_pu 14 rfl (pu_pick_f rfl rfl) kr0 kr0 kr0 ?_
    refine d_pu 15 rfl (pu_assign rfl) kr0 kr0 kr0 ?_
    refine d_sub _ (sc0 4 rfl .nil) ?_
    first | refine d_nilt kr0 ?_ | refine d_nilf kr0 ?_
    refine then_n ?_
    refine swp_ret ?_
    refine done_ret [stH p ⟨q, _, _, T, C, dead⟩, ro μ] (.tmp rfl .nil) ⟨?_, rfl⟩ sp0
    unfold knownS
    rw [h13]
    rfl
  · skip   -- 13 F
    refine d_off 9 rfl rfl rfl rfl kr0 kr0 kr0 ?_
    refine d_off 10 rfl rfl rfl rfl kr0 kr0 kr0 ?_
    refine d_off 11 rfl rfl rfl rfl kr0 kr0 kr0 ?_
    refine d_off 12 rfl rfl rfl rfl kr0 kr0 kr0 ?_
    refine d_off 13 rfl rfl rfl rfl kr0 kr0 kr0 ?_
    first | refine d_pu 14 rfl (pu_pick_t rfl rfl) kr0 kr0 kr0 ?_ | refine d_pu 14 rfl (pu_pick_f rfl rfl) kr0 kr0 kr0 ?_
    refine d_pu 15 rfl (pu_assign rfl) kr0 kr0 kr0 ?_
    refine d_sub _ (sc0 4 rfl .nil) ?_
    first | refine d_nilt kr0 ?_ | refine d_nilf kr0 ?_
    refine then_n ?_
    refine swp_ret ?_
    refine done_ret [stH p ⟨q, _, _, T, C, dead⟩, ro μ] (.tmp rfl .nil) ⟨?_, rfl⟩ sp0
    unfold knownS
    rw [h13]
    rfl
end SX
namespace SX
open Go Go.Proofs
def DecT2 (s : List UInt8) (tv : Value) (e : Int) (L : List Assn) : Prop := ∃ t, L = [own 47 2 tv t.length (ens t)] ∧ ((e = 0 ∧ decT s = some t) ∨ (e ≠ 0 ∧ decT s = none ∧ t = [] ∧ tv = .slice none 0 0))
theorem DecT.two {s : List UInt8} {tv : Value} {e : Int} {L : List Assn} (h : DecT s tv e L) : ∃ L', Ent L L' ∧ DecT2 s tv e L' := by
  rcases h with ⟨h1, t, h2, rfl⟩ | ⟨h1, h2, rfl, rfl⟩
  · exact ⟨_, Ent.refl _, t, rfl, .inl ⟨h1, h2⟩⟩
  · exact ⟨_, own_nil_ent, [], rfl, .inr ⟨h1, h2, rfl, rfl⟩⟩
theorem tdec_spec2 (s : List UInt8) (hs : s.length ≤ 1073741824) : Spec Tryz.prog 121 [.string (str s)] [] (fun v L => ∃ tv e t, v = .tuple #[tv, .int .i64 e] ∧ ((e = 0 ∧ decT s = some t) ∨ (e ≠ 0 ∧ decT s = none ∧ t = [] ∧ tv = .slice none 0 0)) ∧ L = [own 47 2 tv t.length (ens t)]) :=
  Spec.ent3 (tdec_spec s hs) fun r L ⟨tv, e, h1, h2⟩ => by
    obtain ⟨L', h3, t, h4, h5⟩ := h2.two
    exact ⟨L', h3, tv, e, t, h1, h5, h4⟩
def ComQ (s : List UInt8) (μ : PH) (e : Int) (c : Cm) (pvv : Value) : Prop := Row μ pvv 1 c.1.length (c.1.flatMap (icsk .i64)) ∧ ((e = 0 ∧ decC s = some c) ∨ (e ≠ 0 ∧ decC s = none))
theorem DecC.two {s : List UInt8} {μ : PH} {cv : Value} {e : Int} (h : DecC s μ cv e) : ∃ (c : Cm) (A : Option Addr) (k : Nat), cv = cmV (.slice A c.1.length k) c.2 ∧ ComQ s μ e c (.slice A c.1.length k) := by
  rcases h with ⟨h1, c, pvv, h2, h3, h4⟩ | ⟨h1, h2, h3⟩
  · obtain ⟨A, k, rfl⟩ := h4.sl
    exact ⟨c, A, k, h3, h4, .inl ⟨h1, h2⟩⟩
  · exact ⟨([], 0), none, 0, h3, ⟨rfl, none, 0, rfl, Nat.le_refl _, Nat.zero_le _, fun _ => rfl, fun h => absurd h (by simp)⟩, .inr ⟨h1, h2⟩⟩
/-- the trees and the commits -/
abbrev St2 : Type := List (List En) × List Cm
def SW.pl (W : SW) : St2 := (W.T.map (·.2), W.C.map (·.2))
/-- a record that can stand is taken -/
def stand1 (s : St2) (f : Fm) : Option St2 :=
  if f.1 = 1 then match decT f.2 with
    | none => none
    | some t => if 65536 ≤ s.1.length then none else some (s.1 ++ [t], s.2)
  else if f.1 = 2 then match decC f.2 with
    | none => none
    | some c => if knownS s.1.length s.2.length c = false ∨ 65536 ≤ s.2.length then none else some (s.1, s.2 ++ [c])
  else none
theorem stand1_no {s : St2} {f : Fm} (h1 : f.1 ≠ 1) (h2 : f.1 ≠ 2) : stand1 s f = none := by unfold stand1; rw [if_neg h1, if_neg h2]
theorem stand1_tn {s : St2} {f : Fm} (h1 : f.1 = 1) (h : decT f.2 = none) : stand1 s f = none := by unfold stand1; rw [if_pos h1, h]
theorem stand1_tt {s : St2} {f : Fm} {t : List En} (h1 : f.1 = 1) (h : decT f.2 = some t) : stand1 s f = if 65536 ≤ s.1.length then none else some (s.1 ++ [t], s.2) := by unfold stand1; rw [if_pos h1, h]
theorem stand1_cn {s : St2} {f : Fm} (h1 : f.1 = 2) (h : decC f.2 = none) : stand1 s f = none := by unfold stand1; rw [if_neg om0, if_pos h1, h]
theorem stand1_cc {s : St2} {f : Fm} {c : Cm} (h1 : f.1 = 2) (h : decC f.2 = some c) : stand1 s f = if knownS s.1.length s.2.length c = false ∨ 65536 ≤ s.2.length then none else some (s.1, s.2 ++ [c]) := by unfold stand1; rw [if_neg om0, if_pos h1, h]
def StandQ (μ : PH) (W : SW) (f : Fm) (r : Value) (W' : SW) (μ' : PH) : Prop := Le μ μ' ∧ W'.Ok μ' ∧ W'.q = W.q ∧ W'.dead = W.dead ∧
  ((stand1 W.pl f = none ∧ r = .bool false ∧ W'.pl = W.pl) ∨ ∃ s, stand1 W.pl f = some s ∧ r = .bool true ∧ W'.pl = s)
theorem Ok.addT {μ μ' : PH} {W : SW} (h : W.Ok μ) (hl : Le μ μ') {t : List En} {A : Option Addr} {k : Nat} (hr : Row μ' (.slice A t.length k) 2 t.length (ens t)) (hn : W.T.length < 65536) {B : Option Addr} {c : Nat} :
    SW.Ok μ' { W with T := W.T ++ [(.slice A t.length k, t)], tv := .slice B (W.T.length + 1) c } := by
  refine ⟨⟨B, c, by rw [List.length_append]; rfl⟩, h.cf, fun x hx => ?_, (h.le hl).cr, by rw [List.length_append, List.length_singleton]; omega, h.cl⟩
  rcases List.mem_append.1 hx with hx | hx
  · exact (h.le hl).tr x hx
  · obtain rfl : x = (.slice A t.length k, t) := by simpa using hx
    exact hr
theorem Ok.addC {μ μ' : PH} {W : SW} (h : W.Ok μ) (hl : Le μ μ') {x : Cm} {A : Option Addr} {k : Nat} (hr : Row μ' (.slice A x.1.length k) 1 x.1.length (x.1.flatMap (icsk .i64))) (hn : W.C.length < 65536) {B : Option Addr} {c : Nat} :
    SW.Ok μ' { W with C := W.C ++ [(.slice A x.1.length k, x)], cv := .slice B (W.C.length + 1) c } := by
  refine ⟨h.tf, ⟨B, c, by rw [List.length_append]; rfl⟩, (h.le hl).tr, fun y hy => ?_, h.tl, by rw [List.length_append, List.length_singleton]; omega⟩
  rcases List.mem_append.1 hy with hy | hy
  · exact (h.le hl).cr y hy
  · obtain rfl : y = (.slice A x.1.length k, x) := by simpa using hy
    exact hr
set_option maxHeartbeats 4000000 in
theorem stand_spec (μ : PH) (p : Nat) (W : SW) (hW : W.Ok μ) (f : Fm) (hf : f.2.length ≤ 1073741824) : Spec Tryz.prog 82 [pv p, fmV f] [stH p W, ttA W, ccA W, ro μ] (fun r L => ∃ W' μ', StandQ μ W f r W' μ' ∧ L = [stH p W', ttA W', ccA W', ro μ']) := by
  have hW0 := hW
  obtain ⟨⟨A1, c1, e1⟩, ⟨A2, c2, e2⟩, _, _, hT, hC⟩ := hW
  obtain ⟨q, tv, cv, T, C, dead⟩ := W
  dsimp only at e1 e2 hT hC
  subst e1 e2
  have hno : ∀ {r : Value}, stand1 (SW.pl ⟨q, .slice A1 T.length c1, .slice A2 C.length c2, T, C, dead⟩) f = none → r = .bool false → ∀ {μ'}, Le μ μ' → StandQ μ ⟨q, .slice A1 T.length c1, .slice A2 C.length c2, T, C, dead⟩ f r ⟨q, .slice A1 T.length c1, .slice A2 C.length c2, T, C, dead⟩ μ' := fun h1 h2 μ' h3 => ⟨h3, hW0.le h3, rfl, rfl, .inl ⟨h1, h2, rfl⟩⟩
  refine Spec.of 73 Tryz.func82 rfl rfl rfl ?_
  refine swp_sr ?_
  refine s_ef (ef_box rfl rfl) ?_
  intro b3
  refine s_as rfl ?_
  refine swl_sub _ (sc0 0 rfl (sc0 3 rfl .nil)) ?_
  refine swl_nn ?_
  refine swp_seq ?_
  refine swp_sr ?_
  first | refine s_pu (pu_fieldAddr0 rfl) ?_ | refine s_pu (pu_fieldAddr rfl) ?_
  refine s_rd (rd_load rfl rfl) ?_
  refine swl_sub _ (sc0 0 rfl (sc0 3 rfl (sc0 10 rfl .nil))) ?_
  refine swl_nn ?_
  refine swp_block ?_
  refine swp_sr ?_
  refine s_pu (pu_eql rfl rfl) ?_
  refine s_as rfl ?_
  refine swl_sub _ (sc0 0 rfl (sc0 3 rfl (sc0 10 rfl (sc0 11 rfl .nil)))) ?_
  refine swl_nn ?_
  refine swp_cond (b := _) rfl (fun h11 => ?_) (fun h11 => ?_)
  · skip   -- 11 T
    have h11' : f.1 = 1 := by have := of_decide_eq_true h11; omega
    refine swp_sr ?_
    first | refine s_pu (pu_fieldAddr0 rfl) ?_ | refine s_pu (pu_fieldAddr rfl) ?_
    refine s_rd (rd_load rfl rfl) ?_
    refine s_ef (ef_fn (tdec_spec2 f.2 hf) rfl rfl sp0) ?_
    rintro v16 L1 ⟨tv, e, t, rfl, hq, rfl⟩
    refine swl_app ?_
    refine swl_share_own (v := tv) (μ := μ) sp0 fun μ' hle hrow => ?_
    obtain ⟨A3, c3, rfl⟩ := hrow.sl
    refine s_mv rfl ?_
    first | refine s_pu (pu_extractL rfl) ?_ | refine s_pu (pu_extract rfl rfl) ?_
    first | refine s_pu (pu_extractL rfl) ?_ | refine s_pu (pu_extract rfl rfl) ?_
    refine s_as rfl ?_
    refine s_as rfl ?_
    refine swl_sub _ (sc0 0 rfl (sc0 5 rfl (sc0 6 rfl .nil))) ?_
    refine swl_nn ?_
    refine swp_seq ?_
    refine swp_sr ?_
    refine s_mv rfl ?_
    refine s_pu (pu_neq rfl rfl) ?_
    refine s_mv rfl ?_
    refine s_split 21 rfl (fun h21 => ?_) (fun h21 => ?_)
    · skip   -- 21 T
      have h21' : e ≠ 0 := by simpa using h21
      have hd : decT f.2 = none := by
        rcases hq with ⟨h, _⟩ | ⟨_, h, _⟩
        · exact absurd h h21'
        · exact h
      refine s_off rfl rfl rfl ?_
      refine s_off rfl rfl rfl ?_
      refine s_off rfl rfl rfl ?_
      refine s_off rfl rfl rfl ?_
      refine s_off rfl rfl rfl ?_
      refine s_off rfl rfl rfl ?_
      first | refine s_pu (pu_pick_t rfl rfl) ?_ | refine s_pu (pu_pick_f rfl rfl) ?_
      refine swl_sub _ (sc0 0 rfl (sc0 5 rfl (sc0 28 rfl .nil))) ?_
      refine swl_nn ?_
      refine swp_cond (b := _) rfl (fun h28 => ?_) (fun h28 => by cases h28)
      refine swp_sr ?_
      refine s_as rfl ?_
      refine swl_sub _ (sc0 4 rfl .nil) ?_
      refine swl_nn ?_
      refine swp_ret ?_
      refine then_r ?_
      refine block_r ?_
      refine then_r ?_
      exact done_ret [stH p ⟨q, _, _, T, C, dead⟩, ttA ⟨q, _, _, T, C, dead⟩, ccA ⟨q, _, _, T, C, dead⟩, ro μ'] (.tmp rfl .nil) ⟨_, μ', hno (stand1_tn h11' hd) rfl hle, rfl⟩ sp0
    · skip   -- 21 F
      have h21' : e = 0 := by simpa using h21
      have hd : decT f.2 = some t := by
        rcases hq with ⟨_, h⟩ | ⟨h, _⟩
        · exact h
        · exact absurd h21' h
      have hs := stand1_tt (s := SW.pl ⟨q, .slice A1 T.length c1, .slice A2 C.length c2, T, C, dead⟩) h11' hd
      rw [show (SW.pl ⟨q, .slice A1 T.length c1, .slice A2 C.length c2, T, C, dead⟩).1.length = T.length from List.length_map _] at hs
      refine s_on rfl rfl ?_
      refine s_mv rfl ?_
      refine s_on rfl rfl ?_
      first | refine s_pu (pu_nilCheck rfl) ?_ | refine s_pu (pu_nilCheck_fn rfl) ?_ | refine s_pu (pu_nilCheck_if rfl) ?_
      refine s_on rfl rfl ?_
      first | refine s_pu (pu_fieldAddr0 rfl) ?_ | refine s_pu (pu_fieldAddr rfl) ?_
      refine s_on rfl rfl ?_
      refine s_rd (rd_load rfl rfl) ?_
      refine s_on rfl rfl ?_
      refine s_pu (pu_len rfl) ?_
      refine s_on rfl rfl ?_
      refine s_pu (pu_geq rfl rfl) ?_
      first | refine s_pu (pu_pick_t rfl rfl) ?_ | refine s_pu (pu_pick_f rfl rfl) ?_
      refine swl_sub _ (sc0 0 rfl (sc0 5 rfl (sc0 28 rfl .nil))) ?_
      refine swl_nn ?_
      refine swp_cond (b := _) rfl (fun h28 => ?_) (fun h28 => ?_)
      · skip   -- 28 T
        refine swp_sr ?_
        refine s_as rfl ?_
        refine swl_sub _ (sc0 4 rfl .nil) ?_
        refine swl_nn ?_
        refine swp_ret ?_
        refine then_r ?_
        refine block_r ?_
        refine then_r ?_
        have h28' : 65536 ≤ T.length := by have := of_decide_eq_true h28; omega
        rw [if_pos h28'] at hs
        exact done_ret [stH p ⟨q, _, _, T, C, dead⟩, ttA ⟨q, _, _, T, C, dead⟩, ccA ⟨q, _, _, T, C, dead⟩, ro μ'] (.tmp rfl .nil) ⟨_, μ', hno hs rfl hle, rfl⟩ sp0
      · skip   -- 28 F
        have h28' : T.length < 65536 := by have := of_decide_eq_false h28; omega
        rw [if_neg om0] at hs
        refine swp_skip ?_
        refine then_n ?_
        refine swp_sr ?_
        refine s_mv rfl ?_
        refine s_mv rfl ?_
        first | refine s_pu (pu_nilCheck rfl) ?_ | refine s_pu (pu_nilCheck_fn rfl) ?_ | refine s_pu (pu_nilCheck_if rfl) ?_
        first | refine s_pu (pu_fieldAddr0 rfl) ?_ | refine s_pu (pu_fieldAddr rfl) ?_
        refine s_rd (rd_load rfl rfl) ?_
        refine s_mv rfl ?_
        refine s_ef (ef_bldS (qs := [(0, _)]) rfl rfl rfl) ?_
        intro b35
        refine s_ef (ef_append_lit (l := T.length) (m := 1) rfl rfl sp0 (by simp only [maxLen]; omega) om0) ?_
        rintro v36 -
        refine swl_fact (fun m h => own_form h) fun ⟨A36, c36, hv36⟩ => ?_
        subst hv36
        first | refine s_pu (pu_nilCheck rfl) ?_ | refine s_pu (pu_nilCheck_fn rfl) ?_ | refine s_pu (pu_nilCheck_if rfl) ?_
        first | refine s_pu (pu_fieldAddr0 rfl) ?_ | refine s_pu (pu_fieldAddr rfl) ?_
        refine s_ef0 (ef_store rfl rfl rfl) ?_
        refine swl_sub _ .nil ?_
        refine swl_nn ?_
        refine swp_sr ?_
        refine s_as rfl ?_
        refine swl_sub _ (sc0 4 rfl .nil) ?_
        refine swl_nn ?_
        refine swp_ret ?_
        refine block_r ?_
        refine then_r ?_
        refine done_ret [stH p ⟨q, .slice A36 (T.length + 1) c36, .slice A2 C.length c2, T ++ [(.slice A3 t.length c3, t)], C, dead⟩, own 22 1 (.slice A36 (T.length + 1) c36) (T.length + 1) (T.flatMap tcs ++ [.slice A3 t.length c3]), ccA ⟨q, .slice A36 (T.length + 1) c36, .slice A2 C.length c2, T, C, dead⟩, ro μ'] (.tmp rfl .nil) ⟨⟨q, .slice A36 (T.length + 1) c36, .slice A2 C.length c2, T ++ [(.slice A3 t.length c3, t)], C, dead⟩, μ', ⟨hle, Ok.addT hW0 hle hrow h28', rfl, rfl, .inr ⟨_, hs, rfl, ?_⟩⟩, ?_⟩ sp0
        · unfold SW.pl; rw [List.map_append]; rfl
        · simp only [ttA, List.length_append, List.length_singleton, List.flatMap_append]; rfl
  · skip   -- 11 F
    refine swp_sr ?_
    refine s_pu (pu_eql rfl rfl) ?_
    refine s_as rfl ?_
    refine swl_sub _ (sc0 0 rfl (sc0 3 rfl (sc0 39 rfl .nil))) ?_
    refine swl_nn ?_
    refine swp_cond (b := _) rfl (fun h39 => ?_) (fun h39 => ?_)
    · skip   -- 39 T
      have h39' : f.1 = 2 := by have := of_decide_eq_true h39; omega
      refine swp_sr ?_
      first | refine s_pu (pu_fieldAddr0 rfl) ?_ | refine s_pu (pu_fieldAddr rfl) ?_
      refine s_rd (rd_load rfl rfl) ?_
      refine s_ef (ef_fn (cdec_spec μ f.2 hf) rfl rfl sp0) ?_
      rintro v44 L1 ⟨cv, e, μ', rfl, rfl, hle, hq⟩
      obtain ⟨c, A3, c3, rfl, hrow, hq⟩ := hq.two
      refine swl_app ?_
      refine s_mv rfl ?_
      first | refine s_pu (pu_extractL rfl) ?_ | refine s_pu (pu_extract rfl rfl) ?_
      first | refine s_pu (pu_extractL rfl) ?_ | refine s_pu (pu_extract rfl rfl) ?_
      refine s_ef (ef_alloc) ?_
      intro b7
      refine s_ef0 (ef_storeA rfl rfl rfl rfl) ?_
      refine s_as rfl ?_
      refine swl_sub _ (sc0 0 rfl (sc0 7 rfl (sc0 8 rfl .nil))) ?_
      refine swl_nn ?_
      refine swp_seq ?_
      refine swp_sr ?_
      refine s_mv rfl ?_
      refine s_pu (pu_neq rfl rfl) ?_
      refine s_mv rfl ?_
      refine s_split 49 rfl (fun h49 => ?_) (fun h49 => ?_)
      · skip   -- 49 T
        have h49' : e ≠ 0 := by simpa using h49
        have hd : decC f.2 = none := by
          rcases hq with ⟨h, _⟩ | ⟨_, h⟩
          · exact absurd h h49'
          · exact h
        refine s_off rfl rfl rfl ?_
        refine s_off rfl rfl rfl ?_
        refine s_off rfl rfl rfl ?_
        refine s_off rfl rfl rfl ?_
        first | refine s_pu (pu_pick_t rfl rfl) ?_ | refine s_pu (pu_pick_f rfl rfl) ?_
        refine s_mv rfl ?_
        refine s_split 55 rfl (fun h55 => ?_) (fun h55 => by cases h55)
        refine s_off rfl rfl rfl ?_
        refine s_off rfl rfl rfl ?_
        refine s_off rfl rfl rfl ?_
        refine s_off rfl rfl rfl ?_
        refine s_off rfl rfl rfl ?_
        refine s_off rfl rfl rfl ?_
        first | refine s_pu (pu_pick_t rfl rfl) ?_ | refine s_pu (pu_pick_f rfl rfl) ?_
        refine swl_sub _ (sc0 0 rfl (sc0 7 rfl (sc0 62 rfl .nil))) ?_
        refine swl_nn ?_
        refine swp_cond (b := _) rfl (fun h62 => ?_) (fun h62 => by cases h62)
        refine swp_sr ?_
        refine s_as rfl ?_
        refine swl_sub _ (sc0 4 rfl .nil) ?_
        refine swl_nn ?_
        refine swp_ret ?_
        refine then_r ?_
        refine block_r ?_
        refine then_r ?_
        exact done_ret [stH p ⟨q, .slice A1 T.length c1, .slice A2 C.length c2, T, C, dead⟩, ttA ⟨q, .slice A1 T.length c1, .slice A2 C.length c2, T, C, dead⟩, ccA ⟨q, .slice A1 T.length c1, .slice A2 C.length c2, T, C, dead⟩, ro μ'] (.tmp rfl .nil) ⟨_, μ', hno (stand1_cn h39' hd) rfl hle, rfl⟩ sp0
      · skip   -- 49 F
        have h49' : e = 0 := by simpa using h49
        have hd : decC f.2 = some c := by
          rcases hq with ⟨_, h⟩ | ⟨h, _⟩
          · exact h
          · exact absurd h49' h
        have hs := stand1_cc (s := SW.pl ⟨q, .slice A1 T.length c1, .slice A2 C.length c2, T, C, dead⟩) h39' hd
        rw [show (SW.pl ⟨q, .slice A1 T.length c1, .slice A2 C.length c2, T, C, dead⟩).1.length = T.length from List.length_map _, show (SW.pl ⟨q, .slice A1 T.length c1, .slice A2 C.length c2, T, C, dead⟩).2.length = C.length from List.length_map _] at hs
        refine s_on rfl rfl ?_
        refine s_mv rfl ?_
        refine s_on rfl rfl ?_
        first | refine s_rd (rd_loadW rfl rfl) ?_ | refine s_rd (rd_loadX rfl rfl rfl) ?_
        refine s_on rfl rfl ?_
        refine s_ef (ef_fn (known_spec μ' p ⟨q, .slice A1 T.length c1, .slice A2 C.length c2, T, C, dead⟩ (hW0.le hle) (.slice A3 c.1.length c3) c hrow) rfl rfl sp0) ?_
        rintro v52 L1 ⟨rfl, rfl⟩
        refine swl_app ?_
        refine s_on rfl rfl ?_
        refine s_pu (pu_not rfl) ?_
        first | refine s_pu (pu_pick_t rfl rfl) ?_ | refine s_pu (pu_pick_f rfl rfl) ?_
        refine s_mv rfl ?_
        refine s_split 55 rfl (fun h55 => ?_) (fun h55 => ?_)
        · skip   -- 55 T
          have h55' : knownS T.length C.length c = false := by simpa using h55
          rw [if_pos (.inl h55')] at hs
          refine s_off rfl rfl rfl ?_
          refine s_off rfl rfl rfl ?_
          refine s_off rfl rfl rfl ?_
          refine s_off rfl rfl rfl ?_
          refine s_off rfl rfl rfl ?_
          refine s_off rfl rfl rfl ?_
          first | refine s_pu (pu_pick_t rfl rfl) ?_ | refine s_pu (pu_pick_f rfl rfl) ?_
          refine swl_sub _ (sc0 0 rfl (sc0 7 rfl (sc0 62 rfl .nil))) ?_
          refine swl_nn ?_
          refine swp_cond (b := _) rfl (fun h62 => ?_) (fun h62 => by cases h62)
          refine swp_sr ?_
          refine s_as rfl ?_
          refine swl_sub _ (sc0 4 rfl .nil) ?_
          refine swl_nn ?_
          refine swp_ret ?_
          refine then_r ?_
          refine block_r ?_
          refine then_r ?_
          exact done_ret [stH p ⟨q, .slice A1 T.length c1, .slice A2 C.length c2, T, C, dead⟩, ttA ⟨q, .slice A1 T.length c1, .slice A2 C.length c2, T, C, dead⟩, ccA ⟨q, .slice A1 T.length c1, .slice A2 C.length c2, T, C, dead⟩, ro μ'] (.tmp rfl .nil) ⟨_, μ', hno hs rfl hle, rfl⟩ sp0
        · skip   -- 55 F
          have h55' : knownS T.length C.length c = true := by simpa using h55
          refine s_on rfl rfl ?_
          refine s_mv rfl ?_
          refine s_on rfl rfl ?_
          first | refine s_pu (pu_nilCheck rfl) ?_ | refine s_pu (pu_nilCheck_fn rfl) ?_ | refine s_pu (pu_nilCheck_if rfl) ?_
          refine s_on rfl rfl ?_
          first | refine s_pu (pu_fieldAddr0 rfl) ?_ | refine s_pu (pu_fieldAddr rfl) ?_
          refine s_on rfl rfl ?_
          refine s_rd (rd_load rfl rfl) ?_
          refine s_on rfl rfl ?_
          refine s_pu (pu_len rfl) ?_
          refine s_on rfl rfl ?_
          refine s_pu (pu_geq rfl rfl) ?_
          first | refine s_pu (pu_pick_t rfl rfl) ?_ | refine s_pu (pu_pick_f rfl rfl) ?_
          refine swl_sub _ (sc0 0 rfl (sc0 7 rfl (sc0 62 rfl .nil))) ?_
          refine swl_nn ?_
          refine swp_cond (b := _) rfl (fun h62 => ?_) (fun h62 => ?_)
          · skip   -- 62 T
            refine swp_sr ?_
            refine s_as rfl ?_
            refine swl_sub _ (sc0 4 rfl .nil) ?_
            refine swl_nn ?_
            refine swp_ret ?_
            refine then_r ?_
            refine block_r ?_
            refine then_r ?_
            have h62' : 65536 ≤ C.length := by have := of_decide_eq_true h62; omega
            rw [if_pos (.inr h62')] at hs
            exact done_ret [stH p ⟨q, .slice A1 T.length c1, .slice A2 C.length c2, T, C, dead⟩, ttA ⟨q, .slice A1 T.length c1, .slice A2 C.length c2, T, C, dead⟩, ccA ⟨q, .slice A1 T.length c1, .slice A2 C.length c2, T, C, dead⟩, ro μ'] (.tmp rfl .nil) ⟨_, μ', hno hs rfl hle, rfl⟩ sp0
          · skip   -- 62 F
            have h62' : C.length < 65536 := by have := of_decide_eq_false h62; omega
            rw [if_neg (by rintro (k | k); rw [h55'] at k; cases k; omega)] at hs
            refine swp_skip ?_
            refine then_n ?_
            refine swp_seq ?_
            refine swp_draw [4, 5] _ [] (by simp only [List.append_nil]; exact Ent.refl _) kr0 ?_
            refine d_pu 0 rfl (pu_move rfl) kr0 kr0 kr0 ?_
            refine d_pu 1 rfl (pu_move rfl) kr0 kr0 kr0 ?_
            first | refine d_pu 2 rfl (pu_nilCheck rfl) kr0 kr0 kr0 ?_ | refine d_pu 2 rfl (pu_nilCheck_fn rfl) kr0 kr0 kr0 ?_ | refine d_pu 2 rfl (pu_nilCheck_if rfl) kr0 kr0 kr0 ?_
            first | refine d_pu 3 rfl (pu_fieldAddr0 rfl) kr0 kr0 kr0 ?_ | refine d_pu 3 rfl (pu_fieldAddr rfl) kr0 kr0 kr0 ?_
            refine d_rd 4 rfl (rd_load rfl rfl) rfl kr0 kr0 kr0 ?_
            first | refine d_rd 5 rfl (rd_loadW rfl rfl) rfl kr0 kr0 kr0 ?_ | refine d_rd 5 rfl (rd_loadX rfl rfl rfl) rfl kr0 kr0 kr0 ?_
            refine d_eft 6 rfl kr0 (ef_bldS (qs := [(0, _)]) rfl rfl rfl) ?_
            intro b69
            refine ⟨_, Split.ent sp0, ?_⟩
            first | refine d_fint 7 rfl kr0 kr0 (ef_append_lit (l := C.length) (m := 1) rfl rfl sp0 (by simp only [maxLen]; omega) om0) ?_ | refine d_finf 7 rfl kr0 kr0 (ef_append_lit (l := C.length) (m := 1) rfl rfl sp0 (by simp only [maxLen]; omega) om0) ?_
            rintro v70 -
            first | refine swd_factf (fun m h => own_form h) fun ⟨A70, c70, hv70⟩ => ?_ | refine swd_factt (fun m h => own_form h) fun ⟨A70, c70, hv70⟩ => ?_
            subst hv70
            first | refine d_pu 8 rfl (pu_nilCheck rfl) kr0 kr0 kr0 ?_ | refine d_pu 8 rfl (pu_nilCheck_fn rfl) kr0 kr0 kr0 ?_ | refine d_pu 8 rfl (pu_nilCheck_if rfl) kr0 kr0 kr0 ?_
            first | refine d_pu 9 rfl (pu_fieldAddr0 rfl) kr0 kr0 kr0 ?_ | refine d_pu 9 rfl (pu_fieldAddr rfl) kr0 kr0 kr0 ?_
            first | refine d_fin0t 10 rfl kr0 kr0 (ef_store rfl rfl rfl) ?_ | refine d_fin0f 10 rfl kr0 kr0 (ef_store rfl rfl rfl) ?_
            refine d_sub _ .nil ?_
            first | refine d_nilt kr0 ?_ | refine d_nilf kr0 ?_
            refine then_n ?_
            refine swp_sr ?_
            refine s_as rfl ?_
            refine swl_sub _ (sc0 4 rfl .nil) ?_
            refine swl_nn ?_
            refine swp_ret ?_
            refine block_r ?_
            refine then_r ?_
            refine done_ret [stH p ⟨q, .slice A1 T.length c1, .slice A70 (C.length + 1) c70, T, C ++ [(.slice A3 c.1.length c3, c)], dead⟩, ttA ⟨q, .slice A1 T.length c1, .slice A2 C.length c2, T, C, dead⟩, own 25 2 (.slice A70 (C.length + 1) c70) (C.length + 1) (C.flatMap ccs ++ [.slice A3 c.1.length c3, .int .i64 c.2]), ro μ'] (.tmp rfl .nil) ⟨⟨q, .slice A1 T.length c1, .slice A70 (C.length + 1) c70, T, C ++ [(.slice A3 c.1.length c3, c)], dead⟩, μ', ⟨hle, Ok.addC hW0 hle hrow h62', rfl, rfl, .inr ⟨_, hs, rfl, ?_⟩⟩, ?_⟩ sp0
            · unfold SW.pl; rw [List.map_append]; rfl
            · simp only [ccA, List.length_append, List.length_singleton, List.flatMap_append]; rfl
    · skip   -- 39 F
      refine swp_skip ?_
      refine block_n ?_
      refine then_n ?_
      refine swp_sr ?_
      refine s_as rfl ?_
      refine swl_sub _ (sc0 4 rfl .nil) ?_
      refine swl_nn ?_
      refine swp_ret ?_
      have h11' : f.1 ≠ 1 := by have := of_decide_eq_false h11; omega
      have h39' : f.1 ≠ 2 := by have := of_decide_eq_false h39; omega
      exact done_ret [stH p ⟨q, .slice A1 T.length c1, .slice A2 C.length c2, T, C, dead⟩, ttA ⟨q, .slice A1 T.length c1, .slice A2 C.length c2, T, C, dead⟩, ccA ⟨q, .slice A1 T.length c1, .slice A2 C.length c2, T, C, dead⟩, ro μ] (.tmp rfl .nil) ⟨_, μ, hno (stand1_no h11' h39') rfl (Le.refl _), rfl⟩ sp0
end SX
namespace SX
open Go Go.Proofs
def eOk (s : List UInt8) (pre : List (Nat × Fm)) (x : Nat × Fm) : Prop := (∃ post, scan s = pre.map (·.2) ++ x.2 :: post) ∧ x.1 = sizeF (pre.map (·.2)) ∧ x.2.2.length ≤ 1048576 ∧ x.1 + (x.2.2.length + 9) ≤ s.length
set_option maxHeartbeats 2000000 in
theorem each_iter (b : Nat) (s : List UInt8) (hs : s.length ≤ 1073741824) : IterK Tryz.prog 119 [pv b] (fun x : Nat × Fm => [.int .i64 (x.1 : Nat), fmV x.2]) (eOk s) (fun ys => ys.map (·.2) = scan s) [] (blk b 9 [.string (str s)]) (blk b 9 [.string (str s)]) := by
  intro l I X R h0 hy
  refine Spec.of 31 Tryz.func119 rfl rfl rfl ?_
  refine swp_ent (L' := [I [], blk b 9 [.string (str s)]]) ((Ent.perm (List.Perm.swap _ _ _)).trans ((Ent.cons h0).trans (Ent.perm (List.Perm.swap _ _ _)))) ?_
  refine swp_sr ?_
  refine s_as rfl ?_
  refine swl_sub _ (sc0 0 rfl (sc0 1 rfl (sc0 3 rfl .nil))) ?_
  refine swl_nn ?_
  refine swp_block ?_
  refine swp_loop (ι := Nat × List (Nat × Fm)) (fun x env L => Sub env [(0, yv l), (1, pv b), (3, .int .i64 (x.1 : Nat))] ∧ Ent L [I x.2, blk b 9 [.string (str s)]] ∧ x.1 = sizeF (x.2.map (·.2)) ∧ scan s = x.2.map (·.2) ++ scan (s.drop x.1) ∧ x.1 ≤ s.length) (fun x => s.length - x.1) (0, []) ⟨⟨rfl, rfl, rfl, trivial⟩, Ent.refl _, rfl, rfl, Nat.zero_le _⟩ ?_
  rintro ⟨pos, pre⟩ env L ⟨hsub, hE, hp, hsc, hps⟩
  dsimp only at hsub hE hp hsc hps ⊢
  refine swp_sub _ hsub ?_
  refine swp_ent hE ?_
  clear hsub hE env L
  refine swp_seq ?_
  refine swp_sr ?_
  refine s_mv rfl ?_
  refine s_rd (rd_load rfl rfl) ?_
  refine s_pu (pu_strln rfl) ?_
  refine s_pu (pu_lss rfl rfl) ?_
  refine swl_sub _ (sc0 0 rfl (sc0 1 rfl (sc0 3 rfl (sc0 10 rfl .nil)))) ?_
  refine swl_nn ?_
  refine swp_cond (b := _) rfl (fun h10 => ?_) (fun h10 => ?_)
  · skip   -- 10 T
    have h10' : pos < s.length := by have := of_decide_eq_true h10; omega
    refine swp_skip ?_
    refine then_n ?_
    refine swp_block ?_
    refine swp_sr ?_
    refine s_rd (rd_load rfl rfl) ?_
    refine s_mv rfl ?_
    refine s_pu (pu_strlo pos rfl rfl rfl hps) ?_
    refine s_ef (ef_fn (fdec_spec (s.drop pos) (by rw [List.length_drop]; omega)) rfl rfl sp0) ?_
    rintro v15 L1 ⟨fv, n, e, rfl, rfl, hq⟩
    obtain ⟨f, rfl⟩ : ∃ f : Fm, fv = fmV f := by rcases hq with ⟨_, f, _, _, h, _⟩ | ⟨_, _, h, _⟩ <;> exact ⟨_, h⟩
    refine swl_app ?_
    refine s_mv rfl ?_
    first | refine s_pu (pu_extractL rfl) ?_ | refine s_pu (pu_extract rfl rfl) ?_
    first | refine s_pu (pu_extractL rfl) ?_ | refine s_pu (pu_extract rfl rfl) ?_
    first | refine s_pu (pu_extractL rfl) ?_ | refine s_pu (pu_extract rfl rfl) ?_
    refine s_ef (ef_alloc) ?_
    intro b4
    refine s_ef0 (ef_storeA rfl rfl rfl rfl) ?_
    refine s_as rfl ?_
    refine s_as rfl ?_
    refine swl_sub _ (sc0 0 rfl (sc0 1 rfl (sc0 3 rfl (sc0 4 rfl (sc0 5 rfl (sc0 6 rfl .nil)))))) ?_
    refine swl_nn ?_
    refine swp_seq ?_
    refine swp_sr ?_
    refine s_mv rfl ?_
    refine s_pu (pu_neq rfl rfl) ?_
    refine s_mv rfl ?_
    refine s_split 21 rfl (fun h21 => ?_) (fun h21 => ?_)
    · skip   -- 21 T
      have h21' : e ≠ 0 := by simpa using h21
      have hd : decF (s.drop pos) = none := by
        rcases hq with ⟨h, _⟩ | ⟨_, h, _⟩
        · exact absurd h h21'
        · exact h
      rw [scan_none hd, List.append_nil] at hsc
      refine s_off rfl rfl rfl ?_
      refine s_off rfl rfl rfl ?_
      refine s_off rfl rfl rfl ?_
      refine s_off rfl rfl rfl ?_
      refine s_off rfl rfl rfl ?_
      first | refine s_pu (pu_pick_t rfl rfl) ?_ | refine s_pu (pu_pick_f rfl rfl) ?_
      refine swl_sub _ (sc0 0 rfl (sc0 1 rfl (sc0 3 rfl (sc0 5 rfl (sc0 27 rfl .nil))))) ?_
      refine swl_nn ?_
      refine swp_cond (b := _) rfl (fun h27 => ?_) (fun h27 => by cases h27)
      refine swp_ret ?_
      refine then_r ?_
      refine block_r ?_
      refine then_r ?_
      refine block_r ?_
      exact done_end [I pre, blk b 9 [.string (str s)]] .nil (.inl ⟨pre, hsc.symm, rfl⟩) sp0
    · skip   -- 21 F
      have h21' : e = 0 := by simpa using h21
      obtain ⟨k, hd, rfl⟩ : ∃ k : Nat, decF (s.drop pos) = some (f, k) ∧ n = (k : Nat) := by
        rcases hq with ⟨_, f', k, h1, h2, h3⟩ | ⟨h, _⟩
        · injection h2 with h4
          have h5 := congrArg Array.toList h4
          injection h5 with h6 h7
          injection h6 with _ h8
          injection h7 with h9 _
          injection h9 with h10
          have h11 : f = f' := Prod.ext (Int.ofNat_inj.1 h8) (str_inj h10)
          rw [h11]
          exact ⟨k, h1, h3⟩
        · exact absurd h21' h
      obtain ⟨q1, q2, q3, q4, q5⟩ := decF_some hd
      rw [List.length_drop] at q2
      rw [scan_some hd, List.drop_drop] at hsc
      have hok : eOk s pre (pos, f) := ⟨⟨_, hsc⟩, hp, q5, by show pos + (f.2.length + 9) ≤ s.length; omega⟩
      refine s_on rfl rfl ?_
      refine s_mv rfl ?_
      refine s_on rfl rfl ?_
      refine s_mv rfl ?_
      refine s_on rfl rfl ?_
      first | refine s_rd (rd_loadW rfl rfl) ?_ | refine s_rd (rd_loadX rfl rfl rfl) ?_
      refine s_on rfl rfl ?_
      refine s_ef (ef_yield (hy pre (pos, f) hok) rfl rfl sp0) ?_
      rintro v1 L1 (⟨rfl, rfl⟩ | ⟨rfl, rfl⟩)
      · skip
        refine swl_app ?_
        refine s_on rfl rfl ?_
        refine s_pu (pu_not rfl) ?_
        first | refine s_pu (pu_pick_t rfl rfl) ?_ | refine s_pu (pu_pick_f rfl rfl) ?_
        refine swl_sub _ (sc0 0 rfl (sc0 1 rfl (sc0 3 rfl (sc0 5 rfl (sc0 27 rfl .nil))))) ?_
        refine swl_nn ?_
        refine swp_cond (b := _) rfl (fun h27 => by cases h27) (fun h27 => ?_)
        refine swp_skip ?_
        refine then_n ?_
        refine swp_region ?_
        refine s_mv rfl ?_
        refine s_mv rfl ?_
        refine s_pu (pu_add_as ((pos + k : Nat) : Int) rfl rfl om0 om0 om0) ?_
        refine s_as rfl ?_
        refine swl_sub _ (sc0 0 rfl (sc0 1 rfl (sc0 3 rfl .nil))) ?_
        refine swl_nil ?_
        refine block_n ?_
        refine then_n ⟨(pos + k, pre ++ [(pos, f)]), ⟨⟨rfl, rfl, rfl, trivial⟩, by show Ent _ [I (pre ++ [(pos, f)]), blk b 9 [.string (str s)]]; exact Split.ent' sp0, ?_, ?_, by show pos + k ≤ s.length; omega⟩, by show s.length - (pos + k) < s.length - pos; omega⟩
        · show pos + k = _
          rw [List.map_append, sizeF_app, ← hp, q1]
          show _ = pos + (f.2.length + 9 + 0)
          omega
        · show scan s = (pre ++ [(pos, f)]).map (·.2) ++ scan (s.drop (pos + k))
          rw [hsc, List.map_append, List.append_assoc]
          rfl
      · skip
        refine swl_app ?_
        refine s_on rfl rfl ?_
        refine s_pu (pu_not rfl) ?_
        first | refine s_pu (pu_pick_t rfl rfl) ?_ | refine s_pu (pu_pick_f rfl rfl) ?_
        refine swl_sub _ (sc0 0 rfl (sc0 1 rfl (sc0 3 rfl (sc0 5 rfl (sc0 27 rfl .nil))))) ?_
        refine swl_nn ?_
        refine swp_cond (b := _) rfl (fun h27 => ?_) (fun h27 => by cases h27)
        refine swp_ret ?_
        refine then_r ?_
        refine block_r ?_
        refine then_r ?_
        refine block_r ?_
        exact done_end [X, blk b 9 [.string (str s)]] .nil (.inr rfl) sp0
  · skip   -- 10 F
    have h10' := of_decide_eq_false h10
    obtain rfl : pos = s.length := by omega
    rw [List.drop_length, scan_nil, List.append_nil] at hsc
    refine swp_exit ?_
    refine then_x ?_
    refine then_x ?_
    refine block_hit rfl ?_
    exact done_end [I pre, blk b 9 [.string (str s)]] .nil (.inl ⟨pre, hsc.symm, rfl⟩) sp0
theorem each_spec (s : List UInt8) : Spec Tryz.prog 81 [.string (str s)] [] (fun r L => ∃ b, r = .func (.func 119) #[] #[pv b] ∧ L = [blk b 9 [.string (str s)]]) := by
  refine Spec.of 4 Tryz.func81 rfl rfl rfl ?_
  refine swp_sr ?_
  refine s_ef (ef_box rfl rfl) ?_
  intro b1
  refine s_as rfl ?_
  refine swl_sub _ (sc0 1 rfl .nil) ?_
  refine swl_nn ?_
  refine swp_sr ?_
  refine s_pu (pu_func (vs := []) (us := [_]) rfl rfl) ?_
  refine s_as rfl ?_
  refine swl_sub _ (sc0 2 rfl .nil) ?_
  refine swl_nn ?_
  refine swp_ret ?_
  exact done_ret [blk b1 9 [.string (str s)]] (.tmp rfl .nil) ⟨b1, rfl, rfl⟩ sp0
/-- records, taken in turn -/
def stands : St2 → List Fm → Option St2
  | s, [] => some s
  | s, f :: l => match stand1 s f with | none => none | some s' => stands s' l
/-- the records from the front that can stand, and their size -/
def runS : St2 → List Fm → St2 × Nat
  | s, [] => (s, 0)
  | s, f :: l => match stand1 s f with | none => (s, 0) | some s' => ((runS s' l).1, f.2.length + 9 + (runS s' l).2)
theorem stands_snoc : ∀ {s s' s'' : St2} {l : List Fm} {f : Fm}, stands s l = some s' → stand1 s' f = some s'' → stands s (l ++ [f]) = some s''
  | s, s', s'', [], f, h1, h2 => by
    cases h1
    show (match stand1 s f with | none => none | some s' => stands s' []) = _
    rw [h2]; rfl
  | s, s', s'', g :: l, f, h1, h2 => by
    rw [stands] at h1
    rw [List.cons_append, stands]
    cases hg : stand1 s g with
    | none => rw [hg] at h1; cases h1
    | some t =>
      rw [hg] at h1
      exact stands_snoc h1 h2
theorem runS_app : ∀ {s s' : St2} {a b : List Fm}, stands s a = some s' → runS s (a ++ b) = ((runS s' b).1, sizeF a + (runS s' b).2)
  | s, s', [], b, h => by cases h; rw [List.nil_append]; exact Prod.ext rfl (Nat.zero_add _).symm
  | s, s', f :: a, b, h => by
    rw [stands] at h
    rw [List.cons_append, runS]
    cases hg : stand1 s f with
    | none => rw [hg] at h; cases h
    | some t =>
      rw [hg] at h
      show ((runS t (a ++ b)).1, f.2.length + 9 + (runS t (a ++ b)).2) = _
      rw [runS_app h]
      refine Prod.ext rfl ?_
      show f.2.length + 9 + (sizeF a + (runS s' b).2) = sizeF ([f] ++ a) + (runS s' b).2
      rw [sizeF_app]
      show _ = f.2.length + 9 + 0 + sizeF a + _
      omega
theorem runS_all {s s' : St2} {a : List Fm} (h : stands s a = some s') : runS s a = (s', sizeF a) := by
  have := runS_app (b := []) h
  rw [List.append_nil] at this
  rw [this]; rfl
theorem runS_stop {s s' : St2} {a b : List Fm} {f : Fm} (h : stands s a = some s') (h2 : stand1 s' f = none) : runS s (a ++ f :: b) = (s', sizeF a) := by
  rw [runS_app h]
  rw [runS, h2]
  rfl
end SX
