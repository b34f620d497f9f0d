/- A part of the proof: walks of the seat's functions, by the rules of the texts that it imports. -/
import Derived.Test.YtfbfmokgpdmcfaaDoorMdM10
namespace SX
open Go Go.Proofs

/-- the bools of a set of n -/
def rbs (n : Nat) (S : Nat → Bool) : List Value := (List.range n).map fun k => .bool (S k)
theorem rbs_len (n : Nat) (S : Nat → Bool) : (rbs n S).length = n := by simp [rbs]
theorem rbs_get {n k : Nat} (S : Nat → Bool) (h : k < n) : (rbs n S)[k]? = some (.bool (S k)) := by simp [rbs, h]
/-- the document's set, laid open -/
abbrev rop (p b n : Nat) (S : Nat → Bool) : List Assn := [blk p 39 [.slice (some ⟨b, 0, none⟩) n n], blk b 4 (rbs n S)]
theorem rnew (k : Int) : Spec Tryd.prog 23 [.int .i64 k] [] (fun r L => ∃ p b, r = .pointer (some ⟨p, 0, none⟩) ∧ L = rop p b (clampM k) (fun _ => false)) := by
  have hc : min (max k 0) 1048576 = ((clampM k : Nat) : Int) := by unfold clampM; omega
  have hle : clampM k ≤ 1048576 := by unfold clampM; omega
  generalize clampM k = n at hc hle
  have hr : rbs n (fun _ => false) = List.replicate n (.bool false) := by
    apply List.ext_getElem?
    intro j
    simp [rbs, List.getElem?_replicate]
    split <;> simp_all
  refine Spec.of 11 Tryd.func23 rfl rfl rfl ?_
  refine swp_seq ?_
  refine swp_region ?_
  refine s_pu (pu_assign rfl) ?_
  refine swl_sub _ (.cons (t := 0) rfl .nil) ?_
  refine swl_nil ?_
  refine then_n ?_
  refine swp_seq ?_
  refine swp_seq ?_
  refine swp_region ?_
  refine s_pu (pu_move rfl) ?_
  refine s_pu (pu_lss rfl rfl) ?_
  refine swl_sub _ (.cons (t := 0) rfl (.cons (t := 4) rfl .nil)) ?_
  refine swl_nil ?_
  refine then_n ?_
  refine swp_cond (b := _) rfl (fun h4 => ?_) (fun h4 => ?_)
  · skip   -- 4 T
    refine swp_region ?_
    refine s_pu (pu_assign rfl) ?_
    refine swl_sub _ (.cons (t := 0) rfl .nil) ?_
    refine swl_nil ?_
    refine then_n ?_
    refine swp_seq ?_
    refine swp_seq ?_
    refine swp_region ?_
    refine s_pu (pu_move rfl) ?_
    refine s_pu (pu_gtr rfl rfl) ?_
    refine swl_sub _ (.cons (t := 0) rfl (.cons (t := 6) rfl .nil)) ?_
    refine swl_nil ?_
    refine then_n ?_
    refine swp_cond (b := _) rfl (fun h6 => ?_) (fun h6 => ?_)
    · skip   -- 6 T
      refine swp_region ?_
      refine s_pu (pu_assign rfl) ?_
      refine swl_sub _ (.cons (t := 0) rfl .nil) ?_
      refine swl_nil ?_
      refine then_n ?_
      refine swp_seq ?_
      refine swp_region ?_
      refine s_pu (pu_move rfl) ?_
      refine s_ef (ef_make1 n rfl rfl (by have a4 := h4; have a6 := h6; simp only [decide_eq_true_eq, decide_eq_false_iff_not] at a4 a6; omega) (by omega) (by simp only [maxLen]; omega)) ?_
      rintro b
      skip
      refine s_pu (pu_bld (qs := [(0, _)]) rfl) ?_
      refine s_ef (ef_box rfl rfl) ?_
      intro b10
      refine s_pu (pu_assign rfl) ?_
      refine swl_sub _ (.cons (t := 2) rfl .nil) ?_
      refine swl_nil ?_
      refine then_n ?_
      refine swp_ret ?_
      rw [← hr]
      exact done_ret (rop b10 b n (fun _ => false)) (.tmp rfl .nil) ⟨b10, b, rfl, rfl⟩ (by repeat (first | exact Split.nil | (apply Split.cons; (repeat (first | with_reducible exact Take.here | apply Take.there)))))
    · skip   -- 6 F
      refine swp_skip ?_
      refine then_n ?_
      refine swp_seq ?_
      refine swp_region ?_
      refine s_pu (pu_move rfl) ?_
      refine s_ef (ef_make1 n rfl rfl (by have a4 := h4; have a6 := h6; simp only [decide_eq_true_eq, decide_eq_false_iff_not] at a4 a6; omega) (by omega) (by simp only [maxLen]; omega)) ?_
      rintro b
      skip
      refine s_pu (pu_bld (qs := [(0, _)]) rfl) ?_
      refine s_ef (ef_box rfl rfl) ?_
      intro b10
      refine s_pu (pu_assign rfl) ?_
      refine swl_sub _ (.cons (t := 2) rfl .nil) ?_
      refine swl_nil ?_
      refine then_n ?_
      refine swp_ret ?_
      rw [← hr]
      exact done_ret (rop b10 b n (fun _ => false)) (.tmp rfl .nil) ⟨b10, b, rfl, rfl⟩ (by repeat (first | exact Split.nil | (apply Split.cons; (repeat (first | with_reducible exact Take.here | apply Take.there)))))
  · skip   -- 4 F
    refine swp_skip ?_
    refine then_n ?_
    refine swp_seq ?_
    refine swp_seq ?_
    refine swp_region ?_
    refine s_pu (pu_move rfl) ?_
    refine s_pu (pu_gtr rfl rfl) ?_
    refine swl_sub _ (.cons (t := 0) rfl (.cons (t := 6) rfl .nil)) ?_
    refine swl_nil ?_
    refine then_n ?_
    refine swp_cond (b := _) rfl (fun h6 => ?_) (fun h6 => ?_)
    · skip   -- 6 T
      refine swp_region ?_
      refine s_pu (pu_assign rfl) ?_
      refine swl_sub _ (.cons (t := 0) rfl .nil) ?_
      refine swl_nil ?_
      refine then_n ?_
      refine swp_seq ?_
      refine swp_region ?_
      refine s_pu (pu_move rfl) ?_
      refine s_ef (ef_make1 n rfl rfl (by have a4 := h4; have a6 := h6; simp only [decide_eq_true_eq, decide_eq_false_iff_not] at a4 a6; omega) (by omega) (by simp only [maxLen]; omega)) ?_
      rintro b
      skip
      refine s_pu (pu_bld (qs := [(0, _)]) rfl) ?_
      refine s_ef (ef_box rfl rfl) ?_
      intro b10
      refine s_pu (pu_assign rfl) ?_
      refine swl_sub _ (.cons (t := 2) rfl .nil) ?_
      refine swl_nil ?_
      refine then_n ?_
      refine swp_ret ?_
      rw [← hr]
      exact done_ret (rop b10 b n (fun _ => false)) (.tmp rfl .nil) ⟨b10, b, rfl, rfl⟩ (by repeat (first | exact Split.nil | (apply Split.cons; (repeat (first | with_reducible exact Take.here | apply Take.there)))))
    · skip   -- 6 F
      refine swp_skip ?_
      refine then_n ?_
      refine swp_seq ?_
      refine swp_region ?_
      refine s_pu (pu_move rfl) ?_
      refine s_ef (ef_make1 n rfl rfl (by have a4 := h4; have a6 := h6; simp only [decide_eq_true_eq, decide_eq_false_iff_not] at a4 a6; omega) (by omega) (by simp only [maxLen]; omega)) ?_
      rintro b
      skip
      refine s_pu (pu_bld (qs := [(0, _)]) rfl) ?_
      refine s_ef (ef_box rfl rfl) ?_
      intro b10
      refine s_pu (pu_assign rfl) ?_
      refine swl_sub _ (.cons (t := 2) rfl .nil) ?_
      refine swl_nil ?_
      refine then_n ?_
      refine swp_ret ?_
      rw [← hr]
      exact done_ret (rop b10 b n (fun _ => false)) (.tmp rfl .nil) ⟨b10, b, rfl, rfl⟩ (by repeat (first | exact Split.nil | (apply Split.cons; (repeat (first | with_reducible exact Take.here | apply Take.there)))))

/-- how many of a set -/
theorem cnt_eq {n : Nat} {S : Nat → Bool} (hz : ∀ k, n ≤ k → S k = false) {B : Nat} (hB : n ≤ B) : (elsTo n S).length = (List.range B).countP S := by
  have h0 : (elsTo n S).length = (List.range n).countP S := by unfold elsTo numsI; rw [List.length_map, List.countP_eq_length_filter]
  rw [h0]
  obtain ⟨d, rfl⟩ : ∃ d, B = n + d := ⟨B - n, by omega⟩
  rw [List.range_add, List.countP_append]
  have : ((List.range d).map (n + ·)).countP S = 0 := by
    rw [List.countP_eq_zero]
    intro x hx
    obtain ⟨y, _, rfl⟩ := List.mem_map.1 hx
    rw [hz _ (by omega)]; decide
  omega
theorem countP_split (S T : Nat → Bool) : ∀ l : List Nat, l.countP S = l.countP (fun k => S k && T k) + l.countP (fun k => S k && !T k)
  | [] => rfl
  | a :: l => by
    simp only [List.countP_cons, countP_split S T l]
    cases S a <;> cases T a <;> simp <;> omega
theorem countP_union (S T : Nat → Bool) : ∀ l : List Nat, l.countP (fun k => S k || T k) + l.countP (fun k => S k && T k) = l.countP S + l.countP T
  | [] => rfl
  | a :: l => by
    have h := countP_union S T l
    simp only [List.countP_cons]
    cases S a <;> cases T a <;> simp <;> omega
theorem countP_same {S T : Nat → Bool} {l : List Nat} (hs : ∀ k, S k = true → T k = true) (h : l.countP S = l.countP T) : ∀ k ∈ l, S k = T k := by
  have h1 := countP_split T S l
  have h2 : (fun k => T k && S k) = S := funext fun k => by
    cases e : S k with
    | false => simp
    | true => simp [hs k e]
  rw [h2] at h1
  have h3 : l.countP (fun k => T k && !S k) = 0 := by omega
  rw [List.countP_eq_zero] at h3
  intro k hk
  have h4 := h3 k hk
  cases e : S k with
  | true => exact (hs k e).symm
  | false => rw [e] at h4; simpa using h4
theorem cnt_same {n m : Nat} {S T : Nat → Bool} (hs : ∀ k, S k = true → T k = true) (hz : ∀ k, n ≤ k → S k = false) (hy : ∀ k, m ≤ k → T k = false) : (∀ k, S k = T k) ↔ (elsTo n S).length = (elsTo m T).length := by
  rw [cnt_eq hz (Nat.le_max_left n m), cnt_eq hy (Nat.le_max_right n m)]
  constructor
  · intro h; rw [show S = T from funext h]
  · intro h k
    by_cases hk : k < max n m
    · exact countP_same hs h k (List.mem_range.2 hk)
    · rw [hz k (by omega), hy k (by omega)]
theorem cnt_less {n m : Nat} {S T : Nat → Bool} (hs : ∀ k, S k = true → T k = true) (hz : ∀ k, n ≤ k → S k = false) (hy : ∀ k, m ≤ k → T k = false) : (elsTo m (fun k => T k && !S k)).length + (elsTo n S).length = (elsTo m T).length := by
  have h1 := countP_split T S (List.range (max n m))
  have h2 : (fun k => T k && S k) = S := funext fun k => by
    cases e : S k with
    | false => simp
    | true => simp [hs k e]
  rw [h2] at h1
  rw [cnt_eq hz (Nat.le_max_left n m), cnt_eq hy (Nat.le_max_right n m), cnt_eq (n := m) (fun k hk => by rw [hy k hk]; rfl) (Nat.le_max_right n m)]
  omega
end SX
