/- A part of the proof: walks of the seat's functions, by the rules of the texts that it imports. -/
import Derived.Test.YtfbfmokgpdmcfaaDoorMdM9
namespace SX
open Go Go.Proofs

theorem mset_fact {p n : Nat} {S : Nat → Bool} {L : List Assn} {m : PH} (h : Sat (mset p n S :: L) m) : n ≤ 1048576 ∧ ∀ k, n ≤ k → S k = false := by
  obtain ⟨x, hx⟩ := exA_open h
  exact ⟨x.2.2.1, x.2.2.2.2⟩
theorem spec_same {f : FuncId} {args : List Value} {p n : Nat} {S T U : Nat → Bool} {R : List Assn} (h : Spec Tryd.prog f args (mset p n S :: R) (fun r L => r = .tuple #[] ∧ L = mset p n T :: R)) (hU : (∀ k, n ≤ k → S k = false) → ∀ k, T k = U k) : Spec Tryd.prog f args (mset p n S :: R) (fun r L => r = .tuple #[] ∧ L = mset p n U :: R) := by
  refine Spec.fact' (fun m hm => (mset_fact hm).2) fun hz => Spec.mono h ?_
  rintro r L ⟨rfl, rfl⟩
  rw [show T = U from funext (hU hz)]
  exact ⟨rfl, rfl⟩
theorem cut_out {n : Nat} {S : Nat → Bool} (hz : ∀ k, n ≤ k → S k = false) (b : Bool) (k : Nat) : (decide (k < n) && (S k && b)) = (S k && b) := by
  by_cases h : k < n
  · simp [h]
  · rw [hz k (by omega)]; simp
theorem cut_id {n : Nat} {S : Nat → Bool} (hz : ∀ k, n ≤ k → S k = false) (k : Nat) : (decide (k < n) && S k) = S k := by
  have := cut_out hz true k; rwa [Bool.and_true] at this
theorem or_none' (p n : Nat) (S : Nat → Bool) : Spec Tryd.prog 26 [.pointer (some ⟨p, 0, none⟩), .pointer none] [mset p n S] (fun r L => r = .tuple #[] ∧ L = [mset p n S]) := spec_same (or_none p n S) (fun hz k => by rw [Bool.or_false, cut_id hz])
theorem less_none' (p n : Nat) (S : Nat → Bool) : Spec Tryd.prog 29 [.pointer (some ⟨p, 0, none⟩), .pointer none] [mset p n S] (fun r L => r = .tuple #[] ∧ L = [mset p n S]) := spec_same (less_none p n S) (fun hz k => by rw [Bool.not_false, Bool.and_true, cut_id hz])
theorem and_none' (p n : Nat) (S : Nat → Bool) : Spec Tryd.prog 28 [.pointer (some ⟨p, 0, none⟩), .pointer none] [mset p n S] (fun r L => r = .tuple #[] ∧ L = [mset p n (fun _ => false)]) := spec_same (and_none p n S) (fun _ k => by simp)
theorem and_m' (p n q m : Nat) (S T : Nat → Bool) : Spec Tryd.prog 28 [.pointer (some ⟨p, 0, none⟩), .pointer (some ⟨q, 0, none⟩)] [mset p n S, mset q m T] (fun r L => r = .tuple #[] ∧ L = [mset p n (fun k => S k && T k), mset q m T]) := spec_same (and_m p n q m S T) (fun hz k => cut_out hz _ k)
theorem less_m' (p n q m : Nat) (S T : Nat → Bool) : Spec Tryd.prog 29 [.pointer (some ⟨p, 0, none⟩), .pointer (some ⟨q, 0, none⟩)] [mset p n S, mset q m T] (fun r L => r = .tuple #[] ∧ L = [mset p n (fun k => S k && !T k), mset q m T]) := spec_same (less_m p n q m S T) (fun hz k => cut_out hz _ k)
theorem or_self' (p n : Nat) (S : Nat → Bool) : Spec Tryd.prog 26 [.pointer (some ⟨p, 0, none⟩), .pointer (some ⟨p, 0, none⟩)] [mset p n S] (fun r L => r = .tuple #[] ∧ L = [mset p n S]) := spec_same (or_self p n S) (fun hz k => by rw [Bool.or_self, cut_id hz])
theorem and_self' (p n : Nat) (S : Nat → Bool) : Spec Tryd.prog 28 [.pointer (some ⟨p, 0, none⟩), .pointer (some ⟨p, 0, none⟩)] [mset p n S] (fun r L => r = .tuple #[] ∧ L = [mset p n S]) := spec_same (and_self p n S) (fun hz k => by rw [Bool.and_self, cut_id hz])
theorem less_self' (p n : Nat) (S : Nat → Bool) : Spec Tryd.prog 29 [.pointer (some ⟨p, 0, none⟩), .pointer (some ⟨p, 0, none⟩)] [mset p n S] (fun r L => r = .tuple #[] ∧ L = [mset p n (fun _ => false)]) := spec_same (less_self p n S) (fun _ k => by simp)

theorem elsTo_false (n : Nat) : elsTo n (fun _ => false) = [] := by unfold elsTo; simp [numsI]
theorem elsTo_zero {n : Nat} {S : Nat → Bool} (hz : ∀ k, n ≤ k → S k = false) : (elsTo n S).length = 0 ↔ ∀ k, S k = false := by
  constructor
  · intro h k
    by_cases hk : k < n
    · cases hs : S k with
      | false => rfl
      | true =>
        have h1 : k ∈ (List.range n).filter S := List.mem_filter.2 ⟨List.mem_range.2 hk, hs⟩
        have h2 : (List.range n).filter S = [] := by
          have := List.eq_nil_of_length_eq_zero h
          unfold elsTo numsI at this
          exact List.map_eq_nil_iff.1 this
        rw [h2] at h1; cases h1
    · exact hz k (by omega)
  · intro h
    have : S = fun _ => false := funext h
    rw [this, elsTo_false]; rfl
theorem inL_out (l : List Int) (n : Nat) (k : Nat) (h : n ≤ k) : inL l n k = false := by
  unfold inL; rw [decide_eq_false (by omega)]; rfl
theorem mset_zero {b : Nat} {L : List Assn} : Ent (blk b 52 [.int .i64 0, .slice none 0 0] :: L) (mset b 0 (fun _ => false) :: L) :=
  (Ent.cons own_nil_ent).trans (mset_close (n := 0) (v := .slice none 0 0) (ws := []) ⟨rfl, by decide, fun k => by simp [mem], fun _ _ => rfl⟩)
theorem bool_iff {b c : Bool} {p : Prop} (h1 : b = true ↔ p) (h2 : c = true ↔ p) : b = c := by
  cases b <;> cases c <;> simp_all

set_option maxHeartbeats 2000000 in
theorem none_spec (μ : PH) (n : Int) (lv : Value) (l : List Int) (hT : RowAt μ 0 0 tabV) (hl : Row μ lv 1 l.length (l.flatMap (icsk .i64))) : Spec Tryd.prog 7 [.int .i64 n, lv] [ro μ] (fun v L => v = .bool true ∧ ∃ μ' R, Le μ μ' ∧ L = ro μ' :: R) := by
  have hc : clampM ((500 : Nat) : Int) = 500 := by decide
  have hof := of_spec μ lv l ((500 : Nat) : Int) hl
  rw [hc] at hof
  have hz0 := elsTo_zero (inL_out l 500)
  refine Spec.of 122 Tryd.func7 rfl rfl rfl ?_
  refine swp_seq ?_
  refine swp_region ?_
  refine s_pu (pu_assign rfl) ?_
  refine swl_sub _ (.cons (t := 0) rfl (.cons (t := 1) rfl .nil)) ?_
  refine swl_nil ?_
  refine then_n ?_
  refine swp_seq ?_
  refine swp_seq ?_
  refine swp_region ?_
  refine s_ef (ef_fn (holds_spec μ hT) rfl rfl (by repeat (first | exact Split.nil | (apply Split.cons; (repeat (first | with_reducible exact Take.here | apply Take.there)))))) ?_
  rintro v1 L1 ⟨rfl, rfl⟩
  refine swl_app ?_
  refine s_pu (pu_not rfl) ?_
  refine swl_sub _ (.cons (t := 0) rfl (.cons (t := 1) rfl (.cons (t := 10) rfl .nil))) ?_
  refine swl_nil ?_
  refine then_n ?_
  refine swp_cond (b := _) rfl (fun h10 => absurd h10 (by decide)) (fun h10 => ?_)
  refine swp_skip ?_
  refine then_n ?_
  refine swp_seq ?_
  refine swp_region ?_
  refine s_pu (pu_assign rfl) ?_
  refine swl_sub _ (.cons (t := 0) rfl (.cons (t := 1) rfl (.cons (t := 5) rfl .nil))) ?_
  refine swl_nil ?_
  refine then_n ?_
  refine swp_seq ?_
  refine swp_region ?_
  refine s_pu (pu_move rfl) ?_
  refine s_ef (ef_fn hof rfl rfl (by repeat (first | exact Split.nil | (apply Split.cons; (repeat (first | with_reducible exact Take.here | apply Take.there)))))) ?_
  rintro v1 L1 ⟨p, rfl, rfl⟩
  refine swl_app ?_
  refine s_pu (pu_bld (qs := []) rfl) ?_
  refine s_ef (ef_box rfl rfl) ?_
  intro b14
  refine s_pu (pu_assign rfl) ?_
  refine s_pu (pu_assign rfl) ?_
  refine swl_sub _ (.cons (t := 0) rfl (.cons (t := 5) rfl (.cons (t := 6) rfl (.cons (t := 7) rfl .nil)))) ?_
  refine swl_ent (mset_zero (b := b14)) ?_
  refine swl_nil ?_
  refine then_n ?_
  refine swp_seq ?_
  refine swp_region ?_
  refine s_pu (pu_move rfl) ?_
  refine s_ef (ef_fn (count_m p 500 (inL l 500)) rfl rfl (by repeat (first | exact Split.nil | (apply Split.cons; (repeat (first | with_reducible exact Take.here | apply Take.there)))))) ?_
  rintro v1 L1 ⟨rfl, rfl⟩
  refine swl_app ?_
  refine s_pu (pu_assign rfl) ?_
  refine swl_sub _ (.cons (t := 0) rfl (.cons (t := 5) rfl (.cons (t := 6) rfl (.cons (t := 7) rfl (.cons (t := 8) rfl .nil))))) ?_
  refine swl_nil ?_
  refine then_n ?_
  refine swp_seq ?_
  refine swp_region ?_
  refine s_pu (pu_move rfl) ?_
  refine s_pu (pu_move rfl) ?_
  refine s_ef (ef_fn (or_none' p 500 (inL l 500)) rfl rfl (by repeat (first | exact Split.nil | (apply Split.cons; (repeat (first | with_reducible exact Take.here | apply Take.there)))))) ?_
  rintro v1 L1 ⟨rfl, rfl⟩
  refine swl_app ?_
  refine swl_sub _ (.cons (t := 0) rfl (.cons (t := 5) rfl (.cons (t := 6) rfl (.cons (t := 7) rfl (.cons (t := 8) rfl .nil))))) ?_
  refine swl_nil ?_
  refine then_n ?_
  refine swp_seq ?_
  refine swp_region ?_
  refine s_pu (pu_move rfl) ?_
  refine s_pu (pu_move rfl) ?_
  refine s_ef (ef_fn (less_none' p 500 (inL l 500)) rfl rfl (by repeat (first | exact Split.nil | (apply Split.cons; (repeat (first | with_reducible exact Take.here | apply Take.there)))))) ?_
  rintro v1 L1 ⟨rfl, rfl⟩
  refine swl_app ?_
  refine swl_sub _ (.cons (t := 0) rfl (.cons (t := 5) rfl (.cons (t := 6) rfl (.cons (t := 7) rfl (.cons (t := 8) rfl .nil))))) ?_
  refine swl_nil ?_
  refine then_n ?_
  refine swp_seq ?_
  refine swp_seq ?_
  refine swp_region ?_
  refine s_pu (pu_move rfl) ?_
  refine s_ef (ef_fn (count_m p 500 (inL l 500)) rfl rfl (by repeat (first | exact Split.nil | (apply Split.cons; (repeat (first | with_reducible exact Take.here | apply Take.there)))))) ?_
  rintro v1 L1 ⟨rfl, rfl⟩
  refine swl_app ?_
  refine s_pu (pu_move rfl) ?_
  refine s_pu (pu_neq rfl rfl) ?_
  refine s_pu (pu_move rfl) ?_
  refine s_split 27 rfl (fun h27 => by simp at h27) (fun h27 => ?_)
  refine s_on rfl rfl ?_
  refine s_pu (pu_move rfl) ?_
  refine s_on rfl rfl ?_
  refine s_ef (ef_fn size_nil rfl rfl (by repeat (first | exact Split.nil | (apply Split.cons; (repeat (first | with_reducible exact Take.here | apply Take.there)))))) ?_
  rintro v1 L1 ⟨rfl, rfl⟩
  refine swl_app ?_
  refine s_on rfl rfl ?_
  refine s_pu (pu_neq rfl rfl) ?_
  first | refine s_pu (pu_pick_t rfl rfl) ?_ | refine s_pu (pu_pick_f rfl rfl) ?_
  refine s_pu (pu_move rfl) ?_
  refine s_on rfl rfl ?_
  refine s_pu (pu_move rfl) ?_
  refine s_on rfl rfl ?_
  refine s_pu (pu_move rfl) ?_
  refine s_on rfl rfl ?_
  refine s_ef (ef_fn (put_nil n) rfl rfl (by repeat (first | exact Split.nil | (apply Split.cons; (repeat (first | with_reducible exact Take.here | apply Take.there)))))) ?_
  rintro v1 L1 ⟨rfl, rfl⟩
  refine swl_app ?_
  first | refine s_pu (pu_pick_t rfl rfl) ?_ | refine s_pu (pu_pick_f rfl rfl) ?_
  refine s_pu (pu_move rfl) ?_
  refine s_on rfl rfl ?_
  refine s_pu (pu_move rfl) ?_
  refine s_on rfl rfl ?_
  refine s_pu (pu_move rfl) ?_
  refine s_on rfl rfl ?_
  refine s_ef (ef_fn (drop_nil n) rfl rfl (by repeat (first | exact Split.nil | (apply Split.cons; (repeat (first | with_reducible exact Take.here | apply Take.there)))))) ?_
  rintro v1 L1 ⟨rfl, rfl⟩
  refine swl_app ?_
  first | refine s_pu (pu_pick_t rfl rfl) ?_ | refine s_pu (pu_pick_f rfl rfl) ?_
  refine s_pu (pu_move rfl) ?_
  refine s_on rfl rfl ?_
  refine s_pu (pu_move rfl) ?_
  refine s_on rfl rfl ?_
  refine s_pu (pu_move rfl) ?_
  refine s_on rfl rfl ?_
  refine s_ef (ef_fn (has_nil n) rfl rfl (by repeat (first | exact Split.nil | (apply Split.cons; (repeat (first | with_reducible exact Take.here | apply Take.there)))))) ?_
  rintro v1 L1 ⟨rfl, rfl⟩
  refine swl_app ?_
  first | refine s_pu (pu_pick_t rfl rfl) ?_ | refine s_pu (pu_pick_f rfl rfl) ?_
  refine s_pu (pu_move rfl) ?_
  refine s_on rfl rfl ?_
  refine s_pu (pu_move rfl) ?_
  refine s_on rfl rfl ?_
  refine s_ef (ef_fn count_nil rfl rfl (by repeat (first | exact Split.nil | (apply Split.cons; (repeat (first | with_reducible exact Take.here | apply Take.there)))))) ?_
  rintro v1 L1 ⟨rfl, rfl⟩
  refine swl_app ?_
  refine s_on rfl rfl ?_
  refine s_pu (pu_neq rfl rfl) ?_
  first | refine s_pu (pu_pick_t rfl rfl) ?_ | refine s_pu (pu_pick_f rfl rfl) ?_
  refine s_pu (pu_move rfl) ?_
  refine s_on rfl rfl ?_
  refine s_pu (pu_move rfl) ?_
  refine s_on rfl rfl ?_
  refine s_pu (pu_move rfl) ?_
  refine s_on rfl rfl ?_
  refine s_ef (ef_fn (next_nil n) rfl rfl (by repeat (first | exact Split.nil | (apply Split.cons; (repeat (first | with_reducible exact Take.here | apply Take.there)))))) ?_
  rintro v1 L1 ⟨rfl, rfl⟩
  refine swl_app ?_
  refine s_on rfl rfl ?_
  refine s_pu (pu_neq rfl rfl) ?_
  first | refine s_pu (pu_pick_t rfl rfl) ?_ | refine s_pu (pu_pick_f rfl rfl) ?_
  refine s_pu (pu_move rfl) ?_
  refine s_on rfl rfl ?_
  refine s_pu (pu_move rfl) ?_
  refine s_on rfl rfl ?_
  refine s_pu (pu_move rfl) ?_
  refine s_on rfl rfl ?_
  refine s_ef (ef_fn (last_nil n) rfl rfl (by repeat (first | exact Split.nil | (apply Split.cons; (repeat (first | with_reducible exact Take.here | apply Take.there)))))) ?_
  rintro v1 L1 ⟨rfl, rfl⟩
  refine swl_app ?_
  refine s_on rfl rfl ?_
  refine s_pu (pu_neq rfl rfl) ?_
  first | refine s_pu (pu_pick_t rfl rfl) ?_ | refine s_pu (pu_pick_f rfl rfl) ?_
  refine s_pu (pu_move rfl) ?_
  refine s_on rfl rfl ?_
  refine s_pu (pu_move rfl) ?_
  refine s_on rfl rfl ?_
  refine s_ef (ef_fn list_nil rfl rfl (by repeat (first | exact Split.nil | (apply Split.cons; (repeat (first | with_reducible exact Take.here | apply Take.there)))))) ?_
  rintro v1 L1 ⟨rfl, rfl⟩
  refine swl_app ?_
  refine s_on rfl rfl ?_
  refine s_pu (pu_len rfl) ?_
  refine s_on rfl rfl ?_
  refine s_pu (pu_neq rfl rfl) ?_
  first | refine s_pu (pu_pick_t rfl rfl) ?_ | refine s_pu (pu_pick_f rfl rfl) ?_
  refine s_pu (pu_move rfl) ?_
  refine s_on rfl rfl ?_
  refine s_pu (pu_move rfl) ?_
  refine s_on rfl rfl ?_
  refine s_ef (ef_fn copy_nil rfl rfl (by repeat (first | exact Split.nil | (apply Split.cons; (repeat (first | with_reducible exact Take.here | apply Take.there)))))) ?_
  rintro v1 L1 ⟨rfl, rfl⟩
  refine swl_app ?_
  refine s_on rfl rfl ?_
  refine s_pu (pu_ptr_ne_nil rfl rfl) ?_
  first | refine s_pu (pu_pick_t rfl rfl) ?_ | refine s_pu (pu_pick_f rfl rfl) ?_
  refine swl_sub _ (.cons (t := 0) rfl (.cons (t := 5) rfl (.cons (t := 6) rfl (.cons (t := 7) rfl (.cons (t := 8) rfl (.cons (t := 74) rfl .nil)))))) ?_
  refine swl_nil ?_
  refine then_n ?_
  refine swp_cond (b := _) rfl (fun h74 => absurd h74 (by decide)) (fun h74 => ?_)
  refine swp_skip ?_
  refine then_n ?_
  refine swp_seq ?_
  refine swp_region ?_
  refine s_pu (pu_move rfl) ?_
  refine s_pu (pu_move rfl) ?_
  refine s_ef (ef_fn (or_nil _) rfl rfl (by repeat (first | exact Split.nil | (apply Split.cons; (repeat (first | with_reducible exact Take.here | apply Take.there)))))) ?_
  rintro v1 L1 ⟨rfl, rfl⟩
  refine swl_app ?_
  refine swl_sub _ (.cons (t := 0) rfl (.cons (t := 5) rfl (.cons (t := 6) rfl (.cons (t := 7) rfl (.cons (t := 8) rfl .nil))))) ?_
  refine swl_nil ?_
  refine then_n ?_
  refine swp_seq ?_
  refine swp_region ?_
  refine s_pu (pu_move rfl) ?_
  refine s_pu (pu_move rfl) ?_
  refine s_ef (ef_fn (and_nil _) rfl rfl (by repeat (first | exact Split.nil | (apply Split.cons; (repeat (first | with_reducible exact Take.here | apply Take.there)))))) ?_
  rintro v1 L1 ⟨rfl, rfl⟩
  refine swl_app ?_
  refine swl_sub _ (.cons (t := 0) rfl (.cons (t := 5) rfl (.cons (t := 6) rfl (.cons (t := 7) rfl (.cons (t := 8) rfl .nil))))) ?_
  refine swl_nil ?_
  refine then_n ?_
  refine swp_seq ?_
  refine swp_region ?_
  refine s_pu (pu_move rfl) ?_
  refine s_pu (pu_move rfl) ?_
  refine s_ef (ef_fn (less_nil _) rfl rfl (by repeat (first | exact Split.nil | (apply Split.cons; (repeat (first | with_reducible exact Take.here | apply Take.there)))))) ?_
  rintro v1 L1 ⟨rfl, rfl⟩
  refine swl_app ?_
  refine swl_sub _ (.cons (t := 0) rfl (.cons (t := 5) rfl (.cons (t := 6) rfl (.cons (t := 7) rfl (.cons (t := 8) rfl .nil))))) ?_
  refine swl_nil ?_
  refine then_n ?_
  refine swp_seq ?_
  refine swp_seq ?_
  refine swp_region ?_
  refine s_pu (pu_move rfl) ?_
  refine s_pu (pu_move rfl) ?_
  refine s_ef (ef_fn (put_out b14 0 (fun _ => false) n (by omega)) rfl rfl (by repeat (first | exact Split.nil | (apply Split.cons; (repeat (first | with_reducible exact Take.here | apply Take.there)))))) ?_
  rintro v1 L1 ⟨rfl, rfl⟩
  refine swl_app ?_
  refine s_pu (pu_move rfl) ?_
  refine s_on rfl rfl ?_
  refine s_pu (pu_move rfl) ?_
  refine s_on rfl rfl ?_
  refine s_ef (ef_fn (size_m b14 0 (fun _ => false)) rfl rfl (by repeat (first | exact Split.nil | (apply Split.cons; (repeat (first | with_reducible exact Take.here | apply Take.there)))))) ?_
  rintro v1 L1 ⟨rfl, rfl⟩
  refine swl_app ?_
  refine s_on rfl rfl ?_
  refine s_pu (pu_neq rfl rfl) ?_
  first | refine s_pu (pu_pick_t rfl rfl) ?_ | refine s_pu (pu_pick_f rfl rfl) ?_
  refine s_pu (pu_move rfl) ?_
  refine s_on rfl rfl ?_
  refine s_pu (pu_move rfl) ?_
  refine s_on rfl rfl ?_
  refine s_pu (pu_move rfl) ?_
  refine s_on rfl rfl ?_
  refine s_ef (ef_fn (next_m μ b14 0 (fun _ => false) n hT) rfl rfl (by repeat (first | exact Split.nil | (apply Split.cons; (repeat (first | with_reducible exact Take.here | apply Take.there)))))) ?_
  rintro v1 L1 ⟨x, rfl, hx, rfl⟩
  refine swl_app ?_
  obtain rfl : x = -1 := isNext_uniq hx (.inl ⟨rfl, fun _ _ => rfl⟩)
  refine s_on rfl rfl ?_
  refine s_pu (pu_neq rfl rfl) ?_
  first | refine s_pu (pu_pick_t rfl rfl) ?_ | refine s_pu (pu_pick_f rfl rfl) ?_
  refine s_pu (pu_move rfl) ?_
  refine s_on rfl rfl ?_
  refine s_pu (pu_move rfl) ?_
  refine s_on rfl rfl ?_
  refine s_pu (pu_move rfl) ?_
  refine s_on rfl rfl ?_
  refine s_ef (ef_fn (same_mn b14 0 (fun _ => false)) rfl rfl (by repeat (first | exact Split.nil | (apply Split.cons; (repeat (first | with_reducible exact Take.here | apply Take.there)))))) ?_
  rintro v1 L1 ⟨b, rfl, hb, rfl⟩
  refine swl_app ?_
  obtain rfl : b = true := hb.2 (fun _ => rfl)
  refine s_on rfl rfl ?_
  refine s_pu (pu_not rfl) ?_
  first | refine s_pu (pu_pick_t rfl rfl) ?_ | refine s_pu (pu_pick_f rfl rfl) ?_
  refine s_pu (pu_move rfl) ?_
  refine s_on rfl rfl ?_
  refine s_pu (pu_move rfl) ?_
  refine s_on rfl rfl ?_
  refine s_pu (pu_move rfl) ?_
  refine s_on rfl rfl ?_
  refine s_ef (ef_fn (same_mn p 500 (inL l 500)) rfl rfl (by repeat (first | exact Split.nil | (apply Split.cons; (repeat (first | with_reducible exact Take.here | apply Take.there)))))) ?_
  rintro v1 L1 ⟨b, rfl, hb, rfl⟩
  refine swl_app ?_
  have hbe : b = decide (((elsTo 500 (inL l 500)).length : Int) = 0) := bool_iff hb (by rw [decide_eq_true_eq, ← hz0]; omega)
  refine s_on rfl rfl ?_
  refine s_pu (pu_move rfl) ?_
  refine s_on rfl rfl ?_
  refine s_pu (pu_eql rfl rfl) ?_
  refine s_on rfl rfl ?_
  refine s_pu (pu_bool_ne rfl rfl) ?_
  first | refine s_pu (pu_pick_t rfl rfl) ?_ | refine s_pu (pu_pick_f rfl rfl) ?_
  refine s_pu (pu_move rfl) ?_
  refine s_split 112 rfl (fun h112 => by rw [hbe, beq_self_eq_true] at h112; cases h112) (fun h112 => ?_)
  refine s_on rfl rfl ?_
  refine s_ef (ef_fn (same_nn (mset b14 0 (fun _ => false))) rfl rfl (by repeat (first | exact Split.nil | (apply Split.cons; (repeat (first | with_reducible exact Take.here | apply Take.there)))))) ?_
  rintro v1 L1 ⟨b, rfl, hb, rfl⟩
  refine swl_app ?_
  obtain rfl : b = true := hb.2 trivial
  refine s_on rfl rfl ?_
  refine s_pu (pu_not rfl) ?_
  first | refine s_pu (pu_pick_t rfl rfl) ?_ | refine s_pu (pu_pick_f rfl rfl) ?_
  refine swl_sub _ (.cons (t := 5) rfl (.cons (t := 6) rfl (.cons (t := 115) rfl .nil))) ?_
  refine swl_nil ?_
  refine then_n ?_
  refine swp_cond (b := _) rfl (fun h115 => absurd h115 (by decide)) (fun h115 => ?_)
  refine swp_skip ?_
  refine then_n ?_
  refine swp_seq ?_
  refine swp_region ?_
  refine s_pu (pu_move rfl) ?_
  refine s_pu (pu_move rfl) ?_
  refine s_ef (ef_fn (and_none' p 500 (inL l 500)) rfl rfl (by repeat (first | exact Split.nil | (apply Split.cons; (repeat (first | with_reducible exact Take.here | apply Take.there)))))) ?_
  rintro v1 L1 ⟨rfl, rfl⟩
  refine swl_app ?_
  refine swl_sub _ (.cons (t := 6) rfl .nil) ?_
  refine swl_nil ?_
  refine then_n ?_
  refine swp_seq ?_
  refine swp_region ?_
  refine s_pu (pu_move rfl) ?_
  refine s_ef (ef_fn (count_m p 500 (fun _ => false)) rfl rfl (by repeat (first | exact Split.nil | (apply Split.cons; (repeat (first | with_reducible exact Take.here | apply Take.there)))))) ?_
  rintro v1 L1 ⟨rfl, rfl⟩
  refine swl_app ?_
  refine s_pu (pu_eql rfl rfl) ?_
  refine s_pu (pu_assign rfl) ?_
  refine swl_sub _ (.cons (t := 4) rfl .nil) ?_
  refine swl_nil ?_
  refine then_n ?_
  refine swp_ret ?_
  exact done_ret [ro μ] (.tmp rfl .nil) ⟨by rw [elsTo_false]; rfl, μ, [], Le.refl _, rfl⟩ (by repeat (first | exact Split.nil | (apply Split.cons; (repeat (first | with_reducible exact Take.here | apply Take.there)))))
end SX
