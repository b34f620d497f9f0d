/- A part of the proof: walks of the seat's functions, by the rules of the texts that it imports. -/
import Derived.Test.YtfbfmokgpdmcfaaDoorMdM8
import Derived.Test.YtfbfmokgpdmcfaaDoorSxLaw2
namespace SX
open Go Go.Proofs

theorem Row.form' {μ : PH} {v : Value} {n l : Nat} {xs : List Value} (h : Row μ v n l xs) : ∃ A cap, v = .slice A l cap := by
  obtain ⟨_, A, cap, e, _⟩ := h; exact ⟨A, cap, e⟩
theorem isNext_uniq {S : Nat → Bool} {k x y : Int} (h1 : IsNext S k x) (h2 : IsNext S k y) : x = y := by
  rcases h1 with ⟨rfl, a⟩ | ⟨i, rfl, a, b, c⟩ <;> rcases h2 with ⟨rfl, a'⟩ | ⟨j, rfl, a', b', c'⟩
  · rfl
  · rw [a j a'] at b'; cases b'
  · rw [a' i a] at b; cases b
  · rcases Nat.lt_trichotomy i j with h | h | h
    · rw [c' i a h] at b; cases b
    · rw [h]
    · rw [c j a' h] at b'; cases b'
theorem isLast_uniq {S : Nat → Bool} {k x y : Int} (h1 : IsLast S k x) (h2 : IsLast S k y) : x = y := by
  rcases h1 with ⟨rfl, a⟩ | ⟨i, rfl, a, b, c⟩ <;> rcases h2 with ⟨rfl, a'⟩ | ⟨j, rfl, a', b', c'⟩
  · rfl
  · rw [a j a'] at b'; cases b'
  · rw [a' i a] at b; cases b
  · rcases Nat.lt_trichotomy i j with h | h | h
    · rw [c j h a'] at b'; cases b'
    · rw [h]
    · rw [c' i h a] at b; cases b
theorem put_c (p n : Nat) (S T : Nat → Bool) (k : Nat) (b : Bool) (hk : k < n) (hb : S k = b) (hT : ∀ j, T j = (S j || decide (j = k))) : Spec Tryd.prog 31 [.pointer (some ⟨p, 0, none⟩), .int .i64 (k : Nat)] [mset p n S] (fun r L => r = .bool (!b) ∧ L = [mset p n T]) := by
  refine Spec.mono (put_m p n S k) ?_
  rintro r L ⟨rfl, rfl⟩
  constructor
  · rw [Int.toNat_natCast, hb, decide_eq_true (show (0 : Int) ≤ k by omega), decide_eq_true (show (k : Int) < n by omega)]; simp
  · congr 2
    funext j
    rw [hT, Int.toNat_natCast, decide_eq_true (show (0 : Int) ≤ k ∧ (k : Int) < n by omega), Bool.true_and]
theorem put_out (p n : Nat) (S : Nat → Bool) (k : Int) (hk : k < 0 ∨ (n : Int) ≤ k) : Spec Tryd.prog 31 [.pointer (some ⟨p, 0, none⟩), .int .i64 k] [mset p n S] (fun r L => r = .bool false ∧ L = [mset p n S]) := by
  refine Spec.mono (put_m p n S k) ?_
  rintro r L ⟨rfl, rfl⟩
  constructor
  · rcases hk with hk | hk
    · rw [decide_eq_false (by omega)]; rfl
    · rw [decide_eq_false (show ¬ k < n by omega), Bool.false_and, Bool.and_false]
  · congr 2
    funext j
    rw [decide_eq_false (show ¬ (0 ≤ k ∧ k < n) by omega), Bool.false_and, Bool.or_false]
theorem has_c (p n : Nat) (S : Nat → Bool) (k : Nat) (b : Bool) (hb : S k = b) : Spec Tryd.prog 18 [.pointer (some ⟨p, 0, none⟩), .int .i64 (k : Nat)] [mset p n S] (fun r L => r = .bool b ∧ L = [mset p n S]) := by
  refine Spec.mono (has_m p n S k) ?_
  rintro r L ⟨rfl, rfl⟩
  refine ⟨?_, rfl⟩
  rw [Int.toNat_natCast, hb, decide_eq_true (by omega), Bool.true_and]
theorem new_c (k n : Nat) (hk : k = n) (hn : n ≤ 1048576) : Spec Tryd.prog 22 [.int .i64 (k : Nat)] [] (fun r L => ∃ p, r = .pointer (some ⟨p, 0, none⟩) ∧ L = [mset p n (fun _ => false)]) := by
  have h := new_m (k : Int)
  have e : clampM (k : Int) = n := by unfold clampM; omega
  rwa [e] at h

def hT3 : Nat → Bool := fun j => decide (j = 3)
def hT64 : Nat → Bool := fun j => decide (j = 3) || decide (j = 64)
set_option maxHeartbeats 1000000 in
theorem holds_spec (μ : PH) (hT : RowAt μ 0 0 tabV) : Spec Tryd.prog 13 [] [ro μ] (fun r L => r = .bool true ∧ L = [ro μ]) := by
  refine Spec.of 50 Tryd.func13 rfl rfl rfl ?_
  refine swp_seq ?_
  refine swp_region ?_
  refine s_pu (pu_assign rfl) ?_
  refine swl_sub _ .nil ?_
  refine swl_nil ?_
  refine then_n ?_
  refine swp_seq ?_
  refine swp_region ?_
  refine s_ef (ef_fn (new_c 100 100 rfl (by decide)) rfl rfl (by repeat (first | exact Split.nil | (apply Split.cons; (repeat (first | with_reducible exact Take.here | apply Take.there)))))) ?_
  rintro v1 L1 ⟨p, rfl, rfl⟩
  refine swl_app ?_
  refine s_pu (pu_assign rfl) ?_
  refine swl_sub _ (.cons (t := 1) rfl .nil) ?_
  refine swl_nil ?_
  refine then_n ?_
  refine swp_seq ?_
  refine swp_seq ?_
  refine swp_region ?_
  refine s_pu (pu_move rfl) ?_
  refine s_pu (pu_ptr_eq_nil rfl rfl) ?_
  refine s_pu (pu_move rfl) ?_
  refine s_on rfl rfl ?_
  refine s_pu (pu_move rfl) ?_
  refine s_on rfl rfl ?_
  refine s_ef (ef_fn (put_c p 100 (fun _ => false) hT3 3 false (by decide) rfl (fun j => by simp [hT3])) rfl rfl (by repeat (first | exact Split.nil | (apply Split.cons; (repeat (first | with_reducible exact Take.here | apply Take.there)))))) ?_
  rintro v1 L1 ⟨rfl, rfl⟩
  refine swl_app ?_
  refine s_on rfl rfl ?_
  refine s_pu (pu_not rfl) ?_
  first | refine s_pu (pu_pick_t rfl rfl) ?_ | refine s_pu (pu_pick_f rfl rfl) ?_
  refine s_pu (pu_move rfl) ?_
  refine s_on rfl rfl ?_
  refine s_pu (pu_move rfl) ?_
  refine s_on rfl rfl ?_
  refine s_ef (ef_fn (put_c p 100 hT3 hT3 3 true (by decide) rfl (fun j => by simp [hT3])) rfl rfl (by repeat (first | exact Split.nil | (apply Split.cons; (repeat (first | with_reducible exact Take.here | apply Take.there)))))) ?_
  rintro v1 L1 ⟨rfl, rfl⟩
  refine swl_app ?_
  first | refine s_pu (pu_pick_t rfl rfl) ?_ | refine s_pu (pu_pick_f rfl rfl) ?_
  refine s_pu (pu_move rfl) ?_
  refine s_on rfl rfl ?_
  refine s_pu (pu_move rfl) ?_
  refine s_on rfl rfl ?_
  refine s_ef (ef_fn (put_out p 100 hT3 100 (.inr (by decide))) rfl rfl (by repeat (first | exact Split.nil | (apply Split.cons; (repeat (first | with_reducible exact Take.here | apply Take.there)))))) ?_
  rintro v1 L1 ⟨rfl, rfl⟩
  refine swl_app ?_
  first | refine s_pu (pu_pick_t rfl rfl) ?_ | refine s_pu (pu_pick_f rfl rfl) ?_
  refine s_pu (pu_move rfl) ?_
  refine s_on rfl rfl ?_
  refine s_pu (pu_move rfl) ?_
  refine s_on rfl rfl ?_
  refine s_ef (ef_fn (put_c p 100 hT3 hT64 64 false (by decide) rfl (fun j => rfl)) rfl rfl (by repeat (first | exact Split.nil | (apply Split.cons; (repeat (first | with_reducible exact Take.here | apply Take.there)))))) ?_
  rintro v1 L1 ⟨rfl, rfl⟩
  refine swl_app ?_
  refine s_on rfl rfl ?_
  refine s_pu (pu_not rfl) ?_
  first | refine s_pu (pu_pick_t rfl rfl) ?_ | refine s_pu (pu_pick_f rfl rfl) ?_
  refine swl_sub _ (.cons (t := 1) rfl (.cons (t := 22) rfl .nil)) ?_
  refine swl_nil ?_
  refine then_n ?_
  refine swp_cond (b := _) rfl (fun h22 => absurd h22 (by decide)) (fun h22 => ?_)
  refine swp_skip ?_
  refine then_n ?_
  refine swp_seq ?_
  refine swp_region ?_
  refine s_pu (pu_move rfl) ?_
  refine s_ef (ef_fn (count_m p 100 hT64) rfl rfl (by repeat (first | exact Split.nil | (apply Split.cons; (repeat (first | with_reducible exact Take.here | apply Take.there)))))) ?_
  rintro v1 L1 ⟨rfl, rfl⟩
  refine swl_app ?_
  rw [show (elsTo 100 hT64).length = 2 by decide +kernel]
  refine s_pu (pu_eql rfl rfl) ?_
  refine s_pu (pu_move rfl) ?_
  refine s_on rfl rfl ?_
  refine s_pu (pu_move rfl) ?_
  refine s_on rfl rfl ?_
  refine s_ef (ef_fn (next_m μ p 100 hT64 4 hT) rfl rfl (by repeat (first | exact Split.nil | (apply Split.cons; (repeat (first | with_reducible exact Take.here | apply Take.there)))))) ?_
  rintro v1 L1 ⟨x, rfl, hx, rfl⟩
  refine swl_app ?_
  obtain rfl : x = 64 := isNext_uniq hx (.inr ⟨64, rfl, by decide, by decide, fun i h1 h2 => by
    have h3 : i ≠ 3 := by omega
    have h4 : i ≠ 64 := by omega
    simp [hT64, h3, h4]⟩)
  refine s_on rfl rfl ?_
  refine s_pu (pu_eql rfl rfl) ?_
  first | refine s_pu (pu_pick_t rfl rfl) ?_ | refine s_pu (pu_pick_f rfl rfl) ?_
  refine s_pu (pu_move rfl) ?_
  refine s_on rfl rfl ?_
  refine s_pu (pu_move rfl) ?_
  refine s_on rfl rfl ?_
  refine s_ef (ef_fn (next_m μ p 100 hT64 65 hT) rfl rfl (by repeat (first | exact Split.nil | (apply Split.cons; (repeat (first | with_reducible exact Take.here | apply Take.there)))))) ?_
  rintro v1 L1 ⟨x, rfl, hx, rfl⟩
  refine swl_app ?_
  obtain rfl : x = -1 := isNext_uniq hx (.inl ⟨rfl, fun i h1 => by
    have h3 : i ≠ 3 := by omega
    have h4 : i ≠ 64 := by omega
    simp [hT64, h3, h4]⟩)
  refine s_on rfl rfl ?_
  refine s_pu (pu_eql rfl rfl) ?_
  first | refine s_pu (pu_pick_t rfl rfl) ?_ | refine s_pu (pu_pick_f rfl rfl) ?_
  refine s_pu (pu_move rfl) ?_
  refine s_on rfl rfl ?_
  refine s_pu (pu_move rfl) ?_
  refine s_on rfl rfl ?_
  refine s_ef (ef_fn (last_m p 100 hT64 63) rfl rfl (by repeat (first | exact Split.nil | (apply Split.cons; (repeat (first | with_reducible exact Take.here | apply Take.there)))))) ?_
  rintro v1 L1 ⟨x, rfl, hx, rfl⟩
  refine swl_app ?_
  obtain rfl : x = 3 := isLast_uniq hx (.inr ⟨3, rfl, by decide, by decide, fun i h1 h2 => by
    have h3 : i ≠ 3 := by omega
    have h4 : i ≠ 64 := by omega
    simp [hT64, h3, h4]⟩)
  refine s_on rfl rfl ?_
  refine s_pu (pu_eql rfl rfl) ?_
  first | refine s_pu (pu_pick_t rfl rfl) ?_ | refine s_pu (pu_pick_f rfl rfl) ?_
  refine s_pu (pu_move rfl) ?_
  refine s_on rfl rfl ?_
  refine s_pu (pu_move rfl) ?_
  refine s_on rfl rfl ?_
  refine s_ef (ef_fn (has_c p 100 hT64 64 true (by decide)) rfl rfl (by repeat (first | exact Split.nil | (apply Split.cons; (repeat (first | with_reducible exact Take.here | apply Take.there)))))) ?_
  rintro v1 L1 ⟨rfl, rfl⟩
  refine swl_app ?_
  first | refine s_pu (pu_pick_t rfl rfl) ?_ | refine s_pu (pu_pick_f rfl rfl) ?_
  refine s_pu (pu_move rfl) ?_
  refine s_on rfl rfl ?_
  refine s_pu (pu_move rfl) ?_
  refine s_on rfl rfl ?_
  refine s_ef (ef_fn (has_c p 100 hT64 65 false (by decide)) rfl rfl (by repeat (first | exact Split.nil | (apply Split.cons; (repeat (first | with_reducible exact Take.here | apply Take.there)))))) ?_
  rintro v1 L1 ⟨rfl, rfl⟩
  refine swl_app ?_
  refine s_on rfl rfl ?_
  refine s_pu (pu_not rfl) ?_
  first | refine s_pu (pu_pick_t rfl rfl) ?_ | refine s_pu (pu_pick_f rfl rfl) ?_
  refine s_pu (pu_assign rfl) ?_
  refine swl_sub _ (.cons (t := 0) rfl .nil) ?_
  refine swl_nil ?_
  refine then_n ?_
  refine swp_ret ?_
  exact done_ret [ro μ] (.tmp rfl .nil) ⟨rfl, rfl⟩ (by repeat (first | exact Split.nil | (apply Split.cons; (repeat (first | with_reducible exact Take.here | apply Take.there)))))

/-- the numbers of a list that a set of n may have -/
def inL (l : List Int) (n : Nat) (j : Nat) : Bool := decide (j < n) && decide ((j : Int) ∈ l)
theorem inL_snoc (l : List Int) (n : Nat) (x : Int) (j : Nat) : inL (l ++ [x]) n j = (inL l n j || (decide (0 ≤ x ∧ x < n) && decide (j = x.toNat))) := by
  unfold inL
  rw [Bool.eq_iff_iff]
  simp only [Bool.and_eq_true, Bool.or_eq_true, decide_eq_true_eq, List.mem_append, List.mem_singleton]
  constructor
  · rintro ⟨h, h1 | h1⟩
    · exact .inl ⟨h, h1⟩
    · exact .inr (by omega)
  · rintro (⟨h, h1⟩ | h)
    · exact ⟨h, .inl h1⟩
    · exact ⟨by omega, .inr (by omega)⟩
theorem of_spec (μ : PH) (lv : Value) (l : List Int) (k : Int) (hl : Row μ lv 1 l.length (l.flatMap (icsk .i64))) : Spec Tryd.prog 14 [.int .i64 k, lv] [ro μ]
    (fun r L => ∃ p, r = .pointer (some ⟨p, 0, none⟩) ∧ L = [mset p (clampM k) (inL l (clampM k)), ro μ]) := by
  have hb : l.length ≤ maxLen := by obtain ⟨_, _, _, _, h1, h2, _⟩ := hl; omega
  simp only [maxLen] at hb
  obtain ⟨A, cap, hlv⟩ := hl.form'
  subst hlv
  refine Spec.of 21 Tryd.func14 rfl rfl rfl ?_
  refine swp_seq ?_
  refine swp_region ?_
  refine s_pu (pu_assign rfl) ?_
  refine swl_sub _ (.cons (t := 0) rfl (.cons (t := 1) rfl .nil)) ?_
  refine swl_nil ?_
  refine then_n ?_
  refine swp_seq ?_
  refine swp_region ?_
  refine s_pu (pu_move rfl) ?_
  refine s_ef (ef_fn (new_m k) rfl rfl (by repeat (first | exact Split.nil | (apply Split.cons; (repeat (first | with_reducible exact Take.here | apply Take.there)))))) ?_
  rintro v1 L1 ⟨p, rfl, rfl⟩
  refine swl_app ?_
  refine s_pu (pu_assign rfl) ?_
  refine swl_sub _ (.cons (t := 1) rfl (.cons (t := 5) rfl .nil)) ?_
  refine swl_nil ?_
  refine then_n ?_
  refine swp_seq ?_
  refine swp_seq ?_
  refine swp_region ?_
  refine s_pu (pu_move rfl) ?_
  refine s_pu (pu_len rfl) ?_
  refine s_pu (pu_move rfl) ?_
  refine swl_sub _ (.cons (t := 5) rfl (.cons (t := 10) rfl (.cons (t := 11) rfl (.cons (t := 12) rfl .nil)))) ?_
  refine swl_nil ?_
  refine then_n ?_
  refine swp_block ?_
  refine swp_loop (ι := Nat) (fun i env L => env = [(5, .pointer (some ⟨p, 0, none⟩)), (10, .slice A l.length cap), (11, .int .i64 (l.length : Nat)), (12, .int .i64 (i : Nat))] ∧ L = [mset p (clampM k) (inL (l.take i) (clampM k)), ro μ] ∧ i ≤ l.length) (fun i => l.length - i) 0 ⟨rfl, ?_, Nat.zero_le _⟩ ?_
  · have e : inL (l.take 0) (clampM k) = fun _ => false := by funext j; simp [inL]
    rw [e]
  rintro i env L ⟨rfl, rfl, hi⟩
  refine swp_seq ?_
  refine swp_region ?_
  refine s_pu (pu_lss rfl rfl) ?_
  refine swl_sub _ (.cons (t := 5) rfl (.cons (t := 10) rfl (.cons (t := 11) rfl (.cons (t := 12) rfl (.cons (t := 13) rfl .nil))))) ?_
  refine swl_nil ?_
  refine then_n ?_
  refine swp_seq ?_
  refine swp_cond (b := _) rfl (fun h13 => ?_) (fun h13 => ?_)
  · skip   -- 13 T
    have h13' : i < l.length := by have := of_decide_eq_true h13; omega
    obtain ⟨gb, off, cap', hv, c1, c2, hr⟩ := hl.pos (by omega)
    simp only [Value.slice.injEq, true_and] at hv
    obtain ⟨rfl, rfl⟩ := hv
    obtain ⟨x, hx⟩ : ∃ x, l[i]? = some x := ⟨_, List.getElem?_eq_getElem h13'⟩
    have hrk := hr.elem (icsk_len .i64) hx
    refine swp_skip ?_
    refine then_n ?_
    refine swp_seq ?_
    refine swp_block ?_
    refine swp_seq ?_
    refine swp_region ?_
    refine s_pu (pu_indexAddr (off + i * 1) rfl rfl (by omega) (by omega) (by rw [Int.toNat_natCast])) ?_
    refine s_rd (rd_ro rfl hrk.cell) ?_
    refine s_pu (pu_assign rfl) ?_
    refine swl_sub _ (.cons (t := 5) rfl (.cons (t := 7) rfl (.cons (t := 10) rfl (.cons (t := 11) rfl (.cons (t := 12) rfl .nil))))) ?_
    refine swl_nil ?_
    refine then_n ?_
    refine swp_region ?_
    refine s_pu (pu_move rfl) ?_
    refine s_pu (pu_move rfl) ?_
    refine s_ef (ef_fn (put_m p (clampM k) _ x) rfl rfl (by repeat (first | exact Split.nil | (apply Split.cons; (repeat (first | with_reducible exact Take.here | apply Take.there)))))) ?_
    rintro v1 L1 ⟨rfl, rfl⟩
    refine swl_app ?_
    refine swl_sub _ (.cons (t := 5) rfl (.cons (t := 10) rfl (.cons (t := 11) rfl (.cons (t := 12) rfl .nil)))) ?_
    refine swl_nil ?_
    refine block_n ?_
    refine then_n ?_
    refine swp_region ?_
    refine s_pu (pu_add_as ((i + 1 : Nat) : Int) rfl rfl (by omega) (by omega) (by omega)) ?_
    refine s_pu (pu_move rfl) ?_
    refine swl_sub _ (.cons (t := 5) rfl (.cons (t := 10) rfl (.cons (t := 11) rfl (.cons (t := 12) rfl .nil)))) ?_
    refine swl_nil ?_
    refine then_n ⟨i + 1, ⟨rfl, ?_, h13'⟩, by omega⟩
    have e : l.take (i + 1) = l.take i ++ [x] := by rw [List.take_add_one, hx]; rfl
    rw [e]
    congr 2
    funext j
    exact (inL_snoc _ _ _ _).symm
  · skip   -- 13 F
    have h13' : i = l.length := by have := of_decide_eq_false h13; omega
    subst h13'
    rw [List.take_length]
    refine swp_exit ?_
    refine then_x ?_
    refine then_x ?_
    refine block_hit rfl ?_
    refine then_n ?_
    refine swp_seq ?_
    refine swp_region ?_
    refine s_pu (pu_move rfl) ?_
    refine s_pu (pu_assign rfl) ?_
    refine swl_sub _ (.cons (t := 4) rfl .nil) ?_
    refine swl_nil ?_
    refine then_n ?_
    refine swp_ret ?_
    exact done_ret [mset p (clampM k) (inL l (clampM k)), ro μ] (.tmp rfl .nil) ⟨p, rfl, rfl⟩ (by repeat (first | exact Split.nil | (apply Split.cons; (repeat (first | with_reducible exact Take.here | apply Take.there)))))
end SX
