/- A part of the proof: walks of the seat's functions, by the rules of the texts that it imports. -/
import Derived.Test.YtfbfmokgpdmcfaaDoorMdM1
namespace SX
open Go Go.Proofs

def ucs (w : BitVec 64) : List Value := [wv w]
theorem ucs_len (w : BitVec 64) : (ucs w).length = 1 := rfl
def wcells (ws : List (BitVec 64)) : List Value := ws.flatMap ucs
theorem wcells_len (ws : List (BitVec 64)) : (wcells ws).length = ws.length := by unfold wcells; rw [flat_length ucs_len, Nat.mul_one]
theorem wcells_get {ws : List (BitVec 64)} {ex : List Value} {i : Nat} {w : BitVec 64} (h : ws[i]? = some w) : (wcells ws ++ ex)[i]? = some (wv w) := by
  have := flat_get ucs_len ws ex i w h 0 (wv w) rfl
  rwa [Nat.mul_one, Nat.add_zero] at this
theorem wcells_set {ws : List (BitVec 64)} {ex : List Value} {i : Nat} {w : BitVec 64} (h : i < ws.length) : (wcells ws ++ ex).set i (wv w) = wcells (ws.set i w) ++ ex := by
  rw [List.set_append_left _ _ (by rw [wcells_len]; exact h)]
  congr 1
  apply List.ext_getElem?
  intro j
  have key : ∀ (ws : List (BitVec 64)) (j : Nat), (wcells ws)[j]? = (ws[j]?).map wv := by
    intro ws j
    cases hj : ws[j]? with
    | none =>
      rw [List.getElem?_eq_none_iff] at hj
      simp only [Option.map_none]
      rw [List.getElem?_eq_none_iff, wcells_len]; exact hj
    | some w => have := wcells_get (ex := []) hj; rwa [List.append_nil] at this
  rw [key, List.getElem?_set, List.getElem?_set, key, wcells_len]
  split
  · simp
  · rfl
/-- is bit k there? -/
def mem (ws : List (BitVec 64)) (k : Nat) : Bool := (ws.getD (k / 64) 0#64).getLsbD (k % 64)
theorem mem_at {ws : List (BitVec 64)} {i : Nat} {w : BitVec 64} (h : ws[i]? = some w) {k : Nat} (hk : k / 64 = i) : mem ws k = w.getLsbD (k % 64) := by
  unfold mem; rw [hk, List.getD_eq_getElem?_getD, h]; rfl
theorem bit_and_one (w : BitVec 64) (r : Nat) : (decide ((((w >>> r) &&& 1#64).toNat : Int) = 0)) = !w.getLsbD r := by
  have e : ((w >>> r) &&& 1#64).toNat = (w.getLsbD r).toNat := by
    rw [BitVec.toNat_and, BitVec.toNat_ushiftRight, show (1#64 : BitVec 64).toNat = 1 from rfl, Nat.and_one_is_mod, Nat.shiftRight_eq_div_pow]
    show _ = (w.toNat.testBit r).toNat
    rw [Nat.testBit_eq_decide_div_mod_eq]
    rcases Nat.mod_two_eq_zero_or_one (w.toNat / 2 ^ r) with h | h <;> simp [h]
  rw [e]
  cases w.getLsbD r <;> simp

/-- a set of n numbers, laid open: its struct and its words -/
abbrev opn (p n : Nat) (v : Value) (ws : List (BitVec 64)) : List Assn := [blk p 52 [.int .i64 (n : Nat), v], own 67 1 v ws.length (wcells ws)]
/-- the words of a set of n -/
def Wf (n : Nat) (ws : List (BitVec 64)) (S : Nat → Bool) : Prop := ws.length = (n + 63) / 64 ∧ n ≤ 1048576 ∧ (∀ k, mem ws k = S k) ∧ ∀ k, n ≤ k → S k = false
def mset (p n : Nat) (S : Nat → Bool) : Assn := exA fun x : {x : Value × List (BitVec 64) // Wf n x.2 S} => opn p n x.1.1 x.1.2
theorem mset_close {p n : Nat} {S : Nat → Bool} {v : Value} {ws : List (BitVec 64)} {L : List Assn} (h : Wf n ws S) : Ent (blk p 52 [.int .i64 (n : Nat), v] :: own 67 1 v ws.length (wcells ws) :: L) (mset p n S :: L) :=
  ent_ex (F := fun x : {x : Value × List (BitVec 64) // Wf n x.2 S} => opn p n x.1.1 x.1.2) ⟨(v, ws), h⟩ (by repeat (first | exact Split.nil | (apply Split.cons; (repeat (first | with_reducible exact Take.here | apply Take.there)))))
theorem wown_close {b cap : Nat} {ws : List (BitVec 64)} {ex : List Value} {L : List Assn} (h1 : ws.length ≤ cap) (h2 : cap ≤ maxLen) (h4 : ex.length = (cap - ws.length) * 1) :
    Ent (blk b 67 (wcells ws ++ ex) :: L) (own 67 1 (.slice (some ⟨b, 0, none⟩) ws.length cap) ws.length (wcells ws) :: L) := own_close (by rw [wcells_len, Nat.mul_one]) h4 h1 h2

theorem size_b (p n : Nat) (v : Value) : Spec Tryd.prog 16 [.pointer (some ⟨p, 0, none⟩)] [blk p 52 [.int .i64 (n : Nat), v]] (fun r L => r = .int .i64 (n : Nat) ∧ L = [blk p 52 [.int .i64 (n : Nat), v]]) := by
  refine Spec.of 9 Tryd.func16 rfl rfl rfl ?_
  refine swp_seq ?_
  refine swp_region ?_
  refine s_pu (pu_assign rfl) ?_
  refine swl_sub _ (.cons (t := 0) rfl .nil) ?_
  refine swl_nil ?_
  refine then_n ?_
  refine swp_seq ?_
  refine swp_seq ?_
  refine swp_region ?_
  refine s_pu (pu_move rfl) ?_
  refine s_pu (pu_ptr_eq_nil rfl rfl) ?_
  refine swl_sub _ (.cons (t := 0) rfl (.cons (t := 4) rfl .nil)) ?_
  refine swl_nil ?_
  refine then_n ?_
  refine swp_cond (b := _) rfl (fun h4 => by cases h4) (fun h4 => ?_)
  refine swp_skip ?_
  refine then_n ?_
  refine swp_seq ?_
  refine swp_region ?_
  refine s_pu (pu_move rfl) ?_
  first | refine s_pu (pu_nilCheck rfl) ?_ | refine s_pu (pu_nilCheck_fn rfl) ?_ | refine s_pu (pu_nilCheck_if rfl) ?_
  first | refine s_pu (pu_fieldAddr0 rfl) ?_ | refine s_pu (pu_fieldAddr rfl) ?_
  refine s_rd (rd_load rfl rfl) ?_
  refine s_pu (pu_assign rfl) ?_
  refine swl_sub _ (.cons (t := 2) rfl .nil) ?_
  refine swl_nil ?_
  refine then_n ?_
  refine swp_ret ?_
  exact done_ret _ (.tmp rfl .nil) ⟨rfl, rfl⟩ (by repeat (first | exact Split.nil | (apply Split.cons; (repeat (first | with_reducible exact Take.here | apply Take.there)))))
theorem size_nil : Spec Tryd.prog 16 [.pointer none] [] (fun r L => r = .int .i64 0 ∧ L = []) := by
  refine Spec.of 9 Tryd.func16 rfl rfl rfl ?_
  refine swp_seq ?_
  refine swp_region ?_
  refine s_pu (pu_assign rfl) ?_
  refine swl_sub _ (.cons (t := 0) rfl .nil) ?_
  refine swl_nil ?_
  refine then_n ?_
  refine swp_seq ?_
  refine swp_seq ?_
  refine swp_region ?_
  refine s_pu (pu_move rfl) ?_
  refine s_pu (pu_ptr_eq_nil rfl rfl) ?_
  refine swl_sub _ (.cons (t := 0) rfl (.cons (t := 4) rfl .nil)) ?_
  refine swl_nil ?_
  refine then_n ?_
  refine swp_cond (b := _) rfl (fun h4 => ?_) (fun h4 => by cases h4)
  refine swp_seq ?_
  refine swp_region ?_
  refine s_pu (pu_assign rfl) ?_
  refine swl_sub _ (.cons (t := 2) rfl .nil) ?_
  refine swl_nil ?_
  refine then_n ?_
  refine swp_ret ?_
  refine then_r ?_
  exact done_ret _ (.tmp rfl .nil) ⟨rfl, rfl⟩ (by repeat (first | exact Split.nil | (apply Split.cons; (repeat (first | with_reducible exact Take.here | apply Take.there)))))
theorem has_o (p n : Nat) (v : Value) (ws : List (BitVec 64)) (k : Int) (hl : ws.length = (n + 63) / 64) (hn : n ≤ 1048576) :
    Spec Tryd.prog 18 [.pointer (some ⟨p, 0, none⟩), .int .i64 k] (opn p n v ws) (fun r L => r = .bool (decide (0 ≤ k) && (decide (k < n) && mem ws k.toNat)) ∧ L = opn p n v ws) := by
  refine Spec.of 28 Tryd.func18 rfl rfl rfl ?_
  refine swp_seq ?_
  refine swp_region ?_
  refine s_pu (pu_assign rfl) ?_
  refine swl_sub _ (.cons (t := 0) rfl (.cons (t := 1) rfl .nil)) ?_
  refine swl_nil ?_
  refine then_n ?_
  refine swp_seq ?_
  refine swp_region ?_
  refine s_pu (pu_move rfl) ?_
  refine s_pu (pu_geq rfl rfl) ?_
  refine s_pu (pu_move rfl) ?_
  refine s_split 7 rfl (fun h7 => ?_) (fun h7 => ?_)
  · skip   -- 7 T
    refine s_on rfl rfl ?_
    refine s_pu (pu_move rfl) ?_
    refine s_on rfl rfl ?_
    refine s_pu (pu_move rfl) ?_
    refine s_on rfl rfl ?_
    refine s_ef (ef_fn (size_b p n v) rfl rfl (by repeat (first | exact Split.nil | (apply Split.cons; (repeat (first | with_reducible exact Take.here | apply Take.there)))))) ?_
    rintro v1 L1 ⟨rfl, rfl⟩
    refine swl_app ?_
    refine s_on rfl rfl ?_
    refine s_pu (pu_lss rfl rfl) ?_
    first | refine s_pu (pu_pick_t rfl rfl) ?_ | refine s_pu (pu_pick_f rfl rfl) ?_
    refine s_pu (pu_move rfl) ?_
    refine s_split 13 rfl (fun h13 => ?_) (fun h13 => ?_)
    · skip   -- 13 T
      have h7' := of_decide_eq_true h7
      have h13' := of_decide_eq_true h13
      obtain ⟨m, rfl⟩ : ∃ m : Nat, k = m := ⟨k.toNat, by omega⟩
      have hmi : m / 64 < ws.length := by omega
      obtain ⟨w, hw⟩ : ∃ w, ws[m / 64]? = some w := ⟨_, List.getElem?_eq_getElem hmi⟩
      refine swl_own (by repeat (first | with_reducible exact Take.here | apply Take.there)) (fun h0 l0 _ => by omega) (fun b cap ex hv h1 h2 h3 h4 => ?_)
      subst hv
      refine s_on rfl rfl ?_
      refine s_pu (pu_move rfl) ?_
      refine s_on rfl rfl ?_
      first | refine s_pu (pu_nilCheck rfl) ?_ | refine s_pu (pu_nilCheck_fn rfl) ?_ | refine s_pu (pu_nilCheck_if rfl) ?_
      refine s_on rfl rfl ?_
      first | refine s_pu (pu_fieldAddr0 rfl) ?_ | refine s_pu (pu_fieldAddr rfl) ?_
      refine s_on rfl rfl ?_
      refine s_rd (rd_load rfl rfl) ?_
      refine s_on rfl rfl ?_
      refine s_pu (pu_move rfl) ?_
      refine s_on rfl rfl ?_
      refine s_pu (pu_quo_as ((m / 64 : Nat) : Int) rfl rfl (by omega) (by omega) (by omega) (by omega)) ?_
      refine s_on rfl rfl ?_
      refine s_pu (pu_indexAddr (m / 64) rfl rfl (by omega) (by omega) (by omega)) ?_
      refine s_on rfl rfl ?_
      refine s_rd (rd_load rfl (wcells_get hw)) ?_
      refine s_on rfl rfl ?_
      refine s_pu (pu_move rfl) ?_
      refine s_on rfl rfl ?_
      refine s_pu (pu_rem_as ((m % 64 : Nat) : Int) rfl rfl (by omega) (by omega) (by omega)) ?_
      refine s_on rfl rfl ?_
      refine s_pu (pu_shr_w (a := w) (m % 64) rfl rfl (by omega)) ?_
      refine s_on rfl rfl ?_
      refine s_pu (pu_and_w (b := 1#64) rfl rfl) ?_
      refine s_on rfl rfl ?_
      refine s_pu (pu_neq rfl rfl) ?_
      first | refine s_pu (pu_pick_t rfl rfl) ?_ | refine s_pu (pu_pick_f rfl rfl) ?_
      refine s_pu (pu_assign rfl) ?_
      refine swl_sub _ (.cons (t := 4) rfl .nil) ?_
      refine swl_nil ?_
      refine then_n ?_
      refine swp_ret ?_
      exact done_retE (opn p n _ ws) (.tmp rfl .nil) ⟨by simp only [resV, h7, h13, Bool.true_and, Int.toNat_natCast]; rw [bit_and_one w _, Bool.not_not, mem_at hw rfl], rfl⟩
        ((Split.ent' (K := [blk b 67 (wcells ws ++ ex), blk p 52 [.int .i64 (n : Nat), .slice (some ⟨b, 0, none⟩) ws.length cap]]) (by repeat (first | exact Split.nil | (apply Split.cons; (repeat (first | with_reducible exact Take.here | apply Take.there)))))).trans ((wown_close h1 h2 h4).trans Ent.swap))
    · skip   -- 13 F
      refine s_off rfl rfl rfl ?_
      refine s_off rfl rfl rfl ?_
      refine s_off rfl rfl rfl ?_
      refine s_off rfl rfl rfl ?_
      refine s_off rfl rfl rfl ?_
      refine s_off rfl rfl rfl ?_
      refine s_off rfl rfl rfl ?_
      refine s_off rfl rfl rfl ?_
      refine s_off rfl rfl rfl ?_
      refine s_off rfl rfl rfl ?_
      refine s_off rfl rfl rfl ?_
      refine s_off rfl rfl rfl ?_
      refine s_off rfl rfl rfl ?_
      first | refine s_pu (pu_pick_t rfl rfl) ?_ | refine s_pu (pu_pick_f rfl rfl) ?_
      refine s_pu (pu_assign rfl) ?_
      refine swl_sub _ (.cons (t := 4) rfl .nil) ?_
      refine swl_nil ?_
      refine then_n ?_
      refine swp_ret ?_
      exact done_ret (opn p n v ws) (.tmp rfl .nil) ⟨by simp [resV, *], rfl⟩ (by repeat (first | exact Split.nil | (apply Split.cons; (repeat (first | with_reducible exact Take.here | apply Take.there)))))
  · skip   -- 7 F
    refine s_off rfl rfl rfl ?_
    refine s_off rfl rfl rfl ?_
    refine s_off rfl rfl rfl ?_
    refine s_off rfl rfl rfl ?_
    first | refine s_pu (pu_pick_t rfl rfl) ?_ | refine s_pu (pu_pick_f rfl rfl) ?_
    refine s_pu (pu_move rfl) ?_
    refine s_off rfl rfl rfl ?_
    refine s_off rfl rfl rfl ?_
    refine s_off rfl rfl rfl ?_
    refine s_off rfl rfl rfl ?_
    refine s_off rfl rfl rfl ?_
    refine s_off rfl rfl rfl ?_
    refine s_off rfl rfl rfl ?_
    refine s_off rfl rfl rfl ?_
    refine s_off rfl rfl rfl ?_
    refine s_off rfl rfl rfl ?_
    refine s_off rfl rfl rfl ?_
    refine s_off rfl rfl rfl ?_
    refine s_off rfl rfl rfl ?_
    first | refine s_pu (pu_pick_t rfl rfl) ?_ | refine s_pu (pu_pick_f rfl rfl) ?_
    refine s_pu (pu_assign rfl) ?_
    refine swl_sub _ (.cons (t := 4) rfl .nil) ?_
    refine swl_nil ?_
    refine then_n ?_
    refine swp_ret ?_
    exact done_ret (opn p n v ws) (.tmp rfl .nil) ⟨by simp [resV, *], rfl⟩ (by repeat (first | exact Split.nil | (apply Split.cons; (repeat (first | with_reducible exact Take.here | apply Take.there)))))
theorem has_nil (k : Int) : Spec Tryd.prog 18 [.pointer none, .int .i64 k] [] (fun r L => r = .bool false ∧ L = []) := by
  refine Spec.of 28 Tryd.func18 rfl rfl rfl ?_
  refine swp_seq ?_
  refine swp_region ?_
  refine s_pu (pu_assign rfl) ?_
  refine swl_sub _ (.cons (t := 0) rfl (.cons (t := 1) rfl .nil)) ?_
  refine swl_nil ?_
  refine then_n ?_
  refine swp_seq ?_
  refine swp_region ?_
  refine s_pu (pu_move rfl) ?_
  refine s_pu (pu_geq rfl rfl) ?_
  refine s_pu (pu_move rfl) ?_
  refine s_split 7 rfl (fun h7 => ?_) (fun h7 => ?_)
  · skip   -- 7 T
    refine s_on rfl rfl ?_
    refine s_pu (pu_move rfl) ?_
    refine s_on rfl rfl ?_
    refine s_pu (pu_move rfl) ?_
    refine s_on rfl rfl ?_
    refine s_ef (ef_fn size_nil rfl rfl (by repeat (first | exact Split.nil | (apply Split.cons; (repeat (first | with_reducible exact Take.here | apply Take.there)))))) ?_
    rintro v1 L1 ⟨rfl, rfl⟩
    refine swl_app ?_
    refine s_on rfl rfl ?_
    refine s_pu (pu_lss rfl rfl) ?_
    first | refine s_pu (pu_pick_t rfl rfl) ?_ | refine s_pu (pu_pick_f rfl rfl) ?_
    refine s_pu (pu_move rfl) ?_
    refine s_split 13 rfl (fun h13 => by have := of_decide_eq_true h13; have := of_decide_eq_true h7; omega) (fun h13 => ?_)
    refine s_off rfl rfl rfl ?_
    refine s_off rfl rfl rfl ?_
    refine s_off rfl rfl rfl ?_
    refine s_off rfl rfl rfl ?_
    refine s_off rfl rfl rfl ?_
    refine s_off rfl rfl rfl ?_
    refine s_off rfl rfl rfl ?_
    refine s_off rfl rfl rfl ?_
    refine s_off rfl rfl rfl ?_
    refine s_off rfl rfl rfl ?_
    refine s_off rfl rfl rfl ?_
    refine s_off rfl rfl rfl ?_
    refine s_off rfl rfl rfl ?_
    first | refine s_pu (pu_pick_t rfl rfl) ?_ | refine s_pu (pu_pick_f rfl rfl) ?_
    refine s_pu (pu_assign rfl) ?_
    refine swl_sub _ (.cons (t := 4) rfl .nil) ?_
    refine swl_nil ?_
    refine then_n ?_
    refine swp_ret ?_
    exact done_ret _ (.tmp rfl .nil) ⟨rfl, rfl⟩ (by repeat (first | exact Split.nil | (apply Split.cons; (repeat (first | with_reducible exact Take.here | apply Take.there)))))
  · skip   -- 7 F
    refine s_off rfl rfl rfl ?_
    refine s_off rfl rfl rfl ?_
    refine s_off rfl rfl rfl ?_
    refine s_off rfl rfl rfl ?_
    first | refine s_pu (pu_pick_t rfl rfl) ?_ | refine s_pu (pu_pick_f rfl rfl) ?_
    refine s_pu (pu_move rfl) ?_
    refine s_off rfl rfl rfl ?_
    refine s_off rfl rfl rfl ?_
    refine s_off rfl rfl rfl ?_
    refine s_off rfl rfl rfl ?_
    refine s_off rfl rfl rfl ?_
    refine s_off rfl rfl rfl ?_
    refine s_off rfl rfl rfl ?_
    refine s_off rfl rfl rfl ?_
    refine s_off rfl rfl rfl ?_
    refine s_off rfl rfl rfl ?_
    refine s_off rfl rfl rfl ?_
    refine s_off rfl rfl rfl ?_
    refine s_off rfl rfl rfl ?_
    first | refine s_pu (pu_pick_t rfl rfl) ?_ | refine s_pu (pu_pick_f rfl rfl) ?_
    refine s_pu (pu_assign rfl) ?_
    refine swl_sub _ (.cons (t := 4) rfl .nil) ?_
    refine swl_nil ?_
    refine then_n ?_
    refine swp_ret ?_
    exact done_ret _ (.tmp rfl .nil) ⟨rfl, rfl⟩ (by repeat (first | exact Split.nil | (apply Split.cons; (repeat (first | with_reducible exact Take.here | apply Take.there)))))
theorem word_o (p n : Nat) (v : Value) (ws : List (BitVec 64)) (i : Nat) (hi : i ≤ 1048576) :
    Spec Tryd.prog 60 [.pointer (some ⟨p, 0, none⟩), .int .i64 (i : Nat)] (opn p n v ws) (fun r L => r = wv (ws.getD i 0#64) ∧ L = opn p n v ws) := by
  refine Spec.of 23 Tryd.func60 rfl rfl rfl ?_
  refine swp_front (A := own 67 1 v ws.length (wcells ws)) (by repeat (first | with_reducible exact Take.here | apply Take.there)) ?_
  refine swp_fact (fun m h => own_form h) fun ⟨A, cap, hv⟩ => ?_
  subst hv
  refine swp_seq ?_
  refine swp_region ?_
  refine s_pu (pu_assign rfl) ?_
  refine swl_sub _ (.cons (t := 0) rfl (.cons (t := 1) rfl .nil)) ?_
  refine swl_nil ?_
  refine then_n ?_
  refine swp_seq ?_
  refine swp_seq ?_
  refine swp_region ?_
  refine s_pu (pu_move rfl) ?_
  refine s_pu (pu_ptr_eq_nil rfl rfl) ?_
  refine s_pu (pu_move rfl) ?_
  refine s_on rfl rfl ?_
  refine s_pu (pu_move rfl) ?_
  refine s_on rfl rfl ?_
  refine s_pu (pu_move rfl) ?_
  refine s_on rfl rfl ?_
  first | refine s_pu (pu_nilCheck rfl) ?_ | refine s_pu (pu_nilCheck_fn rfl) ?_ | refine s_pu (pu_nilCheck_if rfl) ?_
  refine s_on rfl rfl ?_
  first | refine s_pu (pu_fieldAddr0 rfl) ?_ | refine s_pu (pu_fieldAddr rfl) ?_
  refine s_on rfl rfl ?_
  refine s_rd (rd_load rfl rfl) ?_
  refine s_on rfl rfl ?_
  refine s_pu (pu_len rfl) ?_
  refine s_on rfl rfl ?_
  refine s_pu (pu_geq rfl rfl) ?_
  first | refine s_pu (pu_pick_t rfl rfl) ?_ | refine s_pu (pu_pick_f rfl rfl) ?_
  refine swl_sub _ (.cons (t := 0) rfl (.cons (t := 1) rfl (.cons (t := 15) rfl .nil))) ?_
  refine swl_nil ?_
  refine then_n ?_
  refine swp_cond (b := _) rfl (fun h15 => ?_) (fun h15 => ?_)
  · skip   -- 15 T
    have h15' := of_decide_eq_true h15
    refine swp_seq ?_
    refine swp_region ?_
    refine s_pu (pu_assign rfl) ?_
    refine swl_sub _ (.cons (t := 4) rfl .nil) ?_
    refine swl_nil ?_
    refine then_n ?_
    refine swp_ret ?_
    refine then_r ?_
    exact done_ret (opn p n _ ws) (.tmp rfl .nil) ⟨by rw [List.getD_eq_getElem?_getD, List.getElem?_eq_none (by omega)]; rfl, rfl⟩ (by repeat (first | exact Split.nil | (apply Split.cons; (repeat (first | with_reducible exact Take.here | apply Take.there)))))
  · skip   -- 15 F
    refine swp_skip ?_
    refine then_n ?_
    refine swp_seq ?_
    have h15' := of_decide_eq_false h15
    obtain ⟨w, hw⟩ : ∃ w, ws[i]? = some w := ⟨_, List.getElem?_eq_getElem (by omega)⟩
    refine swp_front (A := own 67 1 (.slice A ws.length cap) ws.length (wcells ws)) (by repeat (first | with_reducible exact Take.here | apply Take.there)) ?_
    refine swp_own (fun h0 l0 _ => by omega) (fun b cap' ex hv h1 h2 h3 h4 => ?_)
    cases hv
    refine swp_region ?_
    refine s_pu (pu_move rfl) ?_
    first | refine s_pu (pu_nilCheck rfl) ?_ | refine s_pu (pu_nilCheck_fn rfl) ?_ | refine s_pu (pu_nilCheck_if rfl) ?_
    first | refine s_pu (pu_fieldAddr0 rfl) ?_ | refine s_pu (pu_fieldAddr rfl) ?_
    refine s_rd (rd_load rfl rfl) ?_
    refine s_pu (pu_move rfl) ?_
    refine s_pu (pu_indexAddr i rfl rfl (by omega) (by omega) (by omega)) ?_
    refine s_rd (rd_load rfl (wcells_get hw)) ?_
    refine s_pu (pu_assign rfl) ?_
    refine swl_sub _ (.cons (t := 4) rfl .nil) ?_
    refine swl_nil ?_
    refine then_n ?_
    refine swp_ret ?_
    exact done_retE (opn p n _ ws) (.tmp rfl .nil) ⟨by rw [List.getD_eq_getElem?_getD, hw]; rfl, rfl⟩
      ((Split.ent' (K := [blk b 67 (wcells ws ++ ex), blk p 52 [.int .i64 (n : Nat), .slice (some ⟨b, 0, none⟩) ws.length cap]]) (by repeat (first | exact Split.nil | (apply Split.cons; (repeat (first | with_reducible exact Take.here | apply Take.there)))))).trans ((wown_close h1 h2 h4).trans Ent.swap))
theorem word_nil (i : Nat) : Spec Tryd.prog 60 [.pointer none, .int .i64 (i : Nat)] [] (fun r L => r = wv 0#64 ∧ L = []) := by
  refine Spec.of 23 Tryd.func60 rfl rfl rfl ?_
  refine swp_seq ?_
  refine swp_region ?_
  refine s_pu (pu_assign rfl) ?_
  refine swl_sub _ (.cons (t := 0) rfl (.cons (t := 1) rfl .nil)) ?_
  refine swl_nil ?_
  refine then_n ?_
  refine swp_seq ?_
  refine swp_seq ?_
  refine swp_region ?_
  refine s_pu (pu_move rfl) ?_
  refine s_pu (pu_ptr_eq_nil rfl rfl) ?_
  refine s_pu (pu_move rfl) ?_
  refine s_off rfl rfl rfl ?_
  refine s_off rfl rfl rfl ?_
  refine s_off rfl rfl rfl ?_
  refine s_off rfl rfl rfl ?_
  refine s_off rfl rfl rfl ?_
  refine s_off rfl rfl rfl ?_
  refine s_off rfl rfl rfl ?_
  first | refine s_pu (pu_pick_t rfl rfl) ?_ | refine s_pu (pu_pick_f rfl rfl) ?_
  refine swl_sub _ (.cons (t := 0) rfl (.cons (t := 1) rfl (.cons (t := 15) rfl .nil))) ?_
  refine swl_nil ?_
  refine then_n ?_
  refine swp_cond (b := _) rfl (fun h15 => ?_) (fun h15 => by cases h15)
  refine swp_seq ?_
  refine swp_region ?_
  refine s_pu (pu_assign rfl) ?_
  refine swl_sub _ (.cons (t := 4) rfl .nil) ?_
  refine swl_nil ?_
  refine then_n ?_
  refine swp_ret ?_
  refine then_r ?_
  exact done_ret _ (.tmp rfl .nil) ⟨rfl, rfl⟩ (by repeat (first | exact Split.nil | (apply Split.cons; (repeat (first | with_reducible exact Take.here | apply Take.there)))))

def clampM (k : Int) : Nat := (min (max k 0) 1048576).toNat
theorem new_m (k : Int) : Spec Tryd.prog 22 [.int .i64 k] [] (fun r L => ∃ p, r = .pointer (some ⟨p, 0, none⟩) ∧ L = [mset p (clampM k) (fun _ => false)]) := by
  have hc : min (max k 0) 1048576 = ((clampM k : Nat) : Int) := by unfold clampM; omega
  have hle : clampM k ≤ 1048576 := by unfold clampM; omega
  generalize clampM k = n at hc hle
  refine Spec.of 13 Tryd.func22 rfl rfl rfl ?_
  refine swp_seq ?_
  refine swp_region ?_
  refine s_pu (pu_assign rfl) ?_
  refine swl_sub _ (.cons (t := 0) rfl .nil) ?_
  refine swl_nil ?_
  refine then_n ?_
  refine swp_seq ?_
  refine swp_region ?_
  refine s_pu (pu_move rfl) ?_
  refine s_pu (pu_max2 rfl rfl) ?_
  refine s_pu (pu_min2 rfl rfl) ?_
  refine s_pu (pu_assign rfl) ?_
  refine swl_sub _ (.cons (t := 0) rfl .nil) ?_
  rw [hc]
  refine swl_nil ?_
  refine then_n ?_
  refine swp_seq ?_
  refine swp_region ?_
  refine s_pu (pu_move rfl) ?_
  refine s_pu (pu_move rfl) ?_
  first | refine s_pu (pu_add_in rfl rfl (by omega) (by omega)) ?_ | refine s_pu (pu_add rfl rfl) ?_
  refine s_pu (pu_quo_as (((n + 63) / 64 : Nat) : Int) rfl rfl (by omega) (by omega) (by omega) (by omega)) ?_
  refine s_ef (ef_make1 ((n + 63) / 64) rfl rfl rfl (by omega) (by simp only [maxLen]; omega)) ?_
  rintro b
  skip
  refine s_pu (pu_bld (qs := [(0, _), (1, _)]) rfl) ?_
  refine s_ef (ef_box rfl rfl) ?_
  intro b12
  refine s_pu (pu_assign rfl) ?_
  refine swl_sub _ (.cons (t := 2) rfl .nil) ?_
  refine swl_nil ?_
  refine then_n ?_
  refine swp_ret ?_
  refine done_retE [mset b12 n (fun _ => false)] (.tmp rfl .nil) ⟨b12, rfl, rfl⟩ ?_
  have hw : wcells (List.replicate ((n + 63) / 64) 0#64) = List.replicate ((n + 63) / 64) (Value.int .u64 0) := by
    apply List.ext_getElem?
    intro j
    rcases Nat.lt_or_ge j ((n + 63) / 64) with h | h
    · have := wcells_get (ws := List.replicate ((n + 63) / 64) 0#64) (ex := []) (i := j) (w := 0#64) (by simp [h])
      rw [List.append_nil] at this
      rw [this]; simp [h]
    · rw [List.getElem?_eq_none (by rw [wcells_len, List.length_replicate]; exact h), List.getElem?_eq_none (by rw [List.length_replicate]; exact h)]
  rw [← hw]
  have hwf : Wf n (List.replicate ((n + 63) / 64) 0#64) (fun _ => false) := ⟨by simp, hle, fun k => by
    unfold mem
    rw [List.getD_eq_getElem?_getD]
    rcases Nat.lt_or_ge (k / 64) ((n + 63) / 64) with h | h
    · simp [List.getElem?_replicate, h]
    · simp [List.getElem?_replicate, Nat.not_lt.2 h], fun _ _ => rfl⟩
  have hcl := wown_close (b := b) (cap := (n + 63) / 64) (ws := List.replicate ((n + 63) / 64) 0#64) (ex := []) (L := [blk b12 52 [.int .i64 (n : Nat), .slice (some ⟨b, 0, none⟩) ((n + 63) / 64) ((n + 63) / 64)]]) (by simp) (by simp only [maxLen]; omega) (by simp)
  rw [List.append_nil, List.length_replicate] at hcl
  have hmc := mset_close (p := b12) (v := .slice (some ⟨b, 0, none⟩) ((n + 63) / 64) ((n + 63) / 64)) (L := []) hwf
  rw [List.length_replicate] at hmc
  exact (Split.ent' (K := [blk b 67 (wcells (List.replicate ((n + 63) / 64) 0#64)), blk b12 52 [.int .i64 (n : Nat), .slice (some ⟨b, 0, none⟩) ((n + 63) / 64) ((n + 63) / 64)]]) (by repeat (first | exact Split.nil | (apply Split.cons; (repeat (first | with_reducible exact Take.here | apply Take.there)))))).trans (hcl.trans (Ent.swap.trans hmc))
end SX
