/- A part of the proof: walks of the seat's functions, by the rules of the texts that it imports. -/
import Derived.Test.YtfbfmokgpdmcfaaDoorMdM7
namespace SX
open Go Go.Proofs

theorem wcells_one (ws : List (BitVec 64)) : (wcells ws).all Value.oneCell' = true := by
  unfold wcells; rw [List.all_flatMap]; simp [ucs, Value.oneCell']
theorem uclone_nil : Spec Tryd.prog 57 [.slice none 0 0] [] (fun v L => v = .slice none 0 0 ∧ L = []) := by
  refine Spec.of 8 Tryd.func57 rfl rfl rfl ?_
  refine swp_seq ?_
  refine swp_region ?_
  refine s_pu (pu_assign rfl) ?_
  refine swl_sub _ (.cons (t := 0) rfl .nil) ?_
  refine swl_nil ?_
  refine then_n ?_
  refine swp_seq ?_
  refine swp_seq ?_
  refine swp_region ?_
  refine s_pu (pu_move rfl) ?_
  refine s_pu (pu_sl_eq_nil rfl rfl) ?_
  refine swl_sub _ (.cons (t := 0) rfl (.cons (t := 4) rfl .nil)) ?_
  refine swl_nil ?_
  refine then_n ?_
  refine swp_cond (b := _) rfl (fun h4 => ?_) (fun h4 => by cases h4)
  refine swp_seq ?_
  refine swp_region ?_
  refine s_pu (pu_assign rfl) ?_
  refine swl_sub _ (.cons (t := 2) rfl .nil) ?_
  refine swl_nil ?_
  refine then_n ?_
  refine swp_ret ?_
  refine then_r ?_
  exact done_ret [] (.tmp rfl .nil) ⟨rfl, rfl⟩ (by repeat (first | exact Split.nil | (apply Split.cons; (repeat (first | with_reducible exact Take.here | apply Take.there)))))
theorem uclone_blk (g cap : Nat) (es : List (BitVec 64)) (ex : List Value) (hb : es.length ≤ 1099511627776) :
    Spec Tryd.prog 57 [.slice (some ⟨g, 0, none⟩) es.length cap] [blk g 67 (wcells es ++ ex)] (fun v L => (∃ A c, v = .slice A es.length c) ∧ L = [own 67 1 v es.length (wcells es), blk g 67 (wcells es ++ ex)]) := by
  refine Spec.of 8 Tryd.func57 rfl rfl rfl ?_
  refine swp_seq ?_
  refine swp_region ?_
  refine s_pu (pu_assign rfl) ?_
  refine swl_sub _ (.cons (t := 0) rfl .nil) ?_
  refine swl_nil ?_
  refine then_n ?_
  refine swp_seq ?_
  refine swp_seq ?_
  refine swp_region ?_
  refine s_pu (pu_move rfl) ?_
  refine s_pu (pu_sl_eq_nil rfl rfl) ?_
  refine swl_sub _ (.cons (t := 0) rfl (.cons (t := 4) rfl .nil)) ?_
  refine swl_nil ?_
  refine then_n ?_
  refine swp_cond (b := _) rfl (fun h4 => by cases h4) (fun h4 => ?_)
  refine swp_skip ?_
  refine then_n ?_
  refine swp_seq ?_
  refine swp_region ?_
  refine s_ef (ef_bldS (qs := []) rfl rfl rfl) ?_
  intro b5
  refine s_pu (pu_move rfl) ?_
  refine swl_ent (own_close (n := 1) (l := 0) (cap := 0) (xs := []) (ex := []) rfl rfl (Nat.le_refl _) (by simp [maxLen])) ?_
  refine s_ef (ef_append_of (news := wcells es) rfl rfl (by repeat (first | exact Split.nil | (apply Split.cons; (repeat (first | with_reducible exact Take.here | apply Take.there))))) (by rw [wcells_len, Nat.mul_one]) (fun j u hj => by rw [Nat.zero_add, List.getElem?_append_left (List.getElem?_eq_some_iff.1 hj).1]; exact hj) (wcells_one es) (by simp only [maxLen]; omega) (by omega)) ?_
  rintro v' -
  rw [Nat.zero_add, List.nil_append]
  refine swl_fact (fun m h => own_form h) fun hform => ?_
  refine s_pu (pu_assign rfl) ?_
  refine swl_sub _ (.cons (t := 2) rfl .nil) ?_
  refine swl_nil ?_
  refine then_n ?_
  refine swp_ret ?_
  exact done_ret [own 67 1 v' es.length (wcells es), blk g 67 (wcells es ++ ex)] (.tmp rfl .nil) ⟨hform, rfl⟩ (by repeat (first | exact Split.nil | (apply Split.cons; (repeat (first | with_reducible exact Take.here | apply Take.there)))))
theorem uclone_own (v : Value) (es : List (BitVec 64)) (hb : es.length ≤ 1099511627776) :
    Spec Tryd.prog 57 [v] [own 67 1 v es.length (wcells es)] (fun v' L => (∃ A c, v' = .slice A es.length c) ∧ L = [own 67 1 v' es.length (wcells es), own 67 1 v es.length (wcells es)]) := by
  refine Spec.own_cases (fun hv l0 x0 => ?_) (fun g cap ex hv o1 o2 o3 o4 => ?_)
  · subst hv
    refine Spec.ent3 uclone_nil ?_
    rintro v L ⟨rfl, rfl⟩
    have he : es = [] := List.eq_nil_of_length_eq_zero l0
    subst he
    exact ⟨_, own_nil_ent.trans (Ent.cons own_nil_ent), ⟨_, _, rfl⟩, rfl⟩
  · subst hv
    refine Spec.ent3 (uclone_blk g cap es ex hb) ?_
    rintro v L ⟨hf, rfl⟩
    exact ⟨_, Ent.cons (own_close o3 o4 o1 o2), hf, rfl⟩
theorem copy_m (p n : Nat) (S : Nat → Bool) : Spec Tryd.prog 27 [.pointer (some ⟨p, 0, none⟩)] [mset p n S] (fun r L => ∃ q, r = .pointer (some ⟨q, 0, none⟩) ∧ L = [mset q n S, mset p n S]) := by
  refine mset_elim fun v ws hw => ?_
  have hws : ws.length ≤ 1048576 := by have := hw.1; have := hw.2.1; omega
  refine Spec.of 16 Tryd.func27 rfl rfl rfl ?_
  refine swp_front (A := own 67 1 v ws.length (wcells ws)) (by repeat (first | with_reducible exact Take.here | apply Take.there)) ?_
  refine swp_fact (fun m h => own_form h) fun ⟨A, cap, hv⟩ => ?_
  subst hv
  refine swp_seq ?_
  refine swp_region ?_
  refine s_pu (pu_assign rfl) ?_
  refine swl_sub _ (.cons (t := 0) rfl .nil) ?_
  refine swl_nil ?_
  refine then_n ?_
  refine swp_seq ?_
  refine swp_seq ?_
  refine swp_region ?_
  refine s_pu (pu_move rfl) ?_
  refine s_pu (pu_ptr_eq_nil rfl rfl) ?_
  refine swl_sub _ (.cons (t := 0) rfl (.cons (t := 4) rfl .nil)) ?_
  refine swl_nil ?_
  refine then_n ?_
  refine swp_cond (b := _) rfl (fun h4 => by cases h4) (fun h4 => ?_)
  refine swp_skip ?_
  refine then_n ?_
  refine swp_seq ?_
  refine swp_draw [3, 7] _ [] (by simp only [List.append_nil]; exact Ent.refl _) (by kernel_rfl) ?_
  refine d_pu 0 rfl (pu_move rfl) (by kernel_rfl) (by kernel_rfl) (by kernel_rfl) ?_
  first | refine d_pu 1 rfl (pu_nilCheck rfl) (by kernel_rfl) (by kernel_rfl) (by kernel_rfl) ?_ | refine d_pu 1 rfl (pu_nilCheck_fn rfl) (by kernel_rfl) (by kernel_rfl) (by kernel_rfl) ?_ | refine d_pu 1 rfl (pu_nilCheck_if rfl) (by kernel_rfl) (by kernel_rfl) (by kernel_rfl) ?_
  first | refine d_pu 2 rfl (pu_fieldAddr0 rfl) (by kernel_rfl) (by kernel_rfl) (by kernel_rfl) ?_ | refine d_pu 2 rfl (pu_fieldAddr rfl) (by kernel_rfl) (by kernel_rfl) (by kernel_rfl) ?_
  refine d_rd 3 rfl (rd_load rfl rfl) rfl (by kernel_rfl) (by kernel_rfl) (by kernel_rfl) ?_
  refine d_pu 4 rfl (pu_move rfl) (by kernel_rfl) (by kernel_rfl) (by kernel_rfl) ?_
  first | refine d_pu 5 rfl (pu_nilCheck rfl) (by kernel_rfl) (by kernel_rfl) (by kernel_rfl) ?_ | refine d_pu 5 rfl (pu_nilCheck_fn rfl) (by kernel_rfl) (by kernel_rfl) (by kernel_rfl) ?_ | refine d_pu 5 rfl (pu_nilCheck_if rfl) (by kernel_rfl) (by kernel_rfl) (by kernel_rfl) ?_
  first | refine d_pu 6 rfl (pu_fieldAddr0 rfl) (by kernel_rfl) (by kernel_rfl) (by kernel_rfl) ?_ | refine d_pu 6 rfl (pu_fieldAddr rfl) (by kernel_rfl) (by kernel_rfl) (by kernel_rfl) ?_
  refine d_rd 7 rfl (rd_load rfl rfl) rfl (by kernel_rfl) (by kernel_rfl) (by kernel_rfl) ?_
  refine d_eft 8 rfl (by kernel_rfl) (ef_fn (uclone_own _ ws (by omega)) rfl rfl (by repeat (first | exact Split.nil | (apply Split.cons; (repeat (first | with_reducible exact Take.here | apply Take.there)))))) ?_
  rintro v1 L1 ⟨⟨A', cap', rfl⟩, rfl⟩
  refine ⟨_, ent_appC (Split.ent (by repeat (first | exact Split.nil | (apply Split.cons; (repeat (first | with_reducible exact Take.here | apply Take.there)))))), ?_⟩
  refine d_pu 9 rfl (pu_bld (qs := [(0, _), (1, _)]) rfl) (by kernel_rfl) (by kernel_rfl) (by kernel_rfl) ?_
  first | refine d_fint 10 rfl (by kernel_rfl) (by kernel_rfl) (ef_box rfl rfl) ?_ | refine d_finf 10 rfl (by kernel_rfl) (by kernel_rfl) (ef_box rfl rfl) ?_
  intro b15
  refine d_pu 11 rfl (pu_assign rfl) (by kernel_rfl) (by kernel_rfl) (by kernel_rfl) ?_
  refine d_sub _ (.cons (t := 2) rfl .nil) ?_
  first | refine d_nilt (by kernel_rfl) ?_ | refine d_nilf (by kernel_rfl) ?_
  refine then_n ?_
  refine swp_ret ?_
  refine done_retE [mset b15 n S, mset p n S] (.tmp rfl .nil) ⟨_, rfl, rfl⟩ ?_
  exact (Split.ent' (K := [blk b15 52 [.int .i64 (n : Nat), .slice A' ws.length cap'], own 67 1 (.slice A' ws.length cap') ws.length (wcells ws), blk p 52 [.int .i64 (n : Nat), .slice A ws.length cap], own 67 1 (.slice A ws.length cap) ws.length (wcells ws)]) (by repeat (first | exact Split.nil | (apply Split.cons; (repeat (first | with_reducible exact Take.here | apply Take.there)))))).trans ((mset_close hw).trans (Ent.cons (mset_close hw)))
theorem copy_nil : Spec Tryd.prog 27 [.pointer none] [] (fun r L => r = .pointer none ∧ L = []) := by
  refine Spec.of 16 Tryd.func27 rfl rfl rfl ?_
  refine swp_seq ?_
  refine swp_region ?_
  refine s_pu (pu_assign rfl) ?_
  refine swl_sub _ (.cons (t := 0) rfl .nil) ?_
  refine swl_nil ?_
  refine then_n ?_
  refine swp_seq ?_
  refine swp_seq ?_
  refine swp_region ?_
  refine s_pu (pu_move rfl) ?_
  refine s_pu (pu_ptr_eq_nil rfl rfl) ?_
  refine swl_sub _ (.cons (t := 0) rfl (.cons (t := 4) rfl .nil)) ?_
  refine swl_nil ?_
  refine then_n ?_
  refine swp_cond (b := _) rfl (fun h4 => ?_) (fun h4 => by cases h4)
  refine swp_seq ?_
  refine swp_region ?_
  refine s_pu (pu_assign rfl) ?_
  refine swl_sub _ (.cons (t := 2) rfl .nil) ?_
  refine swl_nil ?_
  refine then_n ?_
  refine swp_ret ?_
  refine then_r ?_
  exact done_ret [] (.tmp rfl .nil) ⟨rfl, rfl⟩ (by repeat (first | exact Split.nil | (apply Split.cons; (repeat (first | with_reducible exact Take.here | apply Take.there)))))

/-- what can be asked of a set, nil or not, that X holds -/
structure View (ov : Value) (X : Assn) (n : Nat) (o : Nat → BitVec 64) : Prop where
  size : Spec Tryd.prog 16 [ov] [X] (fun r L => r = .int .i64 (n : Nat) ∧ L = [X])
  word : ∀ i, i ≤ 1048576 → Spec Tryd.prog 60 [ov, .int .i64 (i : Nat)] [X] (fun r L => r = wv (o i) ∧ L = [X])
set_option maxHeartbeats 1000000 in
theorem same_x {ov1 ov2 : Value} {X : Assn} {n1 n2 : Nat} {o1 o2 : Nat → BitVec 64} (h1 : View ov1 X n1 o1) (h2 : View ov2 X n2 o2) (hn1 : n1 ≤ 1048576) (hn2 : n2 ≤ 1048576) :
    Spec Tryd.prog 30 [ov1, ov2] [X] (fun r L => ∃ b, r = .bool b ∧ (b = true ↔ ∀ i, i < (max n1 n2 + 63) / 64 → o1 i = o2 i) ∧ L = [X]) := by
  refine Spec.of 26 Tryd.func30 rfl rfl rfl ?_
  refine swp_seq ?_
  refine swp_region ?_
  refine s_pu (pu_assign rfl) ?_
  refine swl_sub _ (.cons (t := 0) rfl (.cons (t := 1) rfl .nil)) ?_
  refine swl_nil ?_
  refine then_n ?_
  refine swp_seq ?_
  refine swp_region ?_
  refine s_pu (pu_move rfl) ?_
  refine s_ef (ef_fn h1.size rfl rfl (by repeat (first | exact Split.nil | (apply Split.cons; (repeat (first | with_reducible exact Take.here | apply Take.there)))))) ?_
  rintro v1 L1 ⟨rfl, rfl⟩
  refine swl_app ?_
  refine s_pu (pu_move rfl) ?_
  refine s_ef (ef_fn h2.size rfl rfl (by repeat (first | exact Split.nil | (apply Split.cons; (repeat (first | with_reducible exact Take.here | apply Take.there)))))) ?_
  rintro v1 L1 ⟨rfl, rfl⟩
  refine swl_app ?_
  refine s_pu (pu_max2 rfl rfl) ?_
  refine s_pu (pu_add_as ((max n1 n2 + 63 : Nat) : Int) rfl rfl (by omega) (by omega) (by omega)) ?_
  refine s_pu (pu_quo_as (((max n1 n2 + 63) / 64 : Nat) : Int) rfl rfl (by omega) (by omega) (by omega) (by omega)) ?_
  refine s_pu (pu_assign rfl) ?_
  refine swl_sub _ (.cons (t := 0) rfl (.cons (t := 1) rfl (.cons (t := 5) rfl .nil))) ?_
  refine swl_nil ?_
  refine then_n ?_
  refine swp_seq ?_
  refine swp_seq ?_
  refine swp_region ?_
  refine s_pu (pu_move rfl) ?_
  refine s_pu (pu_move rfl) ?_
  refine swl_sub _ (.cons (t := 0) rfl (.cons (t := 1) rfl (.cons (t := 14) rfl (.cons (t := 15) rfl .nil)))) ?_
  refine swl_nil ?_
  refine then_n ?_
  refine swp_block ?_
  refine swp_loop (ι := Nat) (fun i env L => env = [(0, ov1), (1, ov2), (14, .int .i64 (((max n1 n2 + 63) / 64 : Nat) : Int)), (15, .int .i64 (i : Nat))] ∧ L = [X] ∧ i ≤ (max n1 n2 + 63) / 64 ∧ ∀ j, j < i → o1 j = o2 j) (fun i => (max n1 n2 + 63) / 64 - i) 0 ⟨rfl, rfl, Nat.zero_le _, fun j h => absurd h (Nat.not_lt_zero _)⟩ ?_
  rintro i env L ⟨rfl, rfl, hi, hlo⟩
  refine swp_seq ?_
  refine swp_region ?_
  refine s_pu (pu_lss rfl rfl) ?_
  refine swl_sub _ (.cons (t := 0) rfl (.cons (t := 1) rfl (.cons (t := 14) rfl (.cons (t := 15) rfl (.cons (t := 16) rfl .nil))))) ?_
  refine swl_nil ?_
  refine then_n ?_
  refine swp_seq ?_
  refine swp_cond (b := _) rfl (fun h16 => ?_) (fun h16 => ?_)
  · skip   -- 16 T
    have h16' : i < (max n1 n2 + 63) / 64 := by have := of_decide_eq_true h16; omega
    refine swp_skip ?_
    refine then_n ?_
    refine swp_seq ?_
    refine swp_block ?_
    refine swp_seq ?_
    refine swp_region ?_
    refine s_pu (pu_move rfl) ?_
    refine s_pu (pu_assign rfl) ?_
    refine swl_sub _ (.cons (t := 0) rfl (.cons (t := 1) rfl (.cons (t := 6) rfl (.cons (t := 14) rfl (.cons (t := 15) rfl .nil))))) ?_
    refine swl_nil ?_
    refine then_n ?_
    refine swp_seq ?_
    refine swp_region ?_
    refine s_pu (pu_move rfl) ?_
    refine s_pu (pu_move rfl) ?_
    refine s_ef (ef_fn (h1.word i (by omega)) rfl rfl (by repeat (first | exact Split.nil | (apply Split.cons; (repeat (first | with_reducible exact Take.here | apply Take.there)))))) ?_
    rintro v1 L1 ⟨rfl, rfl⟩
    refine swl_app ?_
    refine s_pu (pu_move rfl) ?_
    refine s_pu (pu_move rfl) ?_
    refine s_ef (ef_fn (h2.word i (by omega)) rfl rfl (by repeat (first | exact Split.nil | (apply Split.cons; (repeat (first | with_reducible exact Take.here | apply Take.there)))))) ?_
    rintro v1 L1 ⟨rfl, rfl⟩
    refine swl_app ?_
    refine s_pu (pu_neq rfl rfl) ?_
    refine swl_sub _ (.cons (t := 0) rfl (.cons (t := 1) rfl (.cons (t := 14) rfl (.cons (t := 15) rfl (.cons (t := 24) rfl .nil))))) ?_
    refine swl_nil ?_
    refine then_n ?_
    refine swp_cond (b := _) rfl (fun h24 => ?_) (fun h24 => ?_)
    · skip   -- 24 T
      refine swp_seq ?_
      refine swp_region ?_
      refine s_pu (pu_assign rfl) ?_
      refine swl_sub _ (.cons (t := 4) rfl .nil) ?_
      refine swl_nil ?_
      refine then_n ?_
      refine swp_ret ?_
      refine block_r ?_
      refine then_r ?_
      refine then_r ?_
      refine block_r ?_
      refine then_r ?_
      have h24' := of_decide_eq_false (not_t h24)
      exact done_ret [X] (.tmp rfl .nil) ⟨false, rfl, ⟨fun h => (by cases h), fun h => absurd (by rw [h i h16']) h24'⟩, rfl⟩ (by repeat (first | exact Split.nil | (apply Split.cons; (repeat (first | with_reducible exact Take.here | apply Take.there)))))
    · skip   -- 24 F
      refine swp_skip ?_
      refine block_n ?_
      refine then_n ?_
      refine swp_region ?_
      refine s_pu (pu_add_as ((i + 1 : Nat) : Int) rfl rfl (by omega) (by omega) (by omega)) ?_
      refine s_pu (pu_move rfl) ?_
      refine swl_sub _ (.cons (t := 0) rfl (.cons (t := 1) rfl (.cons (t := 14) rfl (.cons (t := 15) rfl .nil)))) ?_
      refine swl_nil ?_
      have h24' := of_decide_eq_true (not_f h24)
      refine then_n ⟨i + 1, ⟨rfl, rfl, h16', fun j hj => ?_⟩, by omega⟩
      by_cases e : j = i
      · subst e; exact BitVec.eq_of_toNat_eq (by omega)
      · exact hlo j (by omega)
  · skip   -- 16 F
    have h16' : i = (max n1 n2 + 63) / 64 := by have := of_decide_eq_false h16; omega
    refine swp_exit ?_
    refine then_x ?_
    refine then_x ?_
    refine block_hit rfl ?_
    refine then_n ?_
    refine swp_seq ?_
    refine swp_region ?_
    refine s_pu (pu_assign rfl) ?_
    refine swl_sub _ (.cons (t := 4) rfl .nil) ?_
    refine swl_nil ?_
    refine then_n ?_
    refine swp_ret ?_
    exact done_ret [X] (.tmp rfl .nil) ⟨true, rfl, ⟨fun _ j hj => hlo j (by omega), fun _ => rfl⟩, rfl⟩ (by repeat (first | exact Split.nil | (apply Split.cons; (repeat (first | with_reducible exact Take.here | apply Take.there)))))
theorem spec_any {f : FuncId} {args : List Value} {u : Value} (h : Spec Tryd.prog f args [] (fun r L => r = u ∧ L = [])) (X : Assn) : Spec Tryd.prog f args [X] (fun r L => r = u ∧ L = [X]) := fun E w hw => by
  refine (h.frame (R := [X]) hw).mono ?_
  rintro e w' ⟨r, L, he, ⟨hr, rfl⟩, h'⟩
  exact ⟨r, _, he, ⟨hr, rfl⟩, h'⟩
theorem view_nil (X : Assn) : View (.pointer none) X 0 (fun _ => 0#64) := ⟨spec_any size_nil X, fun i _ => spec_any (word_nil i) X⟩
theorem words_eq {n1 n2 : Nat} {ws us : List (BitVec 64)} {S T : Nat → Bool} (h1 : ∀ k, (ws.getD (k / 64) 0#64).getLsbD (k % 64) = S k) (h2 : ∀ k, (us.getD (k / 64) 0#64).getLsbD (k % 64) = T k) (z1 : ∀ k, n1 ≤ k → S k = false) (z2 : ∀ k, n2 ≤ k → T k = false) :
    (∀ i, i < (max n1 n2 + 63) / 64 → ws.getD i 0#64 = us.getD i 0#64) ↔ ∀ k, S k = T k := by
  constructor
  · intro h k
    by_cases hk : k / 64 < (max n1 n2 + 63) / 64
    · rw [← h1, ← h2, h _ hk]
    · rw [z1 k (by omega), z2 k (by omega)]
  · intro h i _
    apply BitVec.eq_of_getLsbD_eq
    intro r hr
    have e1 := h1 (64 * i + r)
    have e2 := h2 (64 * i + r)
    rw [show (64 * i + r) / 64 = i by omega, show (64 * i + r) % 64 = r by omega] at e1 e2
    rw [e1, e2, h]
theorem view_a (p n : Nat) (v : Value) (ws : List (BitVec 64)) (R : List Assn) : View (.pointer (some ⟨p, 0, none⟩)) (star (opn p n v ws ++ R)) n (fun i => ws.getD i 0#64) := by
  refine ⟨?_, fun i hi => Spec.starred (word_o p n v ws i hi) R⟩
  have := Spec.starred (size_b p n v) (own 67 1 v ws.length (wcells ws) :: R)
  exact this
theorem same_m (p n q m : Nat) (S T : Nat → Bool) : Spec Tryd.prog 30 [.pointer (some ⟨p, 0, none⟩), .pointer (some ⟨q, 0, none⟩)] [mset p n S, mset q m T] (fun r L => ∃ b, r = .bool b ∧ (b = true ↔ ∀ k, S k = T k) ∧ L = [mset p n S, mset q m T]) := by
  refine mset_elim fun v ws hw => ?_
  refine Spec.pre ?_ (Ent.trans (Ent.cons Ent.swap) Ent.swap)
  refine mset_elim fun v2 us hu => ?_
  have hv2 : View (.pointer (some ⟨q, 0, none⟩)) (star (opn p n v ws ++ opn q m v2 us)) m (fun i => us.getD i 0#64) := by
    have h := view_a q m v2 us (opn p n v ws)
    have e1 : Ent [star (opn p n v ws ++ opn q m v2 us)] [star (opn q m v2 us ++ opn p n v ws)] := ((star_ent (L := [])).trans (by rw [List.append_nil]; exact Ent.perm List.perm_append_comm)).trans star_close1
    have e2 : Ent [star (opn q m v2 us ++ opn p n v ws)] [star (opn p n v ws ++ opn q m v2 us)] := ((star_ent (L := [])).trans (by rw [List.append_nil]; exact Ent.perm List.perm_append_comm)).trans star_close1
    exact ⟨Spec.ent2 (Spec.pre h.size e1) e2, fun i hi => Spec.ent2 (Spec.pre (h.word i hi) e1) e2⟩
  refine Spec.pre (pre := [star (opn p n v ws ++ opn q m v2 us)]) ?_ ((Split.ent' (K := opn p n v ws ++ opn q m v2 us) (by repeat (first | exact Split.nil | (apply Split.cons; (repeat (first | with_reducible exact Take.here | apply Take.there)))))).trans star_close1)
  refine Spec.ent3 (same_x (view_a p n v ws (opn q m v2 us)) hv2 hw.2.1 hu.2.1) ?_
  rintro r L ⟨b, rfl, hb, rfl⟩
  refine ⟨_, ((star_ent (L := [])).trans ?_), b, rfl, hb.trans (words_eq (fun k => hw.2.2.1 k) (fun k => hu.2.2.1 k) hw.2.2.2 hu.2.2.2), rfl⟩
  exact (mset_close hw).trans (Ent.cons (mset_close hu))
theorem same_mn (p n : Nat) (S : Nat → Bool) : Spec Tryd.prog 30 [.pointer (some ⟨p, 0, none⟩), .pointer none] [mset p n S] (fun r L => ∃ b, r = .bool b ∧ (b = true ↔ ∀ k, S k = false) ∧ L = [mset p n S]) := by
  refine mset_elim fun v ws hw => ?_
  refine Spec.pre (pre := [star (opn p n v ws ++ [])]) ?_ star_close1
  refine Spec.ent3 (same_x (view_a p n v ws []) (view_nil _) hw.2.1 (Nat.zero_le _)) ?_
  rintro r L ⟨b, rfl, hb, rfl⟩
  refine ⟨_, ((star_ent (L := [])).trans (mset_close hw)), b, rfl, hb.trans ?_, rfl⟩
  have := words_eq (n1 := n) (n2 := 0) (us := []) (T := fun _ => false) (fun k => hw.2.2.1 k) (fun k => by simp) hw.2.2.2 (fun _ _ => rfl)
  simpa using this
theorem same_nn (X : Assn) : Spec Tryd.prog 30 [.pointer none, .pointer none] [X] (fun r L => ∃ b, r = .bool b ∧ (b = true ↔ True) ∧ L = [X]) := by
  refine Spec.mono (same_x (view_nil X) (view_nil X) (Nat.zero_le _) (Nat.zero_le _)) ?_
  rintro r L ⟨b, rfl, hb, rfl⟩
  exact ⟨b, rfl, hb.trans ⟨fun _ => trivial, fun _ _ _ => rfl⟩, rfl⟩

theorem each_self (p n : Nat) (S : Nat → Bool) (fid : Nat) [Body Tryd.prog fid] (g : BitVec 64 → BitVec 64 → BitVec 64) (gb : Bool → Bool → Bool) (hf : ∀ x y, Spec Tryd.prog fid [wv x, wv y] [] (fun r L => r = wv (g x y) ∧ L = []))
    (hg : ∀ x y i, i < 64 → (g x y).getLsbD i = gb (x.getLsbD i) (y.getLsbD i)) :
    Spec Tryd.prog 55 [.pointer (some ⟨p, 0, none⟩), .pointer (some ⟨p, 0, none⟩), .func (.func fid) #[] #[]] [mset p n S] (fun r L => r = .tuple #[] ∧ L = [mset p n (fun k => decide (k < n) && gb (S k) (S k))]) := by
  refine mset_elim fun v ws hw => ?_
  have hS : mem ws = S := funext hw.2.2.1
  refine Spec.pre ?_ (Ent.swap (L := []))
  refine Spec.own_cases (fun hv l0 _ => ?_) (fun b cap ex hv h1 h2 h3 h4 => ?_)
  · subst hv
    have hn0 : n = 0 := by have := hw.1; omega
    subst hn0
    refine Spec.ent3 (each_0 p _ fid) ?_
    rintro r L ⟨rfl, rfl⟩
    refine ⟨_, Ent.trans ?_ (mset_close (v := .slice none 0 0) (ws := []) ⟨rfl, by decide, fun k => by simp [mem], fun _ _ => by simp⟩), rfl, rfl⟩
    exact Ent.cons own_nil_ent
  · subst hv
    refine Spec.pre (pre := [blk b 67 (wcells ws ++ ex), blk p 52 [.int .i64 (n : Nat), .slice (some ⟨b, 0, none⟩) ws.length cap], star []]) ?_ (Ent.cons (Ent.cons (fun m h => ⟨fun _ => none, m, trivial, trivial, fun _ => .inl rfl, fun _ _ h => by (cases h), fun _ _ h => h⟩)))
    refine Spec.ent3 (each_b p n b cap ws ex _ fid g (fun i => ws.getD i 0#64) (star []) hw.1 hw.2.1 hf (fun cur i hcl hi hci => ?_)) ?_
    · have hwi : cur[i]? = some (ws.getD i 0#64) := by rw [hci, List.getD_eq_getElem?_getD, List.getElem?_eq_getElem hi]; rfl
      have h := word_b p n b cap cur ex i _ hwi
      rw [hcl] at h
      intro E w hh
      refine (h.frame (R := [star []]) hh).mono ?_
      rintro e w' ⟨r, L, he, ⟨hr, rfl⟩, h'⟩
      exact ⟨r, _, he, ⟨hr, rfl⟩, h'⟩
    · rintro r L ⟨rfl, ws', h5, h6, rfl⟩
      have hc := wown_close (b := b) (cap := cap) (ws := ws') (ex := ex) (L := [blk p 52 [.int .i64 (n : Nat), .slice (some ⟨b, 0, none⟩) ws.length cap], star []]) (by omega) h2 (by rw [h5]; exact h4)
      have hwf : Wf n ws' (fun k => decide (k < n) && gb (S k) (S k)) := by
        refine ⟨by rw [h5]; exact hw.1, hw.2.1, fun k => ?_, fun k hk => by show (decide (k < n) && _) = false; rw [decide_eq_false (by omega)]; rfl⟩
        rw [h6, hg _ _ _ (Nat.mod_lt _ (by decide)), ← hS]
        rfl
      have hm := mset_close (p := p) (v := .slice (some ⟨b, 0, none⟩) ws.length cap) (L := [star []]) hwf
      rw [h5] at hc hm
      exact ⟨_, (hc.trans (Ent.swap.trans hm)).trans Ent.one, rfl, rfl⟩

theorem or_self (p n : Nat) (S : Nat → Bool) : Spec Tryd.prog 26 [.pointer (some ⟨p, 0, none⟩), .pointer (some ⟨p, 0, none⟩)] [mset p n S] (fun r L => r = .tuple #[] ∧ L = [mset p n (fun k => decide (k < n) && (S k || S k))]) := by
  refine Spec.of 7 Tryd.func26 rfl rfl rfl ?_
  refine swp_region ?_
  refine s_pu (pu_move rfl) ?_
  refine s_pu (pu_move rfl) ?_
  refine s_ef (ef_fn (each_self p n S 56 (fun x y => x ||| y) (fun a b => (a || b)) or1 (fun x y i hi => by simp [BitVec.getLsbD_or])) rfl rfl (by repeat (first | exact Split.nil | (apply Split.cons; (repeat (first | with_reducible exact Take.here | apply Take.there)))))) ?_
  rintro v1 L1 ⟨rfl, rfl⟩
  refine swl_app ?_
  refine swl_sub _ .nil ?_
  refine swl_nil ?_
  exact done_end _ .nil ⟨rfl, rfl⟩ (by repeat (first | exact Split.nil | (apply Split.cons; (repeat (first | with_reducible exact Take.here | apply Take.there)))))

theorem and_self (p n : Nat) (S : Nat → Bool) : Spec Tryd.prog 28 [.pointer (some ⟨p, 0, none⟩), .pointer (some ⟨p, 0, none⟩)] [mset p n S] (fun r L => r = .tuple #[] ∧ L = [mset p n (fun k => decide (k < n) && (S k && S k))]) := by
  refine Spec.of 7 Tryd.func28 rfl rfl rfl ?_
  refine swp_region ?_
  refine s_pu (pu_move rfl) ?_
  refine s_pu (pu_move rfl) ?_
  refine s_ef (ef_fn (each_self p n S 58 (fun x y => x &&& y) (fun a b => (a && b)) and1 (fun x y i hi => by simp [BitVec.getLsbD_and])) rfl rfl (by repeat (first | exact Split.nil | (apply Split.cons; (repeat (first | with_reducible exact Take.here | apply Take.there)))))) ?_
  rintro v1 L1 ⟨rfl, rfl⟩
  refine swl_app ?_
  refine swl_sub _ .nil ?_
  refine swl_nil ?_
  exact done_end _ .nil ⟨rfl, rfl⟩ (by repeat (first | exact Split.nil | (apply Split.cons; (repeat (first | with_reducible exact Take.here | apply Take.there)))))

theorem less_self (p n : Nat) (S : Nat → Bool) : Spec Tryd.prog 29 [.pointer (some ⟨p, 0, none⟩), .pointer (some ⟨p, 0, none⟩)] [mset p n S] (fun r L => r = .tuple #[] ∧ L = [mset p n (fun k => decide (k < n) && (S k && !S k))]) := by
  refine Spec.of 7 Tryd.func29 rfl rfl rfl ?_
  refine swp_region ?_
  refine s_pu (pu_move rfl) ?_
  refine s_pu (pu_move rfl) ?_
  refine s_ef (ef_fn (each_self p n S 59 (fun x y => x &&& ~~~y) (fun a b => (a && !b)) less1 (fun x y i hi => by simp [hi])) rfl rfl (by repeat (first | exact Split.nil | (apply Split.cons; (repeat (first | with_reducible exact Take.here | apply Take.there)))))) ?_
  rintro v1 L1 ⟨rfl, rfl⟩
  refine swl_app ?_
  refine swl_sub _ .nil ?_
  refine swl_nil ?_
  exact done_end _ .nil ⟨rfl, rfl⟩ (by repeat (first | exact Split.nil | (apply Split.cons; (repeat (first | with_reducible exact Take.here | apply Take.there)))))
end SX
