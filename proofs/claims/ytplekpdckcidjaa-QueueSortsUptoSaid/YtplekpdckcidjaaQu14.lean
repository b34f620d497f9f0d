/- A part of the proof: walks of the seat's functions, by the rules of the texts that it imports. -/
import Derived.Test.YtplekpdckcidjaaQu13
import Derived.LaidEqlPtr
namespace SX
open Go Go.Proofs

theorem pu_ptr_same {P : Program} {env : Env} {t te n : TypeId} {u : TypeId} (he : P.underlying t = some (.pointer te)) [h : TAgg P te n] {x y : Operand} {a : Addr} (hx : evalE env x = some (.pointer (some a))) (hy : evalE env y = some (.pointer (some a))) :
    Pu P env (.binOp .eql t x y u) (.bool true) := fun ρ hρ _ _ _ _ _ w => by
  obtain ⟨j, hj, _⟩ := Option.map_eq_some_iff.1 h.inf
  simp only [execOp, hρ x _ hx, hρ y _ hy, Sem.run_bind, eqGuard_ptr, Result.andThen_ok, run_eql_ptr_same w a he hj, Sem.run_pure]
theorem rd_ptr_other {P : Program} {env : Env} {L : List Assn} {t te n : TypeId} {u : TypeId} (he : P.underlying t = some (.pointer te)) [h : TAgg P te n] (hn : n ≠ 0) {x y : Operand} {a b : Nat} (hab : a ≠ b)
    (hL : ∀ m, Sat L m → (∃ cs t, m a = some (.cells cs t (0, 0))) ∧ ∃ cs t, m b = some (.cells cs t (0, 0))) (hx : evalE env x = some (.pointer (some ⟨a, 0, none⟩))) (hy : evalE env y = some (.pointer (some ⟨b, 0, none⟩))) :
    Rd P env L (.binOp .eql t x y u) (.bool false) := fun ρ hρ _ _ _ _ _ E w hh => by
  obtain ⟨j, hj, hs⟩ := Option.map_eq_some_iff.1 h.inf
  obtain ⟨⟨ca, ta, ha⟩, cb, tb, hb⟩ := hL _ hh.sat
  have hr := run_eql_ptr_other (P := P) w (a := ⟨a, 0, none⟩) (b := ⟨b, 0, none⟩) he hj (by rw [hs]; exact hn) (fun e => hab (by cases e; rfl)) ha hb
  simp only [execOp, hρ x _ hx, hρ y _ hy, Sem.run_bind, eqGuard_ptr, Result.andThen_ok, hr, Sem.run_pure]

theorem qt_at {q nxt : Nat} {l : List Th} {m : PH} (h : qt q l nxt m) : ∃ cs t, m q = some (.cells cs t (0, 0)) := by
  obtain ⟨S, m1, m2, ⟨es, m3, m4, ⟨v, m5, m6, hb, _, _, s1, _⟩, _, _, s3, _⟩, _, _, s5, _⟩ := h
  exact ⟨_, _, s5 _ _ (s3 _ _ (s1 _ _ hb))⟩
theorem qt_two {q o n1 n2 : Nat} {l m : List Th} {R : List Assn} {h : PH} (hs : Sat (qt q l n1 :: qt o m n2 :: R) h) : q ≠ o ∧ (∃ cs t, h q = some (.cells cs t (0, 0))) ∧ ∃ cs t, h o = some (.cells cs t (0, 0)) := by
  obtain ⟨m1, m2, h1, ⟨m3, m4, h3, _, _, s3, _⟩, hd, s1, s2⟩ := hs
  obtain ⟨ca, ta, ha⟩ := qt_at h1
  obtain ⟨cb, tb, hb⟩ := qt_at h3
  refine ⟨?_, ⟨_, _, s1 _ _ ha⟩, ⟨_, _, s2 _ _ (s3 _ _ hb)⟩⟩
  rintro rfl
  rcases hd q with h | h
  · rw [h] at ha; cases ha
  · rw [s3 _ _ hb] at h; cases h

theorem take_self (a : Addr) : Spec Try.prog 25 [.pointer (some a), .pointer (some a)] [] (fun v L => v = .tuple #[] ∧ L = []) := by
  refine Spec.of 28 Try.func25 rfl rfl rfl ?_
  refine swp_seq ?_
  refine swp_seq ?_
  refine swp_region ?_
  refine s_pu (pu_move rfl) ?_
  refine s_pu (pu_ptr_eq_nil rfl rfl) ?_
  refine s_pu (pu_move rfl) ?_
  refine s_on rfl rfl ?_
  refine s_pu (pu_move rfl) ?_
  refine s_on rfl rfl ?_
  refine s_pu (pu_move rfl) ?_
  refine s_on rfl rfl ?_
  refine s_pu (pu_ptr_same Try.underlying28 rfl rfl) ?_
  first | refine s_pu (pu_pick_t rfl rfl) ?_ | refine s_pu (pu_pick_f rfl rfl) ?_
  refine swl_sub _ (.cons (t := 0) rfl (.cons (t := 1) rfl (.cons (t := 12) rfl .nil))) ?_
  refine swl_nil ?_
  refine then_n ?_
  refine swp_cond (b := _) rfl (fun h12 => ?_) (fun h12 => by cases h12)
  refine swp_ret ?_
  refine then_r ?_
  exact done_ret [] .nil ⟨rfl, rfl⟩ (by repeat (first | exact Split.nil | (apply Split.cons; (repeat (first | with_reducible exact Take.here | apply Take.there)))))

def putAll (l : List Th) : List Th → List Th
  | [] => l
  | x :: m => putAll (put l x) m

theorem take_t (q o n1 n2 : Nat) (l m : List Th) (hb : l.length + m.length ≤ 1099511627776) (hb1 : n1 + m.length ≤ 18446744073709551615) :
    Spec Try.prog 25 [.pointer (some ⟨q, 0, none⟩), .pointer (some ⟨o, 0, none⟩)] [qt q l n1, qt o m n2] (fun v L => v = .tuple #[] ∧ L = [qt q (putAll l m) (n1 + m.length), qt o [] n2]) := by
  refine Spec.fact (fun _ h => (qt_two h).1) fun hne => ?_
  refine Spec.of 28 Try.func25 rfl rfl rfl ?_
  refine swp_seq ?_
  refine swp_seq ?_
  refine swp_region ?_
  refine s_pu (pu_move rfl) ?_
  refine s_pu (pu_ptr_eq_nil rfl rfl) ?_
  refine s_pu (pu_move rfl) ?_
  refine s_on rfl rfl ?_
  refine s_pu (pu_move rfl) ?_
  refine s_on rfl rfl ?_
  refine s_pu (pu_move rfl) ?_
  refine s_on rfl rfl ?_
  refine s_rd (rd_ptr_other Try.underlying28 (by decide) hne (fun _ h => (qt_two h).2) rfl rfl) ?_
  first | refine s_pu (pu_pick_t rfl rfl) ?_ | refine s_pu (pu_pick_f rfl rfl) ?_
  refine swl_sub _ (.cons (t := 0) rfl (.cons (t := 1) rfl (.cons (t := 12) rfl .nil))) ?_
  refine swl_nil ?_
  refine then_n ?_
  refine swp_cond (b := _) rfl (fun h => by cases h) (fun h => ?_)
  refine swp_skip ?_
  refine then_n ?_
  refine swp_cut (fun env L => ∃ b4, env = [(0, .pointer (some ⟨q, 0, none⟩)), (1, .pointer (some ⟨o, 0, none⟩)), (4, .pointer (some ⟨b4, 0, none⟩)), (5, .bool (!m.isEmpty))] ∧ L = [blk b4 27 (tcs (m.head?.getD (0, 0))), qt o m.tail n2, qt q l n1]) ?_ ?_
  · refine swp_region ?_
    cases m with
    | nil =>
      refine s_pu (pu_move rfl) ?_
      refine s_ef (ef_fn (pop_t0 o n2) rfl rfl (by repeat (first | exact Split.nil | (apply Split.cons; (repeat (first | with_reducible exact Take.here | apply Take.there)))))) ?_
      rintro v L1 ⟨rfl, rfl⟩
      refine swl_app ?_
      refine s_pu (pu_move rfl) ?_
      refine s_pu (pu_extract rfl rfl) ?_
      refine s_pu (pu_extract rfl rfl) ?_
      refine s_ef (ef_alloc) ?_
      intro b4
      refine s_ef0 (ef_storeA rfl rfl rfl rfl) ?_
      refine s_pu (pu_assign rfl) ?_
      refine swl_sub _ (.cons (t := 0) rfl (.cons (t := 1) rfl (.cons (t := 4) rfl (.cons (t := 5) rfl .nil)))) ?_
      refine swl_nil ?_
      exact then_n ⟨_, rfl, rfl⟩
    | cons x m =>
      refine s_pu (pu_move rfl) ?_
      refine s_ef (ef_fn (pop_t o n2 x m (by omega)) rfl rfl (by repeat (first | exact Split.nil | (apply Split.cons; (repeat (first | with_reducible exact Take.here | apply Take.there)))))) ?_
      rintro v L1 ⟨rfl, rfl⟩
      refine swl_app ?_
      refine s_pu (pu_move rfl) ?_
      refine s_pu (pu_extract rfl rfl) ?_
      refine s_pu (pu_extract rfl rfl) ?_
      refine s_ef (ef_alloc) ?_
      intro b4
      refine s_ef0 (ef_storeA rfl rfl rfl rfl) ?_
      refine s_pu (pu_assign rfl) ?_
      refine swl_sub _ (.cons (t := 0) rfl (.cons (t := 1) rfl (.cons (t := 4) rfl (.cons (t := 5) rfl .nil)))) ?_
      refine swl_nil ?_
      exact then_n ⟨_, rfl, rfl⟩
  rintro env L ⟨b4, rfl, rfl⟩
  refine swp_block ?_
  refine swp_loop (ι := List Th) (fun U env L => ∃ l' n' b4, putAll l' U = putAll l m ∧ n' + U.length = n1 + m.length ∧ l'.length + U.length = l.length + m.length ∧
    env = [(0, .pointer (some ⟨q, 0, none⟩)), (1, .pointer (some ⟨o, 0, none⟩)), (4, .pointer (some ⟨b4, 0, none⟩)), (5, .bool (!U.isEmpty))] ∧ L = [blk b4 27 (tcs (U.head?.getD (0, 0))), qt o U.tail n2, qt q l' n']) (fun U => U.length) m ⟨l, n1, b4, rfl, rfl, rfl, rfl, rfl⟩ ?_
  rintro U env L ⟨l', n', b4, hp, hn, hl, rfl, rfl⟩
  refine swp_seq ?_
  refine swp_seq ?_
  refine swp_region ?_
  refine s_pu (pu_move rfl) ?_
  refine swl_sub _ (.cons (t := 0) rfl (.cons (t := 1) rfl (.cons (t := 4) rfl (.cons (t := 18) rfl .nil)))) ?_
  refine swl_nil ?_
  refine then_n ?_
  cases U with
  | nil =>
    refine swp_cond (b := _) rfl (fun h => by cases h) (fun h18 => ?_)
    refine swp_ent (Ent.refl [blk b4 27 [.int .i64 0, .int .i64 0], qt o [] n2, qt q l' n']) ?_
    refine swp_exit ?_
    refine then_x ?_
    refine then_x ?_
    refine block_hit rfl ?_
    simp only [putAll, List.length_nil, Nat.add_zero] at hp hn
    rw [← hp, ← hn]
    exact done_end [qt q l' n', qt o [] n2] .nil ⟨rfl, rfl⟩ (by repeat (first | exact Split.nil | (apply Split.cons; (repeat (first | with_reducible exact Take.here | apply Take.there)))))
  | cons x U =>
    refine swp_cond (b := _) rfl (fun h18 => ?_) (fun h => by cases h)
    simp only [List.length_cons] at hn hl
    refine swp_skip ?_
    refine then_n ?_
    refine swp_seq ?_
    refine swp_block ?_
    refine swp_region ?_
    refine swl_ent (Ent.refl [blk b4 27 [.int .i64 x.1, .int .i64 x.2], qt o U n2, qt q l' n']) ?_
    refine s_pu (pu_move rfl) ?_
    first | refine s_rd (rd_loadW rfl rfl) ?_ | refine s_rd (rd_loadX rfl rfl rfl) ?_
    refine s_ef (ef_fn (push_t q l' n' x (by omega) (by omega)) rfl rfl (by repeat (first | exact Split.nil | (apply Split.cons; (repeat (first | with_reducible exact Take.here | apply Take.there)))))) ?_
    rintro v L1 ⟨rfl, rfl⟩
    refine swl_app ?_
    refine swl_sub _ (.cons (t := 0) rfl (.cons (t := 1) rfl (.cons (t := 4) rfl .nil))) ?_
    refine swl_nil ?_
    refine block_n ?_
    refine then_n ?_
    refine swp_seq ?_
    refine swp_seq ?_
    refine swp_region ?_
    first | refine s_rd (rd_loadW rfl rfl) ?_ | refine s_rd (rd_loadX rfl rfl rfl) ?_
    refine swl_sub _ (.cons (t := 0) rfl (.cons (t := 1) rfl (.cons (t := 27) rfl .nil))) ?_
    refine swl_nil ?_
    refine then_n ?_
    refine swp_region ?_
    refine s_ef (ef_alloc) ?_
    intro b4
    refine s_ef0 (ef_storeA rfl rfl rfl rfl) ?_
    refine swl_sub _ (.cons (t := 0) rfl (.cons (t := 1) rfl (.cons (t := 4) rfl .nil))) ?_
    refine swl_nil ?_
    refine then_n ?_
    refine swp_region ?_
    cases U with
    | nil =>
      refine s_pu (pu_move rfl) ?_
      refine s_ef (ef_fn (pop_t0 o n2) rfl rfl (by repeat (first | exact Split.nil | (apply Split.cons; (repeat (first | with_reducible exact Take.here | apply Take.there)))))) ?_
      rintro v L1 ⟨rfl, rfl⟩
      refine swl_app ?_
      refine s_pu (pu_move rfl) ?_
      refine s_pu (pu_extract rfl rfl) ?_
      refine s_pu (pu_extract rfl rfl) ?_
      refine s_ef0 (ef_storeA rfl rfl rfl rfl) ?_
      refine s_pu (pu_assign rfl) ?_
      refine swl_sub _ (.cons (t := 0) rfl (.cons (t := 1) rfl (.cons (t := 4) rfl (.cons (t := 5) rfl .nil)))) ?_
      refine swl_ent (Split.ent' (K := [blk b4 27 [.int .i64 (0, 0).1, .int .i64 (0, 0).2], qt o [] n2, qt q (put l' x) (n' + 1)]) (by repeat (first | exact Split.nil | (apply Split.cons; (repeat (first | with_reducible exact Take.here | apply Take.there)))))) ?_
      refine swl_nil ?_
      exact then_n ⟨[], ⟨put l' x, n' + 1, _, hp, by simp only [List.length_nil] at hn ⊢; omega, by rw [put_len]; simp only [List.length_nil] at hl ⊢; omega, rfl, rfl⟩, by simp⟩
    | cons y U =>
      refine s_pu (pu_move rfl) ?_
      refine s_ef (ef_fn (pop_t o n2 y U (by omega)) rfl rfl (by repeat (first | exact Split.nil | (apply Split.cons; (repeat (first | with_reducible exact Take.here | apply Take.there)))))) ?_
      rintro v L1 ⟨rfl, rfl⟩
      refine swl_app ?_
      refine s_pu (pu_move rfl) ?_
      refine s_pu (pu_extract rfl rfl) ?_
      refine s_pu (pu_extract rfl rfl) ?_
      refine s_ef0 (ef_storeA rfl rfl rfl rfl) ?_
      refine s_pu (pu_assign rfl) ?_
      refine swl_sub _ (.cons (t := 0) rfl (.cons (t := 1) rfl (.cons (t := 4) rfl (.cons (t := 5) rfl .nil)))) ?_
      refine swl_ent (Split.ent' (K := [blk b4 27 [.int .i64 y.1, .int .i64 y.2], qt o U n2, qt q (put l' x) (n' + 1)]) (by repeat (first | exact Split.nil | (apply Split.cons; (repeat (first | with_reducible exact Take.here | apply Take.there)))))) ?_
      refine swl_nil ?_
      exact then_n ⟨y :: U, ⟨put l' x, n' + 1, _, hp, by simp only [List.length_cons] at hn ⊢; omega, by rw [put_len]; simp only [List.length_cons] at hl ⊢; omega, rfl, rfl⟩, by simp⟩
end SX
