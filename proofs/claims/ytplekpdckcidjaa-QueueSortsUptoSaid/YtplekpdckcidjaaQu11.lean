/- A part of the proof: walks of the seat's functions, by the rules of the texts that it imports. -/
import Derived.Test.YtplekpdckcidjaaQu10
namespace SX
open Go Go.Proofs

theorem ins_put (x : Th) (n : Nat) : ∀ (S : List (Th × Nat)), (∀ y ∈ S, y.2 < n) → (Hp.ins aT (x, n) S).map (·.1) = put (S.map (·.1)) x
  | [], _ => rfl
  | y :: S, h => by
    have hy : y.2 < n := h y (by simp)
    have ih := ins_put x n S (fun z hz => h z (by simp [hz]))
    unfold Hp.ins
    rw [aT_eq]
    have e1 : decide ((n : Int) < (y.2 : Nat)) = false := by simp; omega
    simp only [e1, Bool.and_false, Bool.or_false, decide_eq_true_eq]
    unfold put
    simp only [List.map_cons, putN]
    by_cases hlt : x.1 < y.1.1
    · rw [if_pos hlt, if_neg (by omega)]; simp
    · rw [if_neg hlt, if_pos (by omega)]
      simp only [List.map_cons, List.take_succ_cons, List.drop_succ_cons, List.cons_append]
      rw [ih]; rfl

/-- a queue, by the list that the document keeps -/
def qt (q : Nat) (l : List Th) (nxt : Nat) : Assn := exA (fun S : {S : List (Th × Nat) // S.map (·.1) = l} => [qa q S.1 nxt])
theorem qt_close {q nxt : Nat} {S : List (Th × Nat)} {L : List Assn} : Ent (qa q S nxt :: L) (qt q (S.map (·.1)) nxt :: L) := ent_ex (F := fun T : {T : List (Th × Nat) // T.map (·.1) = S.map (·.1)} => [qa q T.1 nxt]) ⟨S, rfl⟩ (by repeat (first | exact Split.nil | (apply Split.cons; (repeat (first | with_reducible exact Take.here | apply Take.there)))))
theorem qt_close' {q nxt : Nat} {l : List Th} {S : List (Th × Nat)} {L : List Assn} (h : S.map (·.1) = l) : Ent (qa q S nxt :: L) (qt q l nxt :: L) := h ▸ qt_close
theorem Spec.fact {P : Program} {f : FuncId} {args : List Value} {pre : List Assn} {post : Value → List Assn → Prop} {p : Prop} (hp : ∀ m, Sat pre m → p) (h : p → Spec P f args pre post) : Spec P f args pre post := fun E w hw => h (hp _ hw.sat) E w hw
theorem qa_fact {q nxt : Nat} {S : List (Th × Nat)} {L : List Assn} {m : PH} (h : Sat (qa q S nxt :: L) m) : ∀ y ∈ S, y.2 < nxt := by
  obtain ⟨_, _, ⟨es, _⟩, _⟩ := h
  exact es.2.2

theorem push_t (q : Nat) (l : List Th) (nxt : Nat) (x : Th) (hb1 : l.length ≤ 1099511627776) (hb2 : nxt ≤ 18446744073709551614) :
    Spec Try.prog 16 [.pointer (some ⟨q, 0, none⟩), thV x] [qt q l nxt] (fun v L => v = .tuple #[] ∧ L = [qt q (put l x) (nxt + 1)]) := by
  refine Spec.exA fun ⟨S, hS⟩ => ?_
  refine Spec.fact (fun m h => qa_fact h) fun hlt => ?_
  exact Spec.ent (push_a q S nxt x (by rw [← hS] at hb1; simpa using hb1) hb2) (qt_close' (by rw [ins_put x nxt S hlt, hS]))
theorem pop_t0 (q nxt : Nat) : Spec Try.prog 10 [.pointer (some ⟨q, 0, none⟩)] [qt q [] nxt] (fun v L => v = .tuple #[thV (0, 0), .bool false] ∧ L = [qt q [] nxt]) := by
  refine Spec.exA fun ⟨S, hS⟩ => ?_
  have : S = [] := by simpa using hS
  subst this
  exact Spec.ent (pop_a0 q nxt) qt_close
theorem pop_t (q nxt : Nat) (x : Th) (l : List Th) (hb : (x :: l).length ≤ 1099511627776) : Spec Try.prog 10 [.pointer (some ⟨q, 0, none⟩)] [qt q (x :: l) nxt] (fun v L => v = .tuple #[thV x, .bool true] ∧ L = [qt q l nxt]) := by
  refine Spec.exA fun ⟨S, hS⟩ => ?_
  cases S with
  | nil => simp at hS
  | cons e S =>
    simp only [List.map_cons, List.cons.injEq] at hS
    obtain ⟨rfl, rfl⟩ := hS
    exact Spec.ent (pop_a q nxt e S (by simpa using hb)) qt_close
theorem len_t (q : Nat) (l : List Th) (nxt : Nat) : Spec Try.prog 15 [.pointer (some ⟨q, 0, none⟩)] [qt q l nxt] (fun v L => v = .int .i64 l.length ∧ L = [qt q l nxt]) := by
  refine Spec.exA fun ⟨S, hS⟩ => ?_
  have h := Spec.ent (len_a q S nxt) (qt_close (L := []))
  rw [hS] at h
  have e : l.length = S.length := by rw [← hS]; simp
  rw [e]; exact h
theorem peek_t0 (q nxt : Nat) : Spec Try.prog 26 [.pointer (some ⟨q, 0, none⟩)] [qt q [] nxt] (fun v L => v = .tuple #[thV (0, 0), .bool false] ∧ L = [qt q [] nxt]) := by
  refine Spec.exA fun ⟨S, hS⟩ => ?_
  have : S = [] := by simpa using hS
  subst this
  exact Spec.ent (peek_a0 q nxt) qt_close
theorem peek_t (q nxt : Nat) (x : Th) (l : List Th) : Spec Try.prog 26 [.pointer (some ⟨q, 0, none⟩)] [qt q (x :: l) nxt] (fun v L => v = .tuple #[thV x, .bool true] ∧ L = [qt q (x :: l) nxt]) := by
  refine Spec.exA fun ⟨S, hS⟩ => ?_
  cases S with
  | nil => simp at hS
  | cons e S =>
    simp only [List.map_cons, List.cons.injEq] at hS
    obtain ⟨rfl, rfl⟩ := hS
    exact Spec.ent (peek_a q nxt e S) qt_close
theorem all_iter_t (b q nxt : Nat) (l : List Th) (hb : l.length ≤ 1099511627776) :
    Iter Try.prog 33 [.pointer (some ⟨b, 0, none⟩)] (fun x : Th => [thV x]) (fun pre x => ∃ post, l = pre ++ x :: post) (fun ys => ys = l) [blk b 28 [.pointer (some ⟨q, 0, none⟩)], qt q l nxt] := by
  intro ln I X R h0 hy
  refine Spec.pre ?_ Ent.swap
  refine Spec.exA fun ⟨S, hS⟩ => ?_
  subst hS
  refine Spec.pre ?_ Ent.swap
  exact all_iter b q nxt S (by simpa using hb) ln I X R ((Ent.cons qt_close).trans h0) hy

theorem new_nil : Spec Try.prog 9 [.slice none 0 0] [] (fun v L => ∃ q, v = .pointer (some ⟨q, 0, none⟩) ∧ L = [qa q [] 0]) := by
  refine Spec.of 19 Try.func9 rfl rfl rfl ?_
  refine swp_seq ?_
  refine swp_region ?_
  refine s_pu (pu_assign rfl) ?_
  refine swl_sub _ (.cons (t := 0) rfl .nil) ?_
  refine swl_nil ?_
  refine then_n ?_
  refine swp_seq ?_
  refine swp_region ?_
  refine s_pu (pu_bld (qs := []) rfl) ?_
  refine s_ef (ef_box rfl rfl) ?_
  intro b7
  refine s_pu (pu_assign rfl) ?_
  refine swl_sub _ (.cons (t := 0) rfl (.cons (t := 3) rfl .nil)) ?_
  refine swl_nil ?_
  refine then_n ?_
  refine swp_ent (qraw_new rfl) ?_
  refine swp_seq ?_
  refine swp_seq ?_
  refine swp_region ?_
  refine s_pu (pu_move rfl) ?_
  refine s_pu (pu_len rfl) ?_
  refine s_pu (pu_move rfl) ?_
  refine swl_sub _ (.cons (t := 3) rfl (.cons (t := 8) rfl (.cons (t := 9) rfl (.cons (t := 10) rfl .nil)))) ?_
  refine swl_nil ?_
  refine then_n ?_
  refine swp_block ?_
  refine swp_loop (ι := Unit) (fun _ env L => env = [(3, _), (8, _), (9, .int .i64 0), (10, .int .i64 0)] ∧ L = [qa _ [] 0]) (fun _ => 0) () ⟨rfl, rfl⟩ ?_
  rintro _ env L ⟨rfl, rfl⟩
  refine swp_seq ?_
  refine swp_region ?_
  refine s_pu (pu_lss rfl rfl) ?_
  refine swl_sub _ (.cons (t := 3) rfl (.cons (t := 8) rfl (.cons (t := 9) rfl (.cons (t := 10) rfl (.cons (t := 11) rfl .nil))))) ?_
  refine swl_nil ?_
  refine then_n ?_
  refine swp_seq ?_
  refine swp_cond (b := _) rfl (fun h11 => by cases h11) (fun h11 => ?_)
  refine swp_exit ?_
  refine then_x ?_
  refine then_x ?_
  refine block_hit rfl ?_
  refine then_n ?_
  refine swp_seq ?_
  refine swp_region ?_
  refine s_pu (pu_move rfl) ?_
  refine s_pu (pu_assign rfl) ?_
  refine swl_sub _ (.cons (t := 2) rfl .nil) ?_
  refine swl_nil ?_
  refine then_n ?_
  refine swp_ret ?_
  exact done_ret _ (.tmp rfl .nil) ⟨_, rfl, rfl⟩ (by repeat (first | exact Split.nil | (apply Split.cons; (repeat (first | with_reducible exact Take.here | apply Take.there)))))
theorem new_nil_t : Spec Try.prog 9 [.slice none 0 0] [] (fun v L => ∃ q, v = .pointer (some ⟨q, 0, none⟩) ∧ L = [qt q [] 0]) := fun E w hw =>
  (new_nil E w hw).mono fun _ _ ⟨v, _, a, ⟨q, b, c⟩, d⟩ => ⟨v, _, a, ⟨q, b, rfl⟩, d.ent (c ▸ qt_close)⟩
end SX
