/- A part of the proof: walks of the seat's functions, by the rules of the texts that it imports. -/
import Derived.Test.YtplekpdckcidjaaQu5
namespace SX
open Go Go.Proofs

theorem Spec.exA {P : Program} {f : FuncId} {args : List Value} {pre : List Assn} {post : Value → List Assn → Prop} {α : Type} {F : α → List Assn} (h : ∀ x, Spec P f args (F x ++ pre) post) : Spec P f args (exA F :: pre) post := fun E w hw => by
  obtain ⟨k1, k2, k3, k4, k5⟩ := hw
  have k6 : Sat (SX.exA F :: (E.X ++ pre)) (fun b => w.heap[b]?) := Sat.perm (perm_out (.refl _)) _ k5
  obtain ⟨x, hx⟩ := exA_open k6
  exact h x E w ⟨k1, k2, k3, k4, Sat.perm (by rw [← List.append_assoc, ← List.append_assoc]; exact List.Perm.append_right _ List.perm_append_comm) _ hx⟩
theorem Spec.ent {P : Program} {f : FuncId} {args : List Value} {pre : List Assn} {u : Value} {L1 L2 : List Assn} (h : Spec P f args pre (fun v L => v = u ∧ L = L1)) (e : Ent L1 L2) : Spec P f args pre (fun v L => v = u ∧ L = L2) := fun E w hw =>
  (h E w hw).mono fun _ _ ⟨v, _, a, ⟨b, c⟩, d⟩ => ⟨v, L2, a, ⟨b, rfl⟩, d.ent (c ▸ e)⟩

theorem ltT_ord : Hp.Ord ltT := ⟨fun a b h => by simp [ltT] at *; omega, fun a b c h1 h2 => by simp [ltT] at *; omega⟩
theorem aT_trans (a b c : Th × Nat) (h1 : aT a b = true) (h2 : aT b c = true) : aT a c = true := Hp.ahd_trans ltT_ord a b c h1 h2

/-- a queue, by what comes out -/
def qa (q : Nat) (S : List (Th × Nat)) (nxt : Nat) : Assn := exA (fun es : {es : List (Th × Nat) // Hp.Rep aT es S ∧ ∀ y ∈ S, y.2 < nxt} => [qraw q es.1 nxt])
theorem qa_close {q nxt : Nat} {es S : List (Th × Nat)} {L : List Assn} (h : Hp.Rep aT es S) (h2 : ∀ y ∈ S, y.2 < nxt) : Ent (qraw q es nxt :: L) (qa q S nxt :: L) :=
  ent_ex (F := fun es : {es : List (Th × Nat) // Hp.Rep aT es S ∧ ∀ y ∈ S, y.2 < nxt} => [qraw q es.1 nxt]) ⟨es, h, h2⟩ (by repeat (first | exact Split.nil | (apply Split.cons; (repeat (first | with_reducible exact Take.here | apply Take.there)))))

theorem push_a (q : Nat) (S : List (Th × Nat)) (nxt : Nat) (x : Th) (hb1 : S.length ≤ 1099511627776) (hb2 : nxt ≤ 18446744073709551614) :
    Spec Try.prog 16 [.pointer (some ⟨q, 0, none⟩), thV x] [qa q S nxt] (fun v L => v = .tuple #[] ∧ L = [qa q (Hp.ins aT (x, nxt) S) (nxt + 1)]) := by
  refine Spec.exA fun ⟨es, hr, hn⟩ => ?_
  refine Spec.ent (push_raw q es nxt x (by rw [hr.length]; exact hb1) hb2) (qa_close ?_ ?_)
  · refine hr.push (Hp.ahd_ord ltT_ord) aT_trans fun y hy h => Hp.ahd_total (by have := hn y hy; simp only; omega) h
  · intro y hy
    rcases Hp.mem_ins.1 hy with rfl | hy
    · simp
    · have := hn y hy; omega
theorem pop_a0 (q nxt : Nat) : Spec Try.prog 10 [.pointer (some ⟨q, 0, none⟩)] [qa q [] nxt] (fun v L => v = .tuple #[thV (0, 0), .bool false] ∧ L = [qa q [] nxt]) := by
  refine Spec.exA fun ⟨es, hr, hn⟩ => ?_
  have he : es = [] := List.eq_nil_of_length_eq_zero (by rw [hr.length]; rfl)
  subst he
  exact Spec.ent (pop_raw0 q nxt) (qa_close hr hn)
theorem pop_a (q nxt : Nat) (s : Th × Nat) (S : List (Th × Nat)) (hb : (s :: S).length ≤ 1099511627776) : Spec Try.prog 10 [.pointer (some ⟨q, 0, none⟩)] [qa q (s :: S) nxt] (fun v L => v = .tuple #[thV s.1, .bool true] ∧ L = [qa q S nxt]) := by
  refine Spec.exA fun ⟨es, hr, hn⟩ => ?_
  cases es with
  | nil => have := hr.length; simp at this
  | cons e es =>
    have hz : e = s := hr.head (Hp.ahd_ord ltT_ord) rfl
    subst hz
    exact Spec.ent (pop_raw q nxt e es (by rw [hr.length]; exact hb)) (qa_close (hr.pop (Hp.ahd_ord ltT_ord)) fun y hy => hn y (List.mem_cons_of_mem _ hy))
theorem len_a (q : Nat) (S : List (Th × Nat)) (nxt : Nat) : Spec Try.prog 15 [.pointer (some ⟨q, 0, none⟩)] [qa q S nxt] (fun v L => v = .int .i64 S.length ∧ L = [qa q S nxt]) := by
  refine Spec.exA fun ⟨es, hr, hn⟩ => ?_
  have h := Spec.ent (len_raw q es nxt) (qa_close (L := []) hr hn)
  rw [hr.length] at h
  exact h
theorem peek_a0 (q nxt : Nat) : Spec Try.prog 26 [.pointer (some ⟨q, 0, none⟩)] [qa q [] nxt] (fun v L => v = .tuple #[thV (0, 0), .bool false] ∧ L = [qa q [] nxt]) := by
  refine Spec.exA fun ⟨es, hr, hn⟩ => ?_
  have he : es = [] := List.eq_nil_of_length_eq_zero (by rw [hr.length]; rfl)
  subst he
  exact Spec.ent (peek_raw0 q nxt) (qa_close hr hn)
theorem peek_a (q nxt : Nat) (s : Th × Nat) (S : List (Th × Nat)) : Spec Try.prog 26 [.pointer (some ⟨q, 0, none⟩)] [qa q (s :: S) nxt] (fun v L => v = .tuple #[thV s.1, .bool true] ∧ L = [qa q (s :: S) nxt]) := by
  refine Spec.exA fun ⟨es, hr, hn⟩ => ?_
  cases es with
  | nil => have := hr.length; simp at this
  | cons e es =>
    have hz : e = s := hr.head (Hp.ahd_ord ltT_ord) rfl
    subst hz
    exact Spec.ent (peek_raw q nxt e es) (qa_close hr hn)

/-- what pushing one behind the other leaves -/
def pushTo : List (Th × Nat) → Nat → List Th → List (Th × Nat)
  | S, _, [] => S
  | S, n, x :: xs => pushTo (Hp.ins aT (x, n) S) (n + 1) xs
theorem ins_len (x : Th × Nat) (S : List (Th × Nat)) : (Hp.ins aT x S).length = S.length + 1 := by rw [(Hp.ins_perm x S).length_eq]; rfl
theorem pushTo_len : ∀ (xs : List Th) (S : List (Th × Nat)) (n : Nat), (pushTo S n xs).length = S.length + xs.length
  | [], S, n => by simp [pushTo]
  | x :: xs, S, n => by rw [pushTo, pushTo_len xs, ins_len]; simp; omega

def tcs (x : Th) : List Value := [.int .i64 x.1, .int .i64 x.2]
theorem tcs_len (x : Th) : (tcs x).length = 2 := rfl
def ths (xs : List Th) : List Value := xs.flatMap tcs
theorem ths_len (xs : List Th) : (ths xs).length = xs.length * 2 := by unfold ths; rw [flat_length tcs_len]

theorem qraw_new {q b : Nat} {L : List Assn} (hb : q = b) : Ent (blk b 69 [.slice none 0 0, .int .u64 0] :: L) (qa q [] 0 :: L) := by
  subst hb
  refine Ent.trans ?_ (qa_close Hp.Rep.nil (by simp))
  refine Ent.imp fun m hm => ?_
  exact ⟨.slice none 0 0, m, fun _ => none, hm, ⟨fun _ => none, fun _ => none, own_nil _ _ _, trivial, by simp, by simp, by simp⟩, by simp, fun _ _ h => h, by simp⟩

theorem new_blk (g cap : Nat) (xs : List Th) (ex : List Value) (hb : xs.length ≤ 1099511627776) :
    Spec Try.prog 9 [.slice (some ⟨g, 0, none⟩) xs.length cap] [blk g 27 (ths xs ++ ex)] (fun v L => ∃ q, v = .pointer (some ⟨q, 0, none⟩) ∧ L = [qa q (pushTo [] 0 xs) xs.length, blk g 27 (ths xs ++ ex)]) := by
  refine Spec.of 19 Try.func9 rfl rfl rfl ?_
  refine swp_seq ?_
  refine swp_region ?_
  refine s_pu (pu_assign rfl) ?_
  refine swl_sub _ (.cons (t := 0) rfl .nil) ?_
  refine swl_nil ?_
  refine then_n ?_
  refine swp_seq ?_
  refine swp_region ?_
  refine s_pu (pu_bld (qs := []) rfl) ?_
  refine s_ef (ef_box rfl rfl) ?_
  intro b7
  refine s_pu (pu_assign rfl) ?_
  refine swl_sub _ (.cons (t := 0) rfl (.cons (t := 3) rfl .nil)) ?_
  refine swl_nil ?_
  refine then_n ?_
  refine swp_ent (qraw_new rfl) ?_
  refine swp_seq ?_
  refine swp_seq ?_
  refine swp_region ?_
  refine s_pu (pu_move rfl) ?_
  refine s_pu (pu_len rfl) ?_
  refine s_pu (pu_move rfl) ?_
  refine swl_sub _ (.cons (t := 3) rfl (.cons (t := 8) rfl (.cons (t := 9) rfl (.cons (t := 10) rfl .nil)))) ?_
  refine swl_nil ?_
  refine then_n ?_
  refine swp_block ?_
  refine swp_loop (ι := Nat × List (Th × Nat)) (fun k env L => k.1 ≤ xs.length ∧ pushTo k.2 k.1 (xs.drop k.1) = pushTo [] 0 xs ∧ k.2.length = k.1 ∧ env = [(3, _), (8, _), (9, .int .i64 xs.length), (10, .int .i64 (k.1 : Nat))] ∧ L = [qa _ k.2 k.1, blk g 27 (ths xs ++ ex)]) (fun k => xs.length - k.1) (0, []) ⟨Nat.zero_le _, rfl, rfl, rfl, rfl⟩ ?_
  rintro ⟨k, S⟩ env L ⟨hk, hS, hlen, rfl, rfl⟩
  simp only at hk hS hlen
  refine swp_seq ?_
  refine swp_region ?_
  refine s_pu (pu_lss rfl rfl) ?_
  refine swl_sub _ (.cons (t := 3) rfl (.cons (t := 8) rfl (.cons (t := 9) rfl (.cons (t := 10) rfl (.cons (t := 11) rfl .nil))))) ?_
  refine swl_nil ?_
  refine then_n ?_
  refine swp_seq ?_
  refine swp_cond (b := _) rfl (fun h11 => ?_) (fun h11 => ?_)
  · simp at h11
    obtain ⟨x, hx⟩ : ∃ x, xs[k]? = some x := ⟨_, List.getElem?_eq_getElem h11⟩
    have hd : xs.drop k = x :: xs.drop (k + 1) := by rw [List.drop_eq_getElem_cons h11]; rw [List.getElem?_eq_getElem h11] at hx; cases hx; rfl
    refine swp_skip ?_
    refine then_n ?_
    refine swp_seq ?_
    refine swp_block ?_
    refine swp_seq ?_
    refine swp_region ?_
    refine s_pu (pu_indexAddr (k * 2) rfl rfl (by omega) (by omega) (by omega)) ?_
    refine s_rd (rd_loadA (vs := [.int .i64 x.1, .int .i64 x.2]) rfl (by rfl) (flat_get tcs_len xs ex k x hx)) ?_
    refine s_ef (ef_alloc) ?_
    intro b5
    refine s_ef0 (ef_storeA rfl rfl rfl rfl) ?_
    refine swl_sub _ (.cons (t := 3) rfl (.cons (t := 5) rfl (.cons (t := 8) rfl (.cons (t := 9) rfl (.cons (t := 10) rfl .nil))))) ?_
    refine swl_nil ?_
    refine then_n ?_
    refine swp_region ?_
    refine s_pu (pu_move rfl) ?_
    first | refine s_rd (rd_loadW rfl rfl) ?_ | refine s_rd (rd_loadX rfl rfl rfl) ?_
    refine s_ef (ef_fn (push_a _ S k x (by omega) (by omega)) rfl rfl (by repeat (first | exact Split.nil | (apply Split.cons; (repeat (first | with_reducible exact Take.here | apply Take.there)))))) ?_
    rintro v L1 ⟨rfl, rfl⟩
    refine swl_app ?_
    refine swl_sub _ (.cons (t := 3) rfl (.cons (t := 8) rfl (.cons (t := 9) rfl (.cons (t := 10) rfl .nil)))) ?_
    refine swl_nil ?_
    refine block_n ?_
    refine then_n ?_
    refine swp_region ?_
    refine s_pu (pu_add_as ((k + 1 : Nat) : Int) rfl rfl (by omega) (by omega) (by omega)) ?_
    refine s_pu (pu_move rfl) ?_
    refine swl_sub _ (.cons (t := 3) rfl (.cons (t := 8) rfl (.cons (t := 9) rfl (.cons (t := 10) rfl .nil)))) ?_
    refine swl_ent (Split.ent' (K := [qa b7 (Hp.ins aT (x, k) S) (k + 1), blk g 27 (ths xs ++ ex)]) (by repeat (first | exact Split.nil | (apply Split.cons; (repeat (first | with_reducible exact Take.here | apply Take.there)))))) ?_
    refine swl_nil ?_
    refine then_n ⟨(k + 1, Hp.ins aT (x, k) S), ?_, by simp only; omega⟩
    exact ⟨by omega, by rw [← hS, hd]; rfl, by rw [ins_len, hlen], rfl, rfl⟩
  · simp at h11
    have hk2 : k = xs.length := by omega
    subst hk2
    refine swp_exit ?_
    refine then_x ?_
    refine then_x ?_
    refine block_hit rfl ?_
    refine then_n ?_
    refine swp_seq ?_
    refine swp_region ?_
    refine s_pu (pu_move rfl) ?_
    refine s_pu (pu_assign rfl) ?_
    refine swl_sub _ (.cons (t := 2) rfl .nil) ?_
    refine swl_nil ?_
    refine then_n ?_
    refine swp_ret ?_
    rw [List.drop_length] at hS
    simp only [pushTo] at hS
    subst hS
    exact done_ret _ (.tmp rfl .nil) ⟨_, rfl, rfl⟩ (by repeat (first | exact Split.nil | (apply Split.cons; (repeat (first | with_reducible exact Take.here | apply Take.there)))))
end SX
