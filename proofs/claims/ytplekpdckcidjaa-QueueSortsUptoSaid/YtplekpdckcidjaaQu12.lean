/- A part of the proof: walks of the seat's functions, by the rules of the texts that it imports. -/
import Derived.Test.YtplekpdckcidjaaQu11
namespace SX
open Go Go.Proofs

def ics (n : Int) : List Value := [.int .i64 n]
theorem ics_len (n : Int) : (ics n).length = 1 := rfl
def intsC (xs : List Int) : List Value := xs.flatMap ics

theorem Row.form {μ : PH} {v : Value} {n l : Nat} {xs : List Value} (h : Row μ v n l xs) : ∃ A cap, v = .slice A l cap := by
  obtain ⟨_, A, cap, rfl, _⟩ := h; exact ⟨A, cap, rfl⟩
theorem pu_neg_as {P : Program} {env : Env} {t : TypeId} {x : Operand} {n : Int} (c : Int) (hx : evalE env x = some (.int .i64 n)) (h : c = -n) (h1 : -9223372036854775808 ≤ c) (h2 : c ≤ 9223372036854775807) : Pu P env (.unOp .neg t x) (.int .i64 c) := by
  have := pu_neg (P := P) (t := t) hx
  rw [show (0 : Int) - n = c by omega, wrap_i64 h1 h2] at this; exact this
/-- the list that is kept beside the queue -/
def putsFrom : List Th → Nat → List Int → List Th
  | l, _, [] => l
  | l, k, n :: ns => putsFrom (put l (n, (k : Int))) (k + 1) ns
theorem putsFrom_len : ∀ (ns : List Int) (l : List Th) (k : Nat), (putsFrom l k ns).length = l.length + ns.length
  | [], l, k => by simp [putsFrom]
  | n :: ns, l, k => by rw [putsFrom, putsFrom_len ns, put_len]; simp; omega
/-- what is there behind n rounds -/
def nowN (p : Int) (l : List Th) : Nat → List Th
  | 0 => l
  | n + 1 => (put (nowN p l n) (p, -((n + 1 : Nat) : Int))).tail
theorem nowN_len (p : Int) (l : List Th) : ∀ n, (nowN p l n).length = l.length
  | 0 => rfl
  | n + 1 => by rw [nowN, List.length_tail, put_len, nowN_len p l n]; simp

set_option maxHeartbeats 1000000 in
theorem while_spec (μ : PH) (vn : Value) (ns : List Int) (p : Int) (hn : Row μ vn 1 ns.length (intsC ns)) (hb : ns.length ≤ 1048576) :
    Spec Try.prog 4 [vn, .int .i64 p] [ro μ] (fun v L => v = .bool true ∧ ∃ μ' R, Le μ μ' ∧ L = ro μ' :: R) := by
  refine Spec.of 105 Try.func4 rfl rfl rfl ?_
  refine swp_seq ?_
  refine swp_region ?_
  refine s_ef (ef_box rfl rfl) ?_
  intro b3
  refine s_ef (ef_alloc) ?_
  intro b4
  refine swl_sub _ (.cons (t := 0) rfl (.cons (t := 3) rfl (.cons (t := 4) rfl .nil))) ?_
  refine swl_nil ?_
  refine then_n ?_
  refine swp_seq ?_
  refine swp_seq ?_
  refine swp_region ?_
  refine s_ef (ef_fn ranks_spec rfl rfl (by repeat (first | exact Split.nil | (apply Split.cons; (repeat (first | with_reducible exact Take.here | apply Take.there)))))) ?_
  rintro v L1 ⟨rfl, rfl⟩
  refine swl_app ?_
  refine s_pu (pu_not rfl) ?_
  refine swl_sub _ (.cons (t := 0) rfl (.cons (t := 3) rfl (.cons (t := 4) rfl (.cons (t := 17) rfl .nil)))) ?_
  refine swl_nil ?_
  refine then_n ?_
  refine swp_cond (b := _) rfl (fun h => by cases h) (fun h => ?_)
  refine swp_skip ?_
  refine then_n ?_
  refine swp_seq ?_
  refine swp_region ?_
  refine s_ef (ef_fn new_nil_t rfl rfl (by repeat (first | exact Split.nil | (apply Split.cons; (repeat (first | with_reducible exact Take.here | apply Take.there)))))) ?_
  rintro v L1 ⟨q, rfl, rfl⟩
  refine swl_app ?_
  refine s_ef (ef_alloc) ?_
  intro b5
  refine s_ef0 (ef_store rfl rfl rfl) ?_
  refine swl_sub _ (.cons (t := 0) rfl (.cons (t := 3) rfl (.cons (t := 4) rfl (.cons (t := 5) rfl .nil)))) ?_
  refine swl_nil ?_
  refine then_n ?_
  refine swp_seq ?_
  refine swp_region ?_
  refine s_ef (ef_alloc) ?_
  intro b6
  refine swl_sub _ (.cons (t := 0) rfl (.cons (t := 3) rfl (.cons (t := 4) rfl (.cons (t := 5) rfl (.cons (t := 6) rfl .nil))))) ?_
  refine swl_nil ?_
  refine then_n ?_
  refine swp_cut (fun env L => ∃ μ' lv, Le μ μ' ∧ Row μ' lv 2 (putsFrom [] 0 ns).length (ths (putsFrom [] 0 ns)) ∧
    env = [(3, .pointer (some ⟨b3, 0, none⟩)), (4, .pointer (some ⟨b4, 0, none⟩)), (5, .pointer (some ⟨b5, 0, none⟩)), (6, .pointer (some ⟨b6, 0, none⟩))] ∧
    L = [blk b6 42 [lv], blk b5 28 [.pointer (some ⟨q, 0, none⟩)], qt q (putsFrom [] 0 ns) ns.length, blk b4 4 [.bool false], blk b3 3 [.int .i64 p], ro μ']) ?_ ?_
  · refine swp_seq ?_
    refine swp_region ?_
    refine s_pu (pu_move rfl) ?_
    refine s_pu (pu_len_row hn rfl) ?_
    refine s_pu (pu_move rfl) ?_
    refine swl_sub _ (.cons (t := 3) rfl (.cons (t := 4) rfl (.cons (t := 5) rfl (.cons (t := 6) rfl (.cons (t := 19) rfl (.cons (t := 20) rfl (.cons (t := 21) rfl .nil))))))) ?_
    refine swl_nil ?_
    refine then_n ?_
    refine swp_block ?_
    refine swp_loop (ι := Nat × List Th) (fun k env L => k.1 ≤ ns.length ∧ putsFrom k.2 k.1 (ns.drop k.1) = putsFrom [] 0 ns ∧ k.2.length = k.1 ∧ ∃ μ' lv, Le μ μ' ∧ Row μ' lv 2 k.2.length (ths k.2) ∧
      env = [(3, .pointer (some ⟨b3, 0, none⟩)), (4, .pointer (some ⟨b4, 0, none⟩)), (5, .pointer (some ⟨b5, 0, none⟩)), (6, .pointer (some ⟨b6, 0, none⟩)), (19, vn), (20, .int .i64 ns.length), (21, .int .i64 (k.1 : Nat))] ∧
      L = [blk b6 42 [lv], blk b5 28 [.pointer (some ⟨q, 0, none⟩)], qt q k.2 k.1, blk b4 4 [.bool false], blk b3 3 [.int .i64 p], ro μ']) (fun k => ns.length - k.1) (0, []) ⟨Nat.zero_le _, rfl, rfl, μ, _, Le.refl _, Row.nil _ _, rfl, rfl⟩ ?_
    rintro ⟨k, l⟩ env L ⟨hk, hl, hlen, μ', lv, hle, hrow, rfl, rfl⟩
    simp only at hk hl hlen hrow
    refine swp_seq ?_
    refine swp_region ?_
    refine s_pu (pu_lss rfl rfl) ?_
    refine swl_sub _ (.cons (t := 3) rfl (.cons (t := 4) rfl (.cons (t := 5) rfl (.cons (t := 6) rfl (.cons (t := 19) rfl (.cons (t := 20) rfl (.cons (t := 21) rfl (.cons (t := 22) rfl .nil)))))))) ?_
    refine swl_nil ?_
    refine then_n ?_
    refine swp_seq ?_
    refine swp_cond (b := _) rfl (fun h22 => ?_) (fun h22 => ?_)
    · simp at h22
      obtain ⟨x, hx⟩ : ∃ x, ns[k]? = some x := ⟨_, List.getElem?_eq_getElem h22⟩
      have hd : ns.drop k = x :: ns.drop (k + 1) := by rw [List.drop_eq_getElem_cons h22]; rw [List.getElem?_eq_getElem h22] at hx; cases hx; rfl
      obtain ⟨gb, off, cap, rfl, c1, c2, hnr⟩ := (hn.le hle).pos (by omega)
      have hrk := hnr.elem ics_len hx
      refine swp_skip ?_
      refine then_n ?_
      refine swp_seq ?_
      refine swp_block ?_
      refine swp_seq ?_
      refine swp_region ?_
      refine s_pu (pu_move rfl) ?_
      refine s_pu (pu_indexAddr (off + k * 1) rfl rfl (by omega) (by omega) (by simp)) ?_
      refine s_rd (rd_ro rfl hrk.cell) ?_
      refine s_pu (pu_assign rfl) ?_
      refine s_pu (pu_assign rfl) ?_
      refine swl_sub _ (.cons (t := 3) rfl (.cons (t := 4) rfl (.cons (t := 5) rfl (.cons (t := 6) rfl (.cons (t := 7) rfl (.cons (t := 8) rfl (.cons (t := 19) rfl (.cons (t := 20) rfl (.cons (t := 21) rfl .nil))))))))) ?_
      refine swl_nil ?_
      refine then_n ?_
      refine swp_seq ?_
      refine swp_region ?_
      refine s_rd (rd_load rfl rfl) ?_
      refine s_pu (pu_move rfl) ?_
      refine s_pu (pu_move rfl) ?_
      refine s_pu (pu_bld (qs := [(0, _), (1, _)]) rfl) ?_
      refine s_ef (ef_fn (push_t q l k (x, (k : Int)) (by omega) (by omega)) rfl rfl (by repeat (first | exact Split.nil | (apply Split.cons; (repeat (first | with_reducible exact Take.here | apply Take.there)))))) ?_
      rintro v L1 ⟨rfl, rfl⟩
      refine swl_app ?_
      refine swl_sub _ (.cons (t := 3) rfl (.cons (t := 4) rfl (.cons (t := 5) rfl (.cons (t := 6) rfl (.cons (t := 7) rfl (.cons (t := 8) rfl (.cons (t := 19) rfl (.cons (t := 20) rfl (.cons (t := 21) rfl .nil))))))))) ?_
      refine swl_nil ?_
      refine then_n ?_
      refine swp_region ?_
      refine s_rd (rd_load rfl rfl) ?_
      refine s_pu (pu_move rfl) ?_
      refine s_pu (pu_move rfl) ?_
      refine s_pu (pu_bld (qs := [(0, _), (1, _)]) rfl) ?_
      refine s_ef (ef_fn (put_spec μ' lv l (x, (k : Int)) hrow (by omega)) rfl rfl (by repeat (first | exact Split.nil | (apply Split.cons; (repeat (first | with_reducible exact Take.here | apply Take.there)))))) ?_
      rintro v L1 ⟨μ2, hle2, hrow2, rfl⟩
      refine swl_app ?_
      obtain ⟨A2, cap2, rfl⟩ := hrow2.form
      refine s_ef0 (ef_store rfl rfl rfl) ?_
      refine swl_sub _ (.cons (t := 3) rfl (.cons (t := 4) rfl (.cons (t := 5) rfl (.cons (t := 6) rfl (.cons (t := 19) rfl (.cons (t := 20) rfl (.cons (t := 21) rfl .nil))))))) ?_
      refine swl_ent (Split.ent' (K := [blk b6 42 [.slice A2 (put l (x, (k : Int))).length cap2], blk b5 28 [.pointer (some ⟨q, 0, none⟩)], qt q (put l (x, (k : Int))) (k + 1), blk b4 4 [.bool false], blk b3 3 [.int .i64 p], ro μ2]) (by repeat (first | exact Split.nil | (apply Split.cons; (repeat (first | with_reducible exact Take.here | apply Take.there)))))) ?_
      refine swl_nil ?_
      refine block_n ?_
      refine then_n ?_
      refine swp_region ?_
      refine s_pu (pu_add_as ((k + 1 : Nat) : Int) rfl rfl (by omega) (by omega) (by omega)) ?_
      refine s_pu (pu_move rfl) ?_
      refine swl_sub _ (.cons (t := 3) rfl (.cons (t := 4) rfl (.cons (t := 5) rfl (.cons (t := 6) rfl (.cons (t := 19) rfl (.cons (t := 20) rfl (.cons (t := 21) rfl .nil))))))) ?_
      refine swl_nil ?_
      exact then_n ⟨(k + 1, put l (x, (k : Int))), ⟨by simp only; omega, by rw [← hl, hd]; rfl, by simp only; rw [put_len, hlen], μ2, _, hle.trans hle2, hrow2, rfl, rfl⟩, by simp only; omega⟩
    · simp at h22
      have hk2 : k = ns.length := by omega
      subst hk2
      rw [List.drop_length] at hl
      simp only [putsFrom] at hl
      subst hl
      refine swp_sub _ (.cons (t := 3) rfl (.cons (t := 4) rfl (.cons (t := 5) rfl (.cons (t := 6) rfl .nil)))) ?_
      refine swp_exit ?_
      refine then_x ?_
      refine then_x ?_
      refine block_hit rfl ?_
      exact then_n ⟨μ', lv, hle, hrow, rfl, rfl⟩
  rintro env L ⟨μ1, lv, hle1, hrow, rfl, rfl⟩
  have hll : (putsFrom [] 0 ns).length = ns.length := by rw [putsFrom_len]; simp
  obtain ⟨l, hl⟩ : ∃ l, l = putsFrom [] 0 ns := ⟨_, rfl⟩
  rw [← hl] at hll hrow ⊢
  have hlb : l.length ≤ 1048576 := by omega
  refine swp_cut (fun env L => ∃ ab b10 b11, env = [(3, .pointer (some ⟨b3, 0, none⟩)), (4, .pointer (some ⟨b4, 0, none⟩)), (5, .pointer (some ⟨b5, 0, none⟩)), (6, .pointer (some ⟨b6, 0, none⟩)), (9, .func (.func 33) #[] #[.pointer (some ⟨ab, 0, none⟩)]), (10, .pointer (some ⟨b10, 0, none⟩)), (11, .pointer (some ⟨b11, 0, none⟩))] ∧
    Ent L [blk ab 28 [.pointer (some ⟨q, 0, none⟩)], qt q l ns.length, blk b10 3 [.int .i64 0], blk b11 42 [lv], blk b6 42 [lv], blk b5 28 [.pointer (some ⟨q, 0, none⟩)], blk b4 4 [.bool false], blk b3 3 [.int .i64 p], ro μ1]) ?_ ?_
  · obtain ⟨A0, cap0, rfl⟩ := hrow.form
    refine swp_draw [0, 2] _ [] (by simp only [List.append_nil]; exact Ent.refl _) (by kernel_rfl) ?_
    refine d_rd 0 rfl (rd_load rfl rfl) rfl (by kernel_rfl) (by kernel_rfl) (by kernel_rfl) ?_
    refine d_rd 2 rfl (rd_load rfl rfl) rfl (by kernel_rfl) (by kernel_rfl) (by kernel_rfl) ?_
    refine d_amb [1, 3, 4] (by kernel_rfl) rfl ⟨?_, ?_, ?_⟩
    · refine dA_ef 1 rfl GOn.none (ef_fn (all_a (some ⟨q, 0, none⟩)) rfl rfl (by repeat (first | exact Split.nil | (apply Split.cons; (repeat (first | with_reducible exact Take.here | apply Take.there)))))) ?_
      rintro v L1 ⟨ab, rfl, rfl⟩
      refine ⟨_, ent_app (Split.ent (by repeat (first | exact Split.nil | (apply Split.cons; (repeat (first | with_reducible exact Take.here | apply Take.there)))))), ?_⟩
      refine d_amb [3, 4] (by kernel_rfl) rfl ⟨?_, ?_⟩
      · refine dA_ef 3 rfl GOn.none ef_alloc ?_
        intro b10
        refine ⟨_, Split.ent (by repeat (first | exact Split.nil | (apply Split.cons; (repeat (first | with_reducible exact Take.here | apply Take.there))))), ?_⟩
        refine d_amb [4] (by kernel_rfl) rfl ?_
        refine dA_ef 4 rfl GOn.none ef_alloc ?_
        intro b11
        refine ⟨_, Split.ent (by repeat (first | exact Split.nil | (apply Split.cons; (repeat (first | with_reducible exact Take.here | apply Take.there))))), ?_⟩
        refine d_pu 5 rfl (pu_assign rfl) (by kernel_rfl) (by kernel_rfl) (by kernel_rfl) ?_
        refine d_ef0t 6 rfl (by kernel_rfl) (ef_store rfl rfl rfl) ?_
        refine ⟨_, Split.ent (by repeat (first | exact Split.nil | (apply Split.cons; (repeat (first | with_reducible exact Take.here | apply Take.there))))), ?_⟩
        first | refine d_fin0t 7 rfl (by kernel_rfl) (by kernel_rfl) (ef_store rfl rfl rfl) ?_ | refine d_fin0f 7 rfl (by kernel_rfl) (by kernel_rfl) (ef_store rfl rfl rfl) ?_
        refine d_sub _ (.cons (t := 3) rfl (.cons (t := 4) rfl (.cons (t := 5) rfl (.cons (t := 6) rfl (.cons (t := 9) rfl (.cons (t := 10) rfl (.cons (t := 11) rfl .nil))))))) ?_
        first | refine d_nilt (by kernel_rfl) ?_ | refine d_nilf (by kernel_rfl) ?_
        exact then_n ⟨ab, b10, b11, rfl, Split.ent' (by repeat (first | exact Split.nil | (apply Split.cons; (repeat (first | with_reducible exact Take.here | apply Take.there)))))⟩
      · refine dA_ef 4 rfl GOn.none ef_alloc ?_
        intro b11
        refine ⟨_, Split.ent (by repeat (first | exact Split.nil | (apply Split.cons; (repeat (first | with_reducible exact Take.here | apply Take.there))))), ?_⟩
        refine d_amb [3] (by kernel_rfl) rfl ?_
        refine dA_ef 3 rfl GOn.none ef_alloc ?_
        intro b10
        refine ⟨_, Split.ent (by repeat (first | exact Split.nil | (apply Split.cons; (repeat (first | with_reducible exact Take.here | apply Take.there))))), ?_⟩
        refine d_pu 5 rfl (pu_assign rfl) (by kernel_rfl) (by kernel_rfl) (by kernel_rfl) ?_
        refine d_ef0t 6 rfl (by kernel_rfl) (ef_store rfl rfl rfl) ?_
        refine ⟨_, Split.ent (by repeat (first | exact Split.nil | (apply Split.cons; (repeat (first | with_reducible exact Take.here | apply Take.there))))), ?_⟩
        first | refine d_fin0t 7 rfl (by kernel_rfl) (by kernel_rfl) (ef_store rfl rfl rfl) ?_ | refine d_fin0f 7 rfl (by kernel_rfl) (by kernel_rfl) (ef_store rfl rfl rfl) ?_
        refine d_sub _ (.cons (t := 3) rfl (.cons (t := 4) rfl (.cons (t := 5) rfl (.cons (t := 6) rfl (.cons (t := 9) rfl (.cons (t := 10) rfl (.cons (t := 11) rfl .nil))))))) ?_
        first | refine d_nilt (by kernel_rfl) ?_ | refine d_nilf (by kernel_rfl) ?_
        exact then_n ⟨ab, b10, b11, rfl, Split.ent' (by repeat (first | exact Split.nil | (apply Split.cons; (repeat (first | with_reducible exact Take.here | apply Take.there)))))⟩
    · refine dA_ef 3 rfl GOn.none ef_alloc ?_
      intro b10
      refine ⟨_, Split.ent (by repeat (first | exact Split.nil | (apply Split.cons; (repeat (first | with_reducible exact Take.here | apply Take.there))))), ?_⟩
      refine d_amb [1, 4] (by kernel_rfl) rfl ⟨?_, ?_⟩
      · refine dA_ef 1 rfl GOn.none (ef_fn (all_a (some ⟨q, 0, none⟩)) rfl rfl (by repeat (first | exact Split.nil | (apply Split.cons; (repeat (first | with_reducible exact Take.here | apply Take.there)))))) ?_
        rintro v L1 ⟨ab, rfl, rfl⟩
        refine ⟨_, ent_app (Split.ent (by repeat (first | exact Split.nil | (apply Split.cons; (repeat (first | with_reducible exact Take.here | apply Take.there)))))), ?_⟩
        refine d_amb [4] (by kernel_rfl) rfl ?_
        refine dA_ef 4 rfl GOn.none ef_alloc ?_
        intro b11
        refine ⟨_, Split.ent (by repeat (first | exact Split.nil | (apply Split.cons; (repeat (first | with_reducible exact Take.here | apply Take.there))))), ?_⟩
        refine d_pu 5 rfl (pu_assign rfl) (by kernel_rfl) (by kernel_rfl) (by kernel_rfl) ?_
        refine d_ef0t 6 rfl (by kernel_rfl) (ef_store rfl rfl rfl) ?_
        refine ⟨_, Split.ent (by repeat (first | exact Split.nil | (apply Split.cons; (repeat (first | with_reducible exact Take.here | apply Take.there))))), ?_⟩
        first | refine d_fin0t 7 rfl (by kernel_rfl) (by kernel_rfl) (ef_store rfl rfl rfl) ?_ | refine d_fin0f 7 rfl (by kernel_rfl) (by kernel_rfl) (ef_store rfl rfl rfl) ?_
        refine d_sub _ (.cons (t := 3) rfl (.cons (t := 4) rfl (.cons (t := 5) rfl (.cons (t := 6) rfl (.cons (t := 9) rfl (.cons (t := 10) rfl (.cons (t := 11) rfl .nil))))))) ?_
        first | refine d_nilt (by kernel_rfl) ?_ | refine d_nilf (by kernel_rfl) ?_
        exact then_n ⟨ab, b10, b11, rfl, Split.ent' (by repeat (first | exact Split.nil | (apply Split.cons; (repeat (first | with_reducible exact Take.here | apply Take.there)))))⟩
      · refine dA_ef 4 rfl GOn.none ef_alloc ?_
        intro b11
        refine ⟨_, Split.ent (by repeat (first | exact Split.nil | (apply Split.cons; (repeat (first | with_reducible exact Take.here | apply Take.there))))), ?_⟩
        refine d_amb [1] (by kernel_rfl) rfl ?_
        refine dA_ef 1 rfl GOn.none (ef_fn (all_a (some ⟨q, 0, none⟩)) rfl rfl (by repeat (first | exact Split.nil | (apply Split.cons; (repeat (first | with_reducible exact Take.here | apply Take.there)))))) ?_
        rintro v L1 ⟨ab, rfl, rfl⟩
        refine ⟨_, ent_app (Split.ent (by repeat (first | exact Split.nil | (apply Split.cons; (repeat (first | with_reducible exact Take.here | apply Take.there)))))), ?_⟩
        refine d_pu 5 rfl (pu_assign rfl) (by kernel_rfl) (by kernel_rfl) (by kernel_rfl) ?_
        refine d_ef0t 6 rfl (by kernel_rfl) (ef_store rfl rfl rfl) ?_
        refine ⟨_, Split.ent (by repeat (first | exact Split.nil | (apply Split.cons; (repeat (first | with_reducible exact Take.here | apply Take.there))))), ?_⟩
        first | refine d_fin0t 7 rfl (by kernel_rfl) (by kernel_rfl) (ef_store rfl rfl rfl) ?_ | refine d_fin0f 7 rfl (by kernel_rfl) (by kernel_rfl) (ef_store rfl rfl rfl) ?_
        refine d_sub _ (.cons (t := 3) rfl (.cons (t := 4) rfl (.cons (t := 5) rfl (.cons (t := 6) rfl (.cons (t := 9) rfl (.cons (t := 10) rfl (.cons (t := 11) rfl .nil))))))) ?_
        first | refine d_nilt (by kernel_rfl) ?_ | refine d_nilf (by kernel_rfl) ?_
        exact then_n ⟨ab, b10, b11, rfl, Split.ent' (by repeat (first | exact Split.nil | (apply Split.cons; (repeat (first | with_reducible exact Take.here | apply Take.there)))))⟩
    · refine dA_ef 4 rfl GOn.none ef_alloc ?_
      intro b11
      refine ⟨_, Split.ent (by repeat (first | exact Split.nil | (apply Split.cons; (repeat (first | with_reducible exact Take.here | apply Take.there))))), ?_⟩
      refine d_amb [1, 3] (by kernel_rfl) rfl ⟨?_, ?_⟩
      · refine dA_ef 1 rfl GOn.none (ef_fn (all_a (some ⟨q, 0, none⟩)) rfl rfl (by repeat (first | exact Split.nil | (apply Split.cons; (repeat (first | with_reducible exact Take.here | apply Take.there)))))) ?_
        rintro v L1 ⟨ab, rfl, rfl⟩
        refine ⟨_, ent_app (Split.ent (by repeat (first | exact Split.nil | (apply Split.cons; (repeat (first | with_reducible exact Take.here | apply Take.there)))))), ?_⟩
        refine d_amb [3] (by kernel_rfl) rfl ?_
        refine dA_ef 3 rfl GOn.none ef_alloc ?_
        intro b10
        refine ⟨_, Split.ent (by repeat (first | exact Split.nil | (apply Split.cons; (repeat (first | with_reducible exact Take.here | apply Take.there))))), ?_⟩
        refine d_pu 5 rfl (pu_assign rfl) (by kernel_rfl) (by kernel_rfl) (by kernel_rfl) ?_
        refine d_ef0t 6 rfl (by kernel_rfl) (ef_store rfl rfl rfl) ?_
        refine ⟨_, Split.ent (by repeat (first | exact Split.nil | (apply Split.cons; (repeat (first | with_reducible exact Take.here | apply Take.there))))), ?_⟩
        first | refine d_fin0t 7 rfl (by kernel_rfl) (by kernel_rfl) (ef_store rfl rfl rfl) ?_ | refine d_fin0f 7 rfl (by kernel_rfl) (by kernel_rfl) (ef_store rfl rfl rfl) ?_
        refine d_sub _ (.cons (t := 3) rfl (.cons (t := 4) rfl (.cons (t := 5) rfl (.cons (t := 6) rfl (.cons (t := 9) rfl (.cons (t := 10) rfl (.cons (t := 11) rfl .nil))))))) ?_
        first | refine d_nilt (by kernel_rfl) ?_ | refine d_nilf (by kernel_rfl) ?_
        exact then_n ⟨ab, b10, b11, rfl, Split.ent' (by repeat (first | exact Split.nil | (apply Split.cons; (repeat (first | with_reducible exact Take.here | apply Take.there)))))⟩
      · refine dA_ef 3 rfl GOn.none ef_alloc ?_
        intro b10
        refine ⟨_, Split.ent (by repeat (first | exact Split.nil | (apply Split.cons; (repeat (first | with_reducible exact Take.here | apply Take.there))))), ?_⟩
        refine d_amb [1] (by kernel_rfl) rfl ?_
        refine dA_ef 1 rfl GOn.none (ef_fn (all_a (some ⟨q, 0, none⟩)) rfl rfl (by repeat (first | exact Split.nil | (apply Split.cons; (repeat (first | with_reducible exact Take.here | apply Take.there)))))) ?_
        rintro v L1 ⟨ab, rfl, rfl⟩
        refine ⟨_, ent_app (Split.ent (by repeat (first | exact Split.nil | (apply Split.cons; (repeat (first | with_reducible exact Take.here | apply Take.there)))))), ?_⟩
        refine d_pu 5 rfl (pu_assign rfl) (by kernel_rfl) (by kernel_rfl) (by kernel_rfl) ?_
        refine d_ef0t 6 rfl (by kernel_rfl) (ef_store rfl rfl rfl) ?_
        refine ⟨_, Split.ent (by repeat (first | exact Split.nil | (apply Split.cons; (repeat (first | with_reducible exact Take.here | apply Take.there))))), ?_⟩
        first | refine d_fin0t 7 rfl (by kernel_rfl) (by kernel_rfl) (ef_store rfl rfl rfl) ?_ | refine d_fin0f 7 rfl (by kernel_rfl) (by kernel_rfl) (ef_store rfl rfl rfl) ?_
        refine d_sub _ (.cons (t := 3) rfl (.cons (t := 4) rfl (.cons (t := 5) rfl (.cons (t := 6) rfl (.cons (t := 9) rfl (.cons (t := 10) rfl (.cons (t := 11) rfl .nil))))))) ?_
        first | refine d_nilt (by kernel_rfl) ?_ | refine d_nilf (by kernel_rfl) ?_
        exact then_n ⟨ab, b10, b11, rfl, Split.ent' (by repeat (first | exact Split.nil | (apply Split.cons; (repeat (first | with_reducible exact Take.here | apply Take.there)))))⟩
  rintro env L ⟨ab, b10, b11, rfl, hE⟩
  refine swp_ent hE ?_
  refine swp_seq ?_
  refine swp_seq ?_
  refine swp_region ?_
  refine s_pu (pu_move rfl) ?_
  refine s_pu (pu_fn_eq_nil rfl rfl) ?_
  refine swl_sub _ (.cons (t := 3) rfl (.cons (t := 4) rfl (.cons (t := 5) rfl (.cons (t := 6) rfl (.cons (t := 9) rfl (.cons (t := 10) rfl (.cons (t := 11) rfl (.cons (t := 41) rfl .nil)))))))) ?_
  refine swl_nil ?_
  refine then_n ?_
  refine swp_cond (b := _) rfl (fun h => by cases h) (fun h => ?_)
  refine swp_skip ?_
  refine then_n ?_
  refine swp_seq ?_
  refine swp_seq ?_
  refine swp_region ?_
  refine s_pu (pu_move rfl) ?_
  refine swl_sub _ (.cons (t := 3) rfl (.cons (t := 4) rfl (.cons (t := 5) rfl (.cons (t := 6) rfl (.cons (t := 9) rfl (.cons (t := 10) rfl (.cons (t := 11) rfl (.cons (t := 42) rfl .nil)))))))) ?_
  refine swl_nil ?_
  refine then_n ?_
  refine swp_block ?_
  obtain ⟨C1, hC1⟩ : ∃ C1 : Nat → Assn, C1 = fun n => exA (fun s : {s : PH × Value // Le μ1 s.1 ∧ Row s.1 s.2 2 (nowN p l n).length (ths (nowN p l n))} => [blk ab 28 [.pointer (some ⟨q, 0, none⟩)], qt q (nowN p l n) (ns.length + n), blk b10 3 [.int .i64 (n : Nat)], blk b11 42 [s.1.2], blk b6 42 [lv], blk b5 28 [.pointer (some ⟨q, 0, none⟩)], blk b4 4 [.bool false], blk b3 3 [.int .i64 p], ro s.1.1]) := ⟨_, rfl⟩
  refine swp_range (all_iter_t ab q ns.length l (by omega)) (B := [blk b10 3 [.int .i64 0], blk b11 42 [lv], blk b6 42 [lv], blk b5 28 [.pointer (some ⟨q, 0, none⟩)], blk b4 4 [.bool false], blk b3 3 [.int .i64 p], ro μ1]) (fun pre => C1 pre.length) (fun _ => False) (fun _ _ => False) rfl rfl (fun _ => rfl) (Split.ent' (by repeat (first | exact Split.nil | (apply Split.cons; (repeat (first | with_reducible exact Take.here | apply Take.there)))))) ?_ ?_ ?_ ?_ ?_
  · subst hC1
    refine exA_close (L := []) (F := fun s : {s : PH × Value // Le μ1 s.1 ∧ Row s.1 s.2 2 (nowN p l 0).length (ths (nowN p l 0))} => [blk ab 28 [.pointer (some ⟨q, 0, none⟩)], qt q (nowN p l 0) (ns.length + 0), blk b10 3 [.int .i64 (0 : Nat)], blk b11 42 [s.1.2], blk b6 42 [lv], blk b5 28 [.pointer (some ⟨q, 0, none⟩)], blk b4 4 [.bool false], blk b3 3 [.int .i64 p], ro s.1.1]) ⟨(μ1, lv), Le.refl _, hrow⟩
  · rintro ln pre x ⟨post, hpost⟩
    obtain ⟨n, hn'⟩ : ∃ n, pre.length = n := ⟨_, rfl⟩
    have hn1 : (pre ++ [x]).length = n + 1 := by simp [hn']
    rw [hn', hn1]
    subst hC1
    refine swp_ex fun ⟨⟨μ2, nv⟩, hle2, hnow⟩ => ?_
    refine swp_app ?_
    simp only at hle2 hnow
    have hnl : n < l.length := by rw [hpost, ← hn']; simp
    have hxn : l[n]? = some x := by rw [hpost, ← hn']; simp
    have hlen2 : (nowN p l n).length = l.length := nowN_len p l n
    obtain ⟨gl, off, cap, rfl, c1, c2, hlr⟩ := (hrow.le hle2).pos (by omega)
    have hrk := hlr.elem tcs_len hxn
    refine swp_region ?_
    refine s_ef (ef_alloc) ?_
    intro b12
    refine s_ef0 (ef_storeA rfl rfl rfl rfl) ?_
    refine swl_sub _ (.cons (t := 3) rfl (.cons (t := 4) rfl (.cons (t := 5) rfl (.cons (t := 6) rfl (.cons (t := 10) rfl (.cons (t := 11) rfl (.cons (t := 12) rfl .nil))))))) ?_
    refine swl_nil ?_
    refine then_n ?_
    refine swp_block ?_
    refine swp_seq ?_
    refine swp_seq ?_
    refine swp_draw [0, 1, 5, 7, 8, 10] _ [] (by simp only [List.append_nil]; exact Ent.refl _) (by kernel_rfl) ?_
    refine d_rd 0 rfl (rd_load rfl rfl) rfl (by kernel_rfl) (by kernel_rfl) (by kernel_rfl) ?_
    refine d_rd 1 rfl (rd_load rfl rfl) rfl (by kernel_rfl) (by kernel_rfl) (by kernel_rfl) ?_
    refine d_pu 2 rfl (pu_len rfl) (by kernel_rfl) (by kernel_rfl) (by kernel_rfl) ?_
    refine d_pu 3 rfl (pu_geq rfl rfl) (by kernel_rfl) (by kernel_rfl) (by kernel_rfl) ?_
    refine d_pu 4 rfl (pu_move rfl) (by kernel_rfl) (by kernel_rfl) (by kernel_rfl) ?_
    refine d_split 48 rfl (fun h48 => absurd h48 (by simp; omega)) (fun h48 => ?_)
    first | refine d_rd_on 5 rfl rfl rfl (rd_loadW rfl rfl) rfl (by kernel_rfl) (by kernel_rfl) (by kernel_rfl) ?_ | refine d_rd_on 5 rfl rfl rfl (rd_loadX rfl rfl rfl) rfl (by kernel_rfl) (by kernel_rfl) (by kernel_rfl) ?_
    refine d_rd_on 7 rfl rfl rfl (rd_load rfl rfl) rfl (by kernel_rfl) (by kernel_rfl) (by kernel_rfl) ?_
    refine d_rd_on 8 rfl rfl rfl (rd_load rfl rfl) rfl (by kernel_rfl) (by kernel_rfl) (by kernel_rfl) ?_
    refine d_pu_on 9 rfl rfl rfl (pu_indexAddr (off + n * 2) rfl rfl (by omega) (by omega) (by simp)) (by kernel_rfl) (by kernel_rfl) (by kernel_rfl) ?_
    refine d_rd_on 10 rfl rfl rfl (rd_roA (vs := [.int .i64 x.1, .int .i64 x.2]) rfl (by rfl) hrk) rfl (by kernel_rfl) (by kernel_rfl) (by kernel_rfl) ?_
    refine d_amb [6] (by kernel_rfl) rfl ?_
    refine dA_ef 6 rfl (GOn.some rfl rfl) (ef_fn (mine_spec x) rfl rfl (by repeat (first | exact Split.nil | (apply Split.cons; (repeat (first | with_reducible exact Take.here | apply Take.there)))))) ?_
    rintro v L1 ⟨rfl, rfl⟩
    refine ⟨_, ent_app (Split.ent (by repeat (first | exact Split.nil | (apply Split.cons; (repeat (first | with_reducible exact Take.here | apply Take.there)))))), ?_⟩
    refine d_pu_on 11 rfl rfl rfl (pu_st2_ne rfl rfl) (by kernel_rfl) (by kernel_rfl) (by kernel_rfl) ?_
    first | refine d_pu 12 rfl (pu_pick_t rfl rfl) (by kernel_rfl) (by kernel_rfl) (by kernel_rfl) ?_ | refine d_pu 12 rfl (pu_pick_f rfl rfl) (by kernel_rfl) (by kernel_rfl) (by kernel_rfl) ?_
    first | refine d_nilt (by kernel_rfl) ?_ | refine d_nilf (by kernel_rfl) ?_
    refine then_n ?_
    refine swp_cond (b := _) rfl (fun h => absurd h (by simp)) (fun h => ?_)
    refine swp_skip ?_
    refine then_n ?_
    refine swp_seq ?_
    refine swp_region ?_
    refine s_rd (rd_load rfl rfl) ?_
    refine s_pu (pu_add_as ((n + 1 : Nat) : Int) rfl rfl (by omega) (by omega) (by omega)) ?_
    refine s_ef0 (ef_store rfl rfl rfl) ?_
    refine swl_sub _ (.cons (t := 3) rfl (.cons (t := 4) rfl (.cons (t := 5) rfl (.cons (t := 10) rfl (.cons (t := 11) rfl .nil))))) ?_
    refine swl_nil ?_
    refine then_n ?_
    refine swp_seq ?_
    refine swp_region ?_
    refine s_rd (rd_load rfl rfl) ?_
    refine s_rd (rd_load rfl rfl) ?_
    refine s_rd (rd_load rfl rfl) ?_
    refine s_pu (pu_neg_as (-((n + 1 : Nat) : Int)) rfl rfl (by omega) (by omega)) ?_
    refine s_pu (pu_bld (qs := [(0, _), (1, _)]) rfl) ?_
    refine s_ef (ef_fn (push_t q (nowN p l n) (ns.length + n) (p, -((n + 1 : Nat) : Int)) (by omega) (by omega)) rfl rfl (by repeat (first | exact Split.nil | (apply Split.cons; (repeat (first | with_reducible exact Take.here | apply Take.there)))))) ?_
    rintro v L1 ⟨rfl, rfl⟩
    refine swl_app ?_
    refine swl_sub _ (.cons (t := 3) rfl (.cons (t := 4) rfl (.cons (t := 5) rfl (.cons (t := 10) rfl (.cons (t := 11) rfl .nil))))) ?_
    refine swl_nil ?_
    refine then_n ?_
    refine swp_seq ?_
    refine swp_region ?_
    refine s_rd (rd_load rfl rfl) ?_
    refine s_rd (rd_load rfl rfl) ?_
    refine s_rd (rd_load rfl rfl) ?_
    refine s_pu (pu_neg_as (-((n + 1 : Nat) : Int)) rfl rfl (by omega) (by omega)) ?_
    refine s_pu (pu_bld (qs := [(0, _), (1, _)]) rfl) ?_
    refine s_ef (ef_fn (put_spec μ2 nv (nowN p l n) (p, -((n + 1 : Nat) : Int)) hnow (by omega)) rfl rfl (by repeat (first | exact Split.nil | (apply Split.cons; (repeat (first | with_reducible exact Take.here | apply Take.there)))))) ?_
    rintro v L1 ⟨μ3, hle3, hnow3, rfl⟩
    obtain ⟨A3, cap3, rfl⟩ := hnow3.form
    refine swl_app ?_
    refine s_ef0 (ef_store rfl rfl rfl) ?_
    refine swl_sub _ (.cons (t := 4) rfl (.cons (t := 5) rfl (.cons (t := 11) rfl .nil))) ?_
    refine swl_nil ?_
    refine then_n ?_
    refine swp_seq ?_
    refine swp_seq ?_
    refine swp_region ?_
    obtain ⟨y, t, hyt⟩ : ∃ y t, put (nowN p l n) (p, -((n + 1 : Nat) : Int)) = y :: t := by
      cases h : put (nowN p l n) (p, -((n + 1 : Nat) : Int)) with
      | nil => have := put_len (nowN p l n) (p, -((n + 1 : Nat) : Int)); rw [h] at this; simp at this
      | cons y t => exact ⟨y, t, rfl⟩
    have htl : t = nowN p l (n + 1) := by rw [nowN, hyt]; rfl
    have htn : t.length = l.length := by rw [htl, nowN_len]
    rw [hyt] at hnow3 ⊢
    refine s_rd (rd_load rfl rfl) ?_
    refine s_ef (ef_fn (pop_t q (ns.length + n + 1) y t (by rw [List.length_cons]; omega)) rfl rfl (by repeat (first | exact Split.nil | (apply Split.cons; (repeat (first | with_reducible exact Take.here | apply Take.there)))))) ?_
    rintro v L1 ⟨rfl, rfl⟩
    refine swl_app ?_
    refine s_pu (pu_move rfl) ?_
    refine s_pu (pu_extract rfl rfl) ?_
    refine s_pu (pu_extract rfl rfl) ?_
    refine s_ef (ef_alloc) ?_
    intro b13
    refine s_ef0 (ef_storeA rfl rfl rfl rfl) ?_
    refine s_pu (pu_assign rfl) ?_
    refine swl_sub _ (.cons (t := 4) rfl (.cons (t := 11) rfl (.cons (t := 14) rfl .nil))) ?_
    refine swl_nil ?_
    refine then_n ?_
    refine swp_seq ?_
    refine swp_region ?_
    refine s_pu (pu_move rfl) ?_
    refine s_pu (pu_not rfl) ?_
    refine swl_sub _ (.cons (t := 4) rfl (.cons (t := 11) rfl (.cons (t := 77) rfl .nil))) ?_
    refine swl_nil ?_
    refine then_n ?_
    refine swp_cond (b := _) rfl (fun h => by cases h) (fun h => ?_)
    refine swp_skip ?_
    refine then_n ?_
    refine swp_region ?_
    obtain ⟨v4, hr4, hp4⟩ := Row.lo (P := Try.prog) (t := 42) hnow3 1 (by rw [List.length_cons]; omega)
    rw [ths_drop] at hr4
    obtain ⟨A4, cap4, rfl⟩ := hr4.form
    refine s_rd (rd_load rfl rfl) ?_
    refine s_pu (hp4 _ _ _ _ _ rfl rfl rfl) ?_
    refine s_ef0 (ef_store rfl rfl rfl) ?_
    refine swl_sub _ .nil ?_
    refine swl_nil ?_
    refine block_n ?_
    refine rnd_n ?_
    subst htl
    exact (Split.ent' (K := [blk ab 28 [.pointer (some ⟨q, 0, none⟩)], qt q (nowN p l (n + 1)) (ns.length + n + 1), blk b10 3 [.int .i64 ((n + 1 : Nat) : Int)], blk b11 42 [.slice A4 ((y :: nowN p l (n + 1)).length - 1) cap4], blk b6 42 [.slice (some ⟨gl, off, none⟩) l.length cap], blk b5 28 [.pointer (some ⟨q, 0, none⟩)], blk b4 4 [.bool false], blk b3 3 [.int .i64 p], ro μ3]) (by repeat (first | exact Split.nil | (apply Split.cons; (repeat (first | with_reducible exact Take.here | apply Take.there)))))).trans (exA_close (L := []) (F := fun s : {s : PH × Value // Le μ1 s.1 ∧ Row s.1 s.2 2 (nowN p l (n + 1)).length (ths (nowN p l (n + 1)))} => [blk ab 28 [.pointer (some ⟨q, 0, none⟩)], qt q (nowN p l (n + 1)) (ns.length + (n + 1)), blk b10 3 [.int .i64 ((n + 1 : Nat) : Int)], blk b11 42 [s.1.2], blk b6 42 [.slice (some ⟨gl, off, none⟩) l.length cap], blk b5 28 [.pointer (some ⟨q, 0, none⟩)], blk b4 4 [.bool false], blk b3 3 [.int .i64 p], ro s.1.1]) ⟨(μ3, .slice A4 ((y :: nowN p l (n + 1)).length - 1) cap4), hle2.trans hle3, hr4⟩)
  · rintro ys rfl
    subst hC1
    refine block_n ?_
    refine then_n ?_
    refine swp_ex fun ⟨⟨μ2, nv⟩, hle2, hnow⟩ => ?_
    refine swp_app ?_
    simp only at hle2 hnow
    have hml : (nowN p ys ys.length).length = ys.length := nowN_len p ys ys.length
    refine swp_seq ?_
    refine swp_seq ?_
    refine swp_region ?_
    refine s_rd (rd_load rfl rfl) ?_
    refine s_rd (rd_load rfl rfl) ?_
    refine s_pu (pu_len_row (hrow.le hle2) rfl) ?_
    refine s_pu (pu_neq rfl rfl) ?_
    refine swl_sub _ (.cons (t := 4) rfl (.cons (t := 9) rfl (.cons (t := 10) rfl (.cons (t := 11) rfl (.cons (t := 83) rfl .nil))))) ?_
    refine swl_nil ?_
    refine then_n ?_
    refine swp_cond (b := _) rfl (fun h => absurd h (by simp)) (fun h => ?_)
    refine swp_skip ?_
    refine then_n ?_
    refine swp_seq ?_
    refine swp_region ?_
    refine s_ef0 (ef_store rfl rfl rfl) ?_
    refine swl_sub _ (.cons (t := 4) rfl (.cons (t := 9) rfl (.cons (t := 10) rfl (.cons (t := 11) rfl .nil)))) ?_
    refine swl_nil ?_
    refine then_n ?_
    refine swp_seq ?_
    refine swp_seq ?_
    refine swp_region ?_
    refine s_pu (pu_move rfl) ?_
    refine swl_sub _ (.cons (t := 4) rfl (.cons (t := 10) rfl (.cons (t := 11) rfl (.cons (t := 84) rfl .nil)))) ?_
    refine swl_nil ?_
    refine then_n ?_
    refine swp_block ?_
    refine swp_range (all_iter_t ab q (ns.length + ys.length) (nowN p ys ys.length) (by omega)) (B := [blk b10 3 [.int .i64 0], blk b11 42 [nv], blk b4 4 [.bool false], ro μ2]) (fun pre => star [blk ab 28 [.pointer (some ⟨q, 0, none⟩)], qt q (nowN p ys ys.length) (ns.length + ys.length), blk b10 3 [.int .i64 (pre.length : Nat)], blk b11 42 [nv], blk b4 4 [.bool false], ro μ2]) (fun _ => False) (fun _ _ => False) rfl rfl (fun _ => rfl) (Split.ent' (by repeat (first | exact Split.nil | (apply Split.cons; (repeat (first | with_reducible exact Take.here | apply Take.there)))))) star_close1 ?_ ?_ ?_ ?_
    · rintro ln pre x ⟨post, hpost⟩
      refine swp_ent (star_ent (L := [])) ?_
      refine swp_app ?_
      have hnl : pre.length < (nowN p ys ys.length).length := by rw [hpost]; simp
      have hxn : (nowN p ys ys.length)[pre.length]? = some x := by rw [hpost]; simp
      obtain ⟨gl, off, cap, rfl, c1, c2, hlr⟩ := hnow.pos (by omega)
      have hrk := hlr.elem tcs_len hxn
      refine swp_region ?_
      refine s_ef (ef_alloc) ?_
      intro b15
      refine s_ef0 (ef_storeA rfl rfl rfl rfl) ?_
      refine swl_sub _ (.cons (t := 4) rfl (.cons (t := 10) rfl (.cons (t := 11) rfl (.cons (t := 15) rfl .nil)))) ?_
      refine swl_nil ?_
      refine then_n ?_
      refine swp_block ?_
      refine swp_seq ?_
      refine swp_seq ?_
      refine swp_draw [0, 1, 5, 7, 8, 10] _ [] (by simp only [List.append_nil]; exact Ent.refl _) (by kernel_rfl) ?_
      refine d_rd 0 rfl (rd_load rfl rfl) rfl (by kernel_rfl) (by kernel_rfl) (by kernel_rfl) ?_
      refine d_rd 1 rfl (rd_load rfl rfl) rfl (by kernel_rfl) (by kernel_rfl) (by kernel_rfl) ?_
      refine d_pu 2 rfl (pu_len rfl) (by kernel_rfl) (by kernel_rfl) (by kernel_rfl) ?_
      refine d_pu 3 rfl (pu_geq rfl rfl) (by kernel_rfl) (by kernel_rfl) (by kernel_rfl) ?_
      refine d_pu 4 rfl (pu_move rfl) (by kernel_rfl) (by kernel_rfl) (by kernel_rfl) ?_
      refine d_split 90 rfl (fun h90 => absurd h90 (by simp; omega)) (fun h90 => ?_)
      first | refine d_rd_on 5 rfl rfl rfl (rd_loadW rfl rfl) rfl (by kernel_rfl) (by kernel_rfl) (by kernel_rfl) ?_ | refine d_rd_on 5 rfl rfl rfl (rd_loadX rfl rfl rfl) rfl (by kernel_rfl) (by kernel_rfl) (by kernel_rfl) ?_
      refine d_rd_on 7 rfl rfl rfl (rd_load rfl rfl) rfl (by kernel_rfl) (by kernel_rfl) (by kernel_rfl) ?_
      refine d_rd_on 8 rfl rfl rfl (rd_load rfl rfl) rfl (by kernel_rfl) (by kernel_rfl) (by kernel_rfl) ?_
      refine d_pu_on 9 rfl rfl rfl (pu_indexAddr (off + pre.length * 2) rfl rfl (by omega) (by omega) (by simp)) (by kernel_rfl) (by kernel_rfl) (by kernel_rfl) ?_
      refine d_rd_on 10 rfl rfl rfl (rd_roA (vs := [.int .i64 x.1, .int .i64 x.2]) rfl (by rfl) hrk) rfl (by kernel_rfl) (by kernel_rfl) (by kernel_rfl) ?_
      refine d_amb [6] (by kernel_rfl) rfl ?_
      refine dA_ef 6 rfl (GOn.some rfl rfl) (ef_fn (mine_spec x) rfl rfl (by repeat (first | exact Split.nil | (apply Split.cons; (repeat (first | with_reducible exact Take.here | apply Take.there)))))) ?_
      rintro v L1 ⟨rfl, rfl⟩
      refine ⟨_, ent_app (Split.ent (by repeat (first | exact Split.nil | (apply Split.cons; (repeat (first | with_reducible exact Take.here | apply Take.there)))))), ?_⟩
      refine d_pu_on 11 rfl rfl rfl (pu_st2_ne rfl rfl) (by kernel_rfl) (by kernel_rfl) (by kernel_rfl) ?_
      first | refine d_pu 12 rfl (pu_pick_t rfl rfl) (by kernel_rfl) (by kernel_rfl) (by kernel_rfl) ?_ | refine d_pu 12 rfl (pu_pick_f rfl rfl) (by kernel_rfl) (by kernel_rfl) (by kernel_rfl) ?_
      first | refine d_nilt (by kernel_rfl) ?_ | refine d_nilf (by kernel_rfl) ?_
      refine then_n ?_
      refine swp_cond (b := _) rfl (fun h => absurd h (by simp)) (fun h => ?_)
      refine swp_skip ?_
      refine then_n ?_
      refine swp_region ?_
      refine s_rd (rd_load rfl rfl) ?_
      refine s_pu (pu_add_as ((pre.length + 1 : Nat) : Int) rfl rfl (by omega) (by omega) (by omega)) ?_
      refine s_ef0 (ef_store rfl rfl rfl) ?_
      refine swl_sub _ .nil ?_
      refine swl_nil ?_
      refine block_n ?_
      refine rnd_n ?_
      rw [show (pre ++ [x]).length = pre.length + 1 by simp]
      exact (Split.ent' (by repeat (first | exact Split.nil | (apply Split.cons; (repeat (first | with_reducible exact Take.here | apply Take.there)))))).trans star_close1
    · rintro zs rfl
      refine block_n ?_
      refine then_n ?_
      refine swp_ent (star_ent (L := [])) ?_
      refine swp_app ?_
      refine swp_seq ?_
      refine swp_region ?_
      refine s_rd (rd_load rfl rfl) ?_
      refine s_rd (rd_load rfl rfl) ?_
      refine s_pu (pu_len_row hnow rfl) ?_
      refine s_pu (pu_eql rfl rfl) ?_
      refine s_ef0 (ef_store rfl rfl rfl) ?_
      refine swl_sub _ (.cons (t := 4) rfl .nil) ?_
      refine swl_nil ?_
      refine then_n ?_
      refine swp_ret ?_
      exact done_ret [ro μ2] (.cell rfl (ld_one rfl) .nil) ⟨by simp [resV], μ2, [], hle1.trans hle2, rfl⟩ (by repeat (first | exact Split.nil | (apply Split.cons; (repeat (first | with_reducible exact Take.here | apply Take.there)))))
    · exact swp_fact (p := False) (fun m h => by obtain ⟨_, _, h, _⟩ := h; exact h) False.elim
    · exact fun i => swp_fact (p := False) (fun m h => by obtain ⟨_, _, h, _⟩ := h; exact h) False.elim
  · exact swp_fact (p := False) (fun m h => by obtain ⟨_, _, h, _⟩ := h; exact h) False.elim
  · exact fun i => swp_fact (p := False) (fun m h => by obtain ⟨_, _, h, _⟩ := h; exact h) False.elim
end SX
