/- A part of the proof: walks of the seat's functions, by the rules of the texts that it imports. -/
import Derived.Test.YtplekpdckcidjaaQu2
namespace SX
open Go Go.Proofs

/-- the best so far, behind j children -/
def bestTo (es : List (Th × Nat)) (i : Nat) : Nat → Nat
  | 0 => i
  | 1 => Hp.better aT es (2 * i + 1) i
  | _ => Hp.best aT es i
theorem bestTo_lt {es : List (Th × Nat)} {i : Nat} (hi : i < es.length) : ∀ j, bestTo es i j < es.length := by
  have hb : ∀ k m, m < es.length → Hp.better aT es k m < es.length := fun k m hm => by
    rcases Hp.better_cases (ah := aT) es k m with ⟨e, _⟩ | ⟨e, a, b, ha, _⟩
    · rw [e]; exact hm
    · rw [e]; exact (List.getElem?_eq_some_iff.1 ha).1
  intro j
  match j with
  | 0 => exact hi
  | 1 => exact hb _ _ hi
  | j + 2 => exact hb _ _ (hb _ _ hi)
theorem bestTo_succ {es : List (Th × Nat)} {i j : Nat} (hj : j < 2) : bestTo es i (j + 1) = Hp.better aT es (2 * i + 1 + j) (bestTo es i j) := by
  match j, hj with
  | 0, _ => rfl
  | 1, _ => rfl
theorem bestTo_end {es : List (Th × Nat)} {i j : Nat} (h : 2 ≤ j ∨ es.length ≤ 2 * i + 1 + j) : bestTo es i j = Hp.best aT es i := by
  have hn : ∀ k m, es.length ≤ k → Hp.better aT es k m = m := fun k m hk => by
    have : es[k]? = none := List.getElem?_eq_none_iff.2 hk
    simp [Hp.better, this]
  match j with
  | 0 =>
    have h' : es.length ≤ 2 * i + 1 := by omega
    show i = Hp.better aT es (2 * i + 2) (Hp.better aT es (2 * i + 1) i)
    rw [hn _ _ h', hn _ _ (by omega)]
  | 1 =>
    have h' : es.length ≤ 2 * i + 2 := by omega
    show Hp.better aT es (2 * i + 1) i = Hp.better aT es (2 * i + 2) (Hp.better aT es (2 * i + 1) i)
    rw [hn _ _ h']
  | j + 2 => rfl
theorem better_of {es : List (Th × Nat)} {k m : Nat} {a b : Th × Nat} (ha : es[k]? = some a) (hb : es[m]? = some b) : Hp.better aT es k m = if aT a b then k else m := by simp [Hp.better, ha, hb]

set_option maxHeartbeats 2000000 in
theorem sink_raw (q g cap : Nat) (nx : Value) (es : List (Th × Nat)) (ex : List Value) (hb1 : es.length ≤ 1099511627776) :
    Spec Try.prog 27 [.pointer (some ⟨q, 0, none⟩)] [blk q 69 [.slice (some ⟨g, 0, none⟩) es.length cap, nx], blk g 78 (ents es ++ ex)]
      (fun v L => v = .tuple #[] ∧ L = [blk q 69 [.slice (some ⟨g, 0, none⟩) es.length cap, nx], blk g 78 (ents (Hp.down aT es.length es 0) ++ ex)]) := by
  refine Spec.of 71 Try.func27 rfl rfl rfl ?_
  refine swp_seq ?_
  refine swp_region ?_
  refine s_pu (pu_assign rfl) ?_
  refine swl_sub _ (.cons (t := 0) rfl (.cons (t := 2) rfl .nil)) ?_
  refine swl_nil ?_
  refine then_n ?_
  refine swp_block ?_
  refine swp_loop (ι := Nat × List (Th × Nat)) (fun k env L => env = [(0, .pointer (some ⟨q, 0, none⟩)), (2, .int .i64 (k.1 : Nat))] ∧
      L = [blk q 69 [.slice (some ⟨g, 0, none⟩) es.length cap, nx], blk g 78 (ents k.2 ++ ex)] ∧
      k.2.length = es.length ∧ (k.1 < es.length ∨ k.1 = 0) ∧ Hp.down aT es.length k.2 k.1 = Hp.down aT es.length es 0) (fun k => es.length - k.1) (0, es) ⟨rfl, rfl, rfl, .inr rfl, rfl⟩ ?_
  rintro ⟨i, fs⟩ env L ⟨rfl, rfl, hl, hi, hdn⟩
  simp only [] at hl hi hdn
  refine swp_block ?_
  refine swp_seq ?_
  refine swp_region ?_
  refine s_pu (pu_move rfl) ?_
  refine s_pu (pu_assign rfl) ?_
  refine swl_sub _ (.cons (t := 0) rfl (.cons (t := 2) rfl (.cons (t := 3) rfl .nil))) ?_
  refine swl_nil ?_
  refine then_n ?_
  refine swp_cut (fun env L => env = [(0, .pointer (some ⟨q, 0, none⟩)), (2, .int .i64 (i : Nat)), (3, .int .i64 (Hp.best aT fs i : Nat))] ∧ L = [blk q 69 [.slice (some ⟨g, 0, none⟩) es.length cap, nx], blk g 78 (ents fs ++ ex)]) ?_ ?_
  · skip
    refine swp_seq ?_
    refine swp_region ?_
    refine s_pu (pu_move rfl) ?_
    first | refine s_pu (pu_mul_in rfl rfl (by omega) (by omega)) ?_ | refine s_pu (pu_mul rfl rfl) ?_
    refine s_pu (pu_add_as ((2 * i + 1 + 0 : Nat) : Int) rfl rfl (by omega) (by omega) (by omega)) ?_
    refine s_pu (pu_assign rfl) ?_
    refine swl_sub _ (.cons (t := 0) rfl (.cons (t := 2) rfl (.cons (t := 3) rfl (.cons (t := 4) rfl .nil)))) ?_
    refine swl_nil ?_
    refine then_n ?_
    refine swp_block ?_
    refine swp_loop (ι := Nat) (fun j env L => env = [(0, .pointer (some ⟨q, 0, none⟩)), (2, .int .i64 (i : Nat)), (3, .int .i64 (bestTo fs i j : Nat)), (4, .int .i64 ((2 * i + 1 + j : Nat) : Int))] ∧ j ≤ 2 ∧
       L = [blk q 69 [.slice (some ⟨g, 0, none⟩) es.length cap, nx], blk g 78 (ents fs ++ ex)]) (fun j => 2 - j) 0 ⟨rfl, by omega, rfl⟩ ?_
    rintro j env L ⟨rfl, hj, rfl⟩
    refine swp_seq ?_
    refine swp_seq ?_
    refine swp_region ?_
    refine s_pu (pu_move rfl) ?_
    refine s_pu (pu_move rfl) ?_
    first | refine s_pu (pu_mul_in rfl rfl (by omega) (by omega)) ?_ | refine s_pu (pu_mul rfl rfl) ?_
    first | refine s_pu (pu_add_in rfl rfl (by omega) (by omega)) ?_ | refine s_pu (pu_add rfl rfl) ?_
    refine s_pu (pu_leq rfl rfl) ?_
    refine s_pu (pu_move rfl) ?_
    refine s_split 14 rfl (fun h14 => ?_) (fun h14 => ?_)
    · skip   -- slot 14 is True
      refine s_on rfl rfl ?_
      refine s_pu (pu_move rfl) ?_
      refine s_on rfl rfl ?_
      refine s_pu (pu_move rfl) ?_
      refine s_on rfl rfl ?_
      first | refine s_pu (pu_nilCheck rfl) ?_ | refine s_pu (pu_nilCheck_fn rfl) ?_ | refine s_pu (pu_nilCheck_if rfl) ?_
      refine s_on rfl rfl ?_
      first | refine s_pu (pu_fieldAddr0 rfl) ?_ | refine s_pu (pu_fieldAddr rfl) ?_
      refine s_on rfl rfl ?_
      refine s_rd (rd_load rfl rfl) ?_
      refine s_on rfl rfl ?_
      refine s_pu (pu_len rfl) ?_
      refine s_on rfl rfl ?_
      refine s_pu (pu_lss rfl rfl) ?_
      first | refine s_pu (pu_pick_t rfl rfl) ?_ | refine s_pu (pu_pick_f rfl rfl) ?_
      refine swl_sub _ (.cons (t := 0) rfl (.cons (t := 2) rfl (.cons (t := 3) rfl (.cons (t := 4) rfl (.cons (t := 22) rfl .nil))))) ?_
      refine swl_nil ?_
      refine then_n ?_
      have h14' : j < 2 := by simp at h14; omega
      refine swp_cond (b := _) rfl (fun h22 => ?_) (fun h22 => ?_)
      · skip
        have h22' : 2 * i + 1 + j < es.length := by simp at h22; omega
        have hil : i < fs.length := by omega
        obtain ⟨ek, hek⟩ : ∃ e, fs[2 * i + 1 + j]? = some e := ⟨_, List.getElem?_eq_getElem (by omega)⟩
        have hfl := bestTo_lt hil j
        obtain ⟨ef, hef⟩ : ∃ e, fs[bestTo fs i j]? = some e := ⟨_, List.getElem?_eq_getElem hfl⟩
        have hsucc := bestTo_succ (es := fs) (i := i) h14'
        rw [better_of hek hef] at hsucc
        refine swp_skip ?_
        refine then_n ?_
        refine swp_seq ?_
        refine swp_block ?_
        refine swp_seq ?_
        refine swp_draw [3, 6, 10, 13] _ [] (by simp only [List.append_nil]; exact Ent.refl _) (by kernel_rfl) ?_
        refine d_pu 0 rfl (pu_move rfl) (by kernel_rfl) (by kernel_rfl) (by kernel_rfl) ?_
        first | refine d_pu 1 rfl (pu_nilCheck rfl) (by kernel_rfl) (by kernel_rfl) (by kernel_rfl) ?_ | refine d_pu 1 rfl (pu_nilCheck_fn rfl) (by kernel_rfl) (by kernel_rfl) (by kernel_rfl) ?_ | refine d_pu 1 rfl (pu_nilCheck_if rfl) (by kernel_rfl) (by kernel_rfl) (by kernel_rfl) ?_
        first | refine d_pu 2 rfl (pu_fieldAddr0 rfl) (by kernel_rfl) (by kernel_rfl) (by kernel_rfl) ?_ | refine d_pu 2 rfl (pu_fieldAddr rfl) (by kernel_rfl) (by kernel_rfl) (by kernel_rfl) ?_
        refine d_rd 3 rfl (rd_load rfl rfl) rfl (by kernel_rfl) (by kernel_rfl) (by kernel_rfl) ?_
        refine d_pu 4 rfl (pu_move rfl) (by kernel_rfl) (by kernel_rfl) (by kernel_rfl) ?_
        refine d_pu 5 rfl (pu_indexAddr ((2 * i + 1 + j) * 3) rfl rfl (by omega) (by omega) (by omega)) (by kernel_rfl) (by kernel_rfl) (by kernel_rfl) ?_
        refine d_rd 6 rfl (rd_loadA (vs := ecs ek) rfl (by rfl) (flat_get ecs_len fs ex _ ek hek)) rfl (by kernel_rfl) (by kernel_rfl) (by kernel_rfl) ?_
        refine d_pu 7 rfl (pu_move rfl) (by kernel_rfl) (by kernel_rfl) (by kernel_rfl) ?_
        first | refine d_pu 8 rfl (pu_nilCheck rfl) (by kernel_rfl) (by kernel_rfl) (by kernel_rfl) ?_ | refine d_pu 8 rfl (pu_nilCheck_fn rfl) (by kernel_rfl) (by kernel_rfl) (by kernel_rfl) ?_ | refine d_pu 8 rfl (pu_nilCheck_if rfl) (by kernel_rfl) (by kernel_rfl) (by kernel_rfl) ?_
        first | refine d_pu 9 rfl (pu_fieldAddr0 rfl) (by kernel_rfl) (by kernel_rfl) (by kernel_rfl) ?_ | refine d_pu 9 rfl (pu_fieldAddr rfl) (by kernel_rfl) (by kernel_rfl) (by kernel_rfl) ?_
        refine d_rd 10 rfl (rd_load rfl rfl) rfl (by kernel_rfl) (by kernel_rfl) (by kernel_rfl) ?_
        refine d_pu 11 rfl (pu_move rfl) (by kernel_rfl) (by kernel_rfl) (by kernel_rfl) ?_
        refine d_pu 12 rfl (pu_indexAddr (bestTo fs i j * 3) rfl rfl (by omega) (by omega) (by omega)) (by kernel_rfl) (by kernel_rfl) (by kernel_rfl) ?_
        refine d_rd 13 rfl (rd_loadA (vs := ecs ef) rfl (by rfl) (flat_get ecs_len fs ex _ ef hef)) rfl (by kernel_rfl) (by kernel_rfl) (by kernel_rfl) ?_
        first | refine d_fint 14 rfl (by kernel_rfl) (by kernel_rfl) (ef_fn (ahead_spec _ _ _ _ _ _) rfl rfl (by repeat (first | exact Split.nil | (apply Split.cons; (repeat (first | with_reducible exact Take.here | apply Take.there)))))) ?_ | refine d_finf 14 rfl (by kernel_rfl) (by kernel_rfl) (ef_fn (ahead_spec _ _ _ _ _ _) rfl rfl (by repeat (first | exact Split.nil | (apply Split.cons; (repeat (first | with_reducible exact Take.here | apply Take.there)))))) ?_
        rintro v L1 ⟨rfl, rfl⟩
        refine swd_app ?_
        first | refine d_nilt (by kernel_rfl) ?_ | refine d_nilf (by kernel_rfl) ?_
        refine then_n ?_
        refine swp_cond (b := _) rfl (fun h39 => ?_) (fun h39 => ?_)
        · skip
          refine swp_region ?_
          refine s_pu (pu_move rfl) ?_
          refine s_pu (pu_assign rfl) ?_
          refine swl_sub _ (.cons (t := 0) rfl (.cons (t := 2) rfl (.cons (t := 3) rfl (.cons (t := 4) rfl .nil)))) ?_
          refine swl_nil ?_
          refine block_n ?_
          refine then_n ?_
          refine swp_region ?_
          refine s_pu (pu_move rfl) ?_
          refine s_pu (pu_add_as ((2 * i + 1 + (j + 1) : Nat) : Int) rfl rfl (by omega) (by omega) (by omega)) ?_
          refine s_pu (pu_assign rfl) ?_
          refine swl_sub _ (.cons (t := 0) rfl (.cons (t := 2) rfl (.cons (t := 3) rfl (.cons (t := 4) rfl .nil)))) ?_
          refine swl_nil ?_
          rw [← aT_eq] at h39
          rw [if_pos h39] at hsucc
          refine then_n ⟨j + 1, ⟨?_, by omega, rfl⟩, by omega⟩
          rw [hsucc]
        · skip
          refine swp_skip ?_
          refine block_n ?_
          refine then_n ?_
          refine swp_region ?_
          refine s_pu (pu_move rfl) ?_
          refine s_pu (pu_add_as ((2 * i + 1 + (j + 1) : Nat) : Int) rfl rfl (by omega) (by omega) (by omega)) ?_
          refine s_pu (pu_assign rfl) ?_
          refine swl_sub _ (.cons (t := 0) rfl (.cons (t := 2) rfl (.cons (t := 3) rfl (.cons (t := 4) rfl .nil)))) ?_
          refine swl_nil ?_
          rw [← aT_eq] at h39
          rw [if_neg (by rw [h39]; exact Bool.false_ne_true)] at hsucc
          refine then_n ⟨j + 1, ⟨?_, by omega, rfl⟩, by omega⟩
          rw [hsucc]
      · skip
        refine swp_sub _ (.cons (t := 0) rfl (.cons (t := 2) rfl (.cons (t := 3) rfl .nil))) ?_
        refine swp_exit ?_
        refine then_x ?_
        refine then_x ?_
        refine block_hit rfl ?_
        refine then_n ⟨?_, rfl⟩
        have h22' : es.length ≤ 2 * i + 1 + j := by simp at h22; omega
        rw [bestTo_end (.inr (by omega))]
    · skip   -- slot 14 is False
      refine s_off rfl rfl rfl ?_
      refine s_off rfl rfl rfl ?_
      refine s_off rfl rfl rfl ?_
      refine s_off rfl rfl rfl ?_
      refine s_off rfl rfl rfl ?_
      refine s_off rfl rfl rfl ?_
      refine s_off rfl rfl rfl ?_
      first | refine s_pu (pu_pick_t rfl rfl) ?_ | refine s_pu (pu_pick_f rfl rfl) ?_
      refine swl_sub _ (.cons (t := 0) rfl (.cons (t := 2) rfl (.cons (t := 3) rfl (.cons (t := 4) rfl (.cons (t := 22) rfl .nil))))) ?_
      refine swl_nil ?_
      refine then_n ?_
      refine swp_cond (b := _) rfl (fun h22 => ?_) (fun h22 => ?_)
      · cases h22
      · skip
        refine swp_sub _ (.cons (t := 0) rfl (.cons (t := 2) rfl (.cons (t := 3) rfl .nil))) ?_
        refine swp_exit ?_
        refine then_x ?_
        refine then_x ?_
        refine block_hit rfl ?_
        refine then_n ⟨?_, rfl⟩
        have h14' : 2 ≤ j := by simp at h14; omega
        rw [bestTo_end (.inl h14')]
  · rintro env L ⟨rfl, rfl⟩
    refine swp_seq ?_
    refine swp_seq ?_
    refine swp_region ?_
    refine s_pu (pu_move rfl) ?_
    refine s_pu (pu_move rfl) ?_
    refine s_pu (pu_eql rfl rfl) ?_
    refine swl_sub _ (.cons (t := 0) rfl (.cons (t := 2) rfl (.cons (t := 3) rfl (.cons (t := 43) rfl .nil)))) ?_
    refine swl_nil ?_
    refine then_n ?_
    refine swp_cond (b := _) rfl (fun h43 => ?_) (fun h43 => ?_)
    · skip
      refine swp_ret ?_
      refine then_r ?_
      refine block_r ?_
      refine then_r ?_
      refine block_r ?_
      have hbi : Hp.best aT fs i = i := by simp at h43; omega
      rw [← hdn, Hp.down_stop hbi]
      exact done_ret _ .nil ⟨rfl, rfl⟩ (by repeat (first | exact Split.nil | (apply Split.cons; (repeat (first | with_reducible exact Take.here | apply Take.there)))))
    · skip
      have hbi : Hp.best aT fs i ≠ i := by simp at h43; omega
      have hgt := Hp.best_gt hbi
      obtain ⟨ei, hei⟩ : ∃ e, fs[i]? = some e := ⟨_, List.getElem?_eq_getElem (by omega)⟩
      obtain ⟨ep, hep⟩ : ∃ e, fs[Hp.best aT fs i]? = some e := ⟨_, List.getElem?_eq_getElem hgt.2⟩
      rw [Hp.down_step (by omega) hbi hei hep] at hdn
      generalize Hp.best aT fs i = p at *
      have hel : (ents fs).length = es.length * 3 := by unfold ents; rw [flat_length ecs_len, hl]
      refine swp_skip ?_
      refine then_n ?_
      refine swp_seq ?_
      refine swp_draw [3, 8, 13, 16, 20, 23] _ [] (by simp only [List.append_nil]; exact Ent.refl _) (by kernel_rfl) ?_
      refine d_pu 0 rfl (pu_move rfl) (by kernel_rfl) (by kernel_rfl) (by kernel_rfl) ?_
      first | refine d_pu 1 rfl (pu_nilCheck rfl) (by kernel_rfl) (by kernel_rfl) (by kernel_rfl) ?_ | refine d_pu 1 rfl (pu_nilCheck_fn rfl) (by kernel_rfl) (by kernel_rfl) (by kernel_rfl) ?_ | refine d_pu 1 rfl (pu_nilCheck_if rfl) (by kernel_rfl) (by kernel_rfl) (by kernel_rfl) ?_
      first | refine d_pu 2 rfl (pu_fieldAddr0 rfl) (by kernel_rfl) (by kernel_rfl) (by kernel_rfl) ?_ | refine d_pu 2 rfl (pu_fieldAddr rfl) (by kernel_rfl) (by kernel_rfl) (by kernel_rfl) ?_
      refine d_rd 3 rfl (rd_load rfl rfl) rfl (by kernel_rfl) (by kernel_rfl) (by kernel_rfl) ?_
      refine d_pu 4 rfl (pu_move rfl) (by kernel_rfl) (by kernel_rfl) (by kernel_rfl) ?_
      refine d_pu 5 rfl (pu_move rfl) (by kernel_rfl) (by kernel_rfl) (by kernel_rfl) ?_
      first | refine d_pu 6 rfl (pu_nilCheck rfl) (by kernel_rfl) (by kernel_rfl) (by kernel_rfl) ?_ | refine d_pu 6 rfl (pu_nilCheck_fn rfl) (by kernel_rfl) (by kernel_rfl) (by kernel_rfl) ?_ | refine d_pu 6 rfl (pu_nilCheck_if rfl) (by kernel_rfl) (by kernel_rfl) (by kernel_rfl) ?_
      first | refine d_pu 7 rfl (pu_fieldAddr0 rfl) (by kernel_rfl) (by kernel_rfl) (by kernel_rfl) ?_ | refine d_pu 7 rfl (pu_fieldAddr rfl) (by kernel_rfl) (by kernel_rfl) (by kernel_rfl) ?_
      refine d_rd 8 rfl (rd_load rfl rfl) rfl (by kernel_rfl) (by kernel_rfl) (by kernel_rfl) ?_
      refine d_pu 9 rfl (pu_move rfl) (by kernel_rfl) (by kernel_rfl) (by kernel_rfl) ?_
      refine d_pu 10 rfl (pu_move rfl) (by kernel_rfl) (by kernel_rfl) (by kernel_rfl) ?_
      first | refine d_pu 11 rfl (pu_nilCheck rfl) (by kernel_rfl) (by kernel_rfl) (by kernel_rfl) ?_ | refine d_pu 11 rfl (pu_nilCheck_fn rfl) (by kernel_rfl) (by kernel_rfl) (by kernel_rfl) ?_ | refine d_pu 11 rfl (pu_nilCheck_if rfl) (by kernel_rfl) (by kernel_rfl) (by kernel_rfl) ?_
      first | refine d_pu 12 rfl (pu_fieldAddr0 rfl) (by kernel_rfl) (by kernel_rfl) (by kernel_rfl) ?_ | refine d_pu 12 rfl (pu_fieldAddr rfl) (by kernel_rfl) (by kernel_rfl) (by kernel_rfl) ?_
      refine d_rd 13 rfl (rd_load rfl rfl) rfl (by kernel_rfl) (by kernel_rfl) (by kernel_rfl) ?_
      refine d_pu 14 rfl (pu_move rfl) (by kernel_rfl) (by kernel_rfl) (by kernel_rfl) ?_
      refine d_pu 15 rfl (pu_indexAddr (p * 3) rfl rfl (by omega) (by omega) (by omega)) (by kernel_rfl) (by kernel_rfl) (by kernel_rfl) ?_
      refine d_rd 16 rfl (rd_loadA (vs := ecs ep) rfl (by rfl) (flat_get ecs_len fs ex p ep hep)) rfl (by kernel_rfl) (by kernel_rfl) (by kernel_rfl) ?_
      refine d_pu 17 rfl (pu_move rfl) (by kernel_rfl) (by kernel_rfl) (by kernel_rfl) ?_
      first | refine d_pu 18 rfl (pu_nilCheck rfl) (by kernel_rfl) (by kernel_rfl) (by kernel_rfl) ?_ | refine d_pu 18 rfl (pu_nilCheck_fn rfl) (by kernel_rfl) (by kernel_rfl) (by kernel_rfl) ?_ | refine d_pu 18 rfl (pu_nilCheck_if rfl) (by kernel_rfl) (by kernel_rfl) (by kernel_rfl) ?_
      first | refine d_pu 19 rfl (pu_fieldAddr0 rfl) (by kernel_rfl) (by kernel_rfl) (by kernel_rfl) ?_ | refine d_pu 19 rfl (pu_fieldAddr rfl) (by kernel_rfl) (by kernel_rfl) (by kernel_rfl) ?_
      refine d_rd 20 rfl (rd_load rfl rfl) rfl (by kernel_rfl) (by kernel_rfl) (by kernel_rfl) ?_
      refine d_pu 21 rfl (pu_move rfl) (by kernel_rfl) (by kernel_rfl) (by kernel_rfl) ?_
      refine d_pu 22 rfl (pu_indexAddr (i * 3) rfl rfl (by omega) (by omega) (by omega)) (by kernel_rfl) (by kernel_rfl) (by kernel_rfl) ?_
      refine d_rd 23 rfl (rd_loadA (vs := ecs ei) rfl (by rfl) (flat_get ecs_len fs ex i ei hei)) rfl (by kernel_rfl) (by kernel_rfl) (by kernel_rfl) ?_
      refine d_pu 24 rfl (pu_indexAddr (i * 3) rfl rfl (by omega) (by omega) (by omega)) (by kernel_rfl) (by kernel_rfl) (by kernel_rfl) ?_
      first | refine d_fin0t 25 rfl (by kernel_rfl) (by kernel_rfl) (ef_storeAs (vs := ecs ep) rfl rfl (flat_over ecs_len fs ex i ep (by omega)) (by rw [List.length_append, ← ents, hel, ecs_len]; omega) rfl rfl) ?_ | refine d_fin0f 25 rfl (by kernel_rfl) (by kernel_rfl) (ef_storeAs (vs := ecs ep) rfl rfl (flat_over ecs_len fs ex i ep (by omega)) (by rw [List.length_append, ← ents, hel, ecs_len]; omega) rfl rfl) ?_
      refine d_pu 26 rfl (pu_indexAddr (p * 3) rfl rfl (by omega) (by omega) (by omega)) (by kernel_rfl) (by kernel_rfl) (by kernel_rfl) ?_
      first | refine d_fin0t 27 rfl (by kernel_rfl) (by kernel_rfl) (ef_storeAs (vs := ecs ei) rfl rfl (flat_over ecs_len (fs.set i ep) ex p ei (by simp; omega)) (by rw [List.length_append, flat_length ecs_len, ecs_len, List.length_set]; omega) rfl rfl) ?_ | refine d_fin0f 27 rfl (by kernel_rfl) (by kernel_rfl) (ef_storeAs (vs := ecs ei) rfl rfl (flat_over ecs_len (fs.set i ep) ex p ei (by simp; omega)) (by rw [List.length_append, flat_length ecs_len, ecs_len, List.length_set]; omega) rfl rfl) ?_
      first | refine d_nilt (by kernel_rfl) ?_ | refine d_nilf (by kernel_rfl) ?_
      refine then_n ?_
      refine swp_region ?_
      refine s_pu (pu_move rfl) ?_
      refine s_pu (pu_assign rfl) ?_
      refine swl_sub _ (.cons (t := 0) rfl (.cons (t := 2) rfl .nil)) ?_
      refine swl_nil ?_
      refine block_n ?_
      exact then_n ⟨(p, (fs.set i ep).set p ei), ⟨rfl, rfl, by simp [hl], .inl (by show p < es.length; omega), hdn⟩, by show es.length - p < es.length - i; omega⟩
end SX
