/- A part of the proof: walks of the seat's functions, by the rules of the texts that it imports. -/
import Derived.Test.YtplekpdckcidjaaQu14
namespace SX
open Go Go.Proofs

theorem Pu.as {P : Program} {env : Env} {op : Op} {v : Value} (v' : Value) (h : Pu P env op v) (e : v = v') : Pu P env op v' := e ▸ h
theorem pu_bool_eq {P : Program} {env : Env} {t u : TypeId} (ht : P.underlying t = some .bool) {x y : Operand} {a b : Bool} (hx : evalE env x = some (.bool a)) (hy : evalE env y = some (.bool b)) : Pu P env (.binOp .eql t x y u) (.bool (a == b)) := fun ρ hρ _ _ _ _ _ w => by
  have h1 : (Op.equal t (.bool a) (.bool b)).run P w = .ok (a == b) w := run_equalIn_bool' w 9999 t a b ht
  simp [execOp, hρ x _ hx, hρ y _ hy, eqGuard_at_bool, binOp, h1]

theorem new2 (g : Nat) (x1 x2 : Th) : Spec Try.prog 9 [.slice (some ⟨g, 0, none⟩) 2 2] [blk g 27 [.int .i64 x1.1, .int .i64 x1.2, .int .i64 x2.1, .int .i64 x2.2]]
    (fun v L => ∃ o, v = .pointer (some ⟨o, 0, none⟩) ∧ L = [qt o (put [x1] x2) 2]) := fun E w hw =>
  (new_blk g 2 [x1, x2] [] (by simp) E w hw).mono fun _ _ ⟨v, _, a, ⟨o, b, c⟩, d⟩ => ⟨v, _, a, ⟨o, b, rfl⟩, d.ent (by
    subst c
    have e : (pushTo [] 0 [x1, x2]).map (·.1) = put [x1] x2 := ins_put x2 1 [(x1, 0)] (by simp)
    exact (qt_close' e).trans Ent.one)⟩
theorem put_two (x1 x2 : Th) : put [x1] x2 = if x2.1 < x1.1 then [x2, x1] else [x1, x2] := by
  unfold put putN putN
  by_cases h : x2.1 < x1.1
  · rw [if_pos h, if_neg (by omega)]; rfl
  · rw [if_neg h, if_pos (by omega)]; rfl

/-- what a step leaves -/
def stepLen (kind : Int) (n : Nat) : Nat := if kind.tmod 6 = 0 then n + 1 else if kind.tmod 6 = 1 then n - 1 else if kind.tmod 6 = 4 then n + 2 else n
def StepPost (kind : Int) (μ : PH) (q nxt : Nat) (l : List Th) (v : Value) (L : List Assn) : Prop :=
  ∃ μ' l' nxt' lv', v = .tuple #[lv', .bool true] ∧ Le μ μ' ∧ Row μ' lv' 2 l'.length (ths l') ∧ (l'.length ≤ l.length + 2 ∧ l'.length = stepLen kind l.length) ∧ nxt' ≤ nxt + 2 ∧ L = [qt q l' nxt', ro μ']

theorem step_spec (μ : PH) (q nxt : Nat) (lv : Value) (l : List Th) (kind rank tag : Int) (hrow : Row μ lv 2 l.length (ths l)) (hb : l.length ≤ 1000000000) (hb2 : nxt ≤ 18446744073709551613) :
    Spec Try.prog 24 [.pointer (some ⟨q, 0, none⟩), lv, .agg #[.int .u8 kind, .int .i64 rank], .int .i64 tag] [qt q l nxt, ro μ] (StepPost kind μ q nxt l) := by
  refine Spec.of 196 Try.func24 rfl rfl rfl ?_
  obtain ⟨A0, cap0, hlv⟩ := hrow.form
  subst hlv
  refine swp_seq ?_
  refine swp_region ?_
  refine s_ef (ef_box rfl rfl) ?_
  intro b4
  refine s_ef (ef_box rfl rfl) ?_
  intro b5
  refine s_ef (ef_box rfl rfl) ?_
  intro b6
  refine s_ef (ef_alloc) ?_
  intro b8
  refine s_ef (ef_alloc) ?_
  intro b9
  refine swl_sub _ (.cons (t := 3) rfl (.cons (t := 4) rfl (.cons (t := 5) rfl (.cons (t := 6) rfl (.cons (t := 8) rfl (.cons (t := 9) rfl .nil)))))) ?_
  refine swl_nil ?_
  refine then_n ?_
  refine swp_seq ?_
  refine swp_seq ?_
  refine swp_region ?_
  first | refine s_pu (pu_fieldAddr0 rfl) ?_ | refine s_pu (pu_fieldAddr rfl) ?_
  refine s_rd (rd_load rfl rfl) ?_
  refine s_pu (pu_rem rfl rfl (by omega)) ?_
  refine swl_sub _ (.cons (t := 3) rfl (.cons (t := 4) rfl (.cons (t := 5) rfl (.cons (t := 6) rfl (.cons (t := 8) rfl (.cons (t := 9) rfl (.cons (t := 21) rfl .nil))))))) ?_
  refine swl_nil ?_
  refine then_n ?_
  refine swp_block ?_
  refine swp_seq ?_
  refine swp_region ?_
  refine s_pu (pu_eql rfl rfl) ?_
  refine s_pu (pu_assign rfl) ?_
  refine swl_sub _ (.cons (t := 3) rfl (.cons (t := 4) rfl (.cons (t := 5) rfl (.cons (t := 6) rfl (.cons (t := 8) rfl (.cons (t := 9) rfl (.cons (t := 21) rfl (.cons (t := 22) rfl .nil)))))))) ?_
  refine swl_nil ?_
  refine then_n ?_
  refine swp_cond (b := _) rfl (fun h22 => ?_) (fun h22 => ?_)
  · refine swp_seq ?_
    refine swp_region ?_
    refine s_rd (rd_load rfl rfl) ?_
    first | refine s_pu (pu_fieldAddr0 rfl) ?_ | refine s_pu (pu_fieldAddr rfl) ?_
    refine s_rd (rd_load rfl rfl) ?_
    refine s_pu (pu_move rfl) ?_
    refine s_pu (pu_bld (qs := [(0, _), (1, _)]) rfl) ?_
    refine s_ef (ef_fn (push_t q l nxt (rank, tag) (by omega) (by omega)) rfl rfl (by repeat (first | exact Split.nil | (apply Split.cons; (repeat (first | with_reducible exact Take.here | apply Take.there)))))) ?_
    rintro v L1 ⟨rfl, rfl⟩
    refine swl_app ?_
    refine swl_sub _ (.cons (t := 3) rfl (.cons (t := 5) rfl (.cons (t := 6) rfl (.cons (t := 8) rfl (.cons (t := 9) rfl .nil))))) ?_
    refine swl_nil ?_
    refine then_n ?_
    refine swp_seq ?_
    refine swp_region ?_
    refine s_rd (rd_load rfl rfl) ?_
    first | refine s_pu (pu_fieldAddr0 rfl) ?_ | refine s_pu (pu_fieldAddr rfl) ?_
    refine s_rd (rd_load rfl rfl) ?_
    refine s_pu (pu_move rfl) ?_
    refine s_pu (pu_bld (qs := [(0, _), (1, _)]) rfl) ?_
    refine s_ef (ef_fn (put_spec μ _ l (rank, tag) hrow (by omega)) rfl rfl (by repeat (first | exact Split.nil | (apply Split.cons; (repeat (first | with_reducible exact Take.here | apply Take.there)))))) ?_
    rintro v L1 ⟨μ2, hle2, hrow2, rfl⟩
    refine swl_app ?_
    obtain ⟨A2, cap2, rfl⟩ := hrow2.form
    refine s_ef0 (ef_store rfl rfl rfl) ?_
    refine s_ef0 (ef_store rfl rfl rfl) ?_
    refine swl_sub _ (.cons (t := 8) rfl (.cons (t := 9) rfl .nil)) ?_
    refine swl_nil ?_
    refine then_n ?_
    refine swp_ret ?_
    refine block_r ?_
    refine then_r ?_
    exact done_ret [qt q (put l (rank, tag)) (nxt + 1), ro μ2] (.cell rfl (ld_one rfl) (.cell rfl (ld_one rfl) .nil)) ⟨μ2, _, _, _, rfl, hle2, hrow2, ⟨by rw [put_len]; omega, by simp [stepLen, of_decide_eq_true h22, put_len]⟩, by omega, rfl⟩ (by repeat (first | exact Split.nil | (apply Split.cons; (repeat (first | with_reducible exact Take.here | apply Take.there)))))
  · refine swp_seq ?_
    refine swp_region ?_
    refine s_pu (pu_eql rfl rfl) ?_
    refine s_pu (pu_assign rfl) ?_
    refine swl_sub _ (.cons (t := 3) rfl (.cons (t := 4) rfl (.cons (t := 5) rfl (.cons (t := 6) rfl (.cons (t := 8) rfl (.cons (t := 9) rfl (.cons (t := 21) rfl (.cons (t := 36) rfl .nil)))))))) ?_
    refine swl_nil ?_
    refine then_n ?_
    refine swp_cond (b := _) rfl (fun h36 => ?_) (fun h36 => ?_)
    · refine swp_seq ?_
      refine swp_region ?_
      cases l with
      | nil =>
        refine s_rd (rd_load rfl rfl) ?_
        refine s_ef (ef_fn (pop_t0 q nxt) rfl rfl (by repeat (first | exact Split.nil | (apply Split.cons; (repeat (first | with_reducible exact Take.here | apply Take.there)))))) ?_
        rintro v L1 ⟨rfl, rfl⟩
        refine swl_app ?_
        refine s_pu (pu_move rfl) ?_
        refine s_pu (pu_extract rfl rfl) ?_
        refine s_pu (pu_extract rfl rfl) ?_
        refine s_ef (ef_alloc) ?_
        intro b10
        refine s_ef0 (ef_storeA rfl rfl rfl rfl) ?_
        refine s_pu (pu_assign rfl) ?_
        refine swl_sub _ (.cons (t := 5) rfl (.cons (t := 8) rfl (.cons (t := 9) rfl (.cons (t := 10) rfl (.cons (t := 11) rfl .nil))))) ?_
        refine swl_nil ?_
        refine then_n ?_
        refine swp_seq ?_
        refine swp_seq ?_
        refine swp_region ?_
        refine s_rd (rd_load rfl rfl) ?_
        refine s_pu (pu_len rfl) ?_
        refine s_pu (pu_eql rfl rfl) ?_
        refine swl_sub _ (.cons (t := 5) rfl (.cons (t := 8) rfl (.cons (t := 9) rfl (.cons (t := 10) rfl (.cons (t := 11) rfl (.cons (t := 45) rfl .nil)))))) ?_
        refine swl_nil ?_
        refine then_n ?_
        refine swp_cond (b := _) rfl (fun h45 => ?_) (fun h45 => absurd h45 (by simp))
        refine swp_seq ?_
        refine swp_draw [0, 4] _ [blk b8 42 [.slice none 0 0], blk b9 4 [.bool false]] (Ent.perm ((Split.perm (by repeat (first | exact Split.nil | (apply Split.cons; (repeat (first | with_reducible exact Take.here | apply Take.there)))))).trans List.perm_append_comm)) (by kernel_rfl) ?_
        refine d_rd 0 rfl (rd_load rfl rfl) rfl (by kernel_rfl) (by kernel_rfl) (by kernel_rfl) ?_
        refine d_pu 1 rfl (pu_move rfl) (by kernel_rfl) (by kernel_rfl) (by kernel_rfl) ?_
        refine d_pu 2 rfl (pu_not rfl) (by kernel_rfl) (by kernel_rfl) (by kernel_rfl) ?_
        refine d_pu 3 rfl (pu_move rfl) (by kernel_rfl) (by kernel_rfl) (by kernel_rfl) ?_
        first | refine d_rd_on 4 rfl rfl rfl (rd_loadW rfl rfl) rfl (by kernel_rfl) (by kernel_rfl) (by kernel_rfl) ?_ | refine d_rd_on 4 rfl rfl rfl (rd_loadX rfl rfl rfl) rfl (by kernel_rfl) (by kernel_rfl) (by kernel_rfl) ?_
        refine d_pu_on 5 rfl rfl rfl (pu_bld (qs := []) rfl) (by kernel_rfl) (by kernel_rfl) (by kernel_rfl) ?_
        refine d_pu_on 6 rfl rfl rfl (pu_st2_eq rfl rfl) (by kernel_rfl) (by kernel_rfl) (by kernel_rfl) ?_
        first | refine d_pu 7 rfl (pu_pick_t rfl rfl) (by kernel_rfl) (by kernel_rfl) (by kernel_rfl) ?_ | refine d_pu 7 rfl (pu_pick_f rfl rfl) (by kernel_rfl) (by kernel_rfl) (by kernel_rfl) ?_
        refine d_ef0t 8 rfl (by kernel_rfl) (ef_store rfl rfl rfl) ?_
        refine ⟨_, Split.ent (by repeat (first | exact Split.nil | (apply Split.cons; (repeat (first | with_reducible exact Take.here | apply Take.there))))), ?_⟩
        first | refine d_fin0t 9 rfl (by kernel_rfl) (by kernel_rfl) (ef_store rfl rfl rfl) ?_ | refine d_fin0f 9 rfl (by kernel_rfl) (by kernel_rfl) (ef_store rfl rfl rfl) ?_
        first | refine d_nilt (by kernel_rfl) ?_ | refine d_nilf (by kernel_rfl) ?_
        refine then_n ?_
        refine swp_ret ?_
        refine then_r ?_
        refine block_r ?_
        refine then_r ?_
        exact done_ret [qt q [] nxt, ro μ] (.cell rfl (ld_one rfl) (.cell rfl (ld_one rfl) .nil)) ⟨μ, [], nxt, _, rfl, Le.refl _, hrow, ⟨by simp, by simp [stepLen, of_decide_eq_true h36, put_len]⟩, by omega, rfl⟩ (by repeat (first | exact Split.nil | (apply Split.cons; (repeat (first | with_reducible exact Take.here | apply Take.there)))))
      | cons x l =>
        obtain ⟨gl, off, cap, hv, c1, c2, hlr⟩ := hrow.pos (by simp)
        simp only [Value.slice.injEq, true_and] at hv
        obtain ⟨rfl, rfl⟩ := hv
        have hrk := hlr.elem tcs_len (i := 0) (e := x) rfl
        refine s_rd (rd_load rfl rfl) ?_
        refine s_ef (ef_fn (pop_t q nxt x l (by omega)) rfl rfl (by repeat (first | exact Split.nil | (apply Split.cons; (repeat (first | with_reducible exact Take.here | apply Take.there)))))) ?_
        rintro v L1 ⟨rfl, rfl⟩
        refine swl_app ?_
        refine s_pu (pu_move rfl) ?_
        refine s_pu (pu_extract rfl rfl) ?_
        refine s_pu (pu_extract rfl rfl) ?_
        refine s_ef (ef_alloc) ?_
        intro b10
        refine s_ef0 (ef_storeA rfl rfl rfl rfl) ?_
        refine s_pu (pu_assign rfl) ?_
        refine swl_sub _ (.cons (t := 5) rfl (.cons (t := 8) rfl (.cons (t := 9) rfl (.cons (t := 10) rfl (.cons (t := 11) rfl .nil))))) ?_
        refine swl_nil ?_
        refine then_n ?_
        refine swp_seq ?_
        refine swp_seq ?_
        refine swp_region ?_
        refine s_rd (rd_load rfl rfl) ?_
        refine s_pu (pu_len rfl) ?_
        refine s_pu (pu_eql rfl rfl) ?_
        refine swl_sub _ (.cons (t := 5) rfl (.cons (t := 8) rfl (.cons (t := 9) rfl (.cons (t := 10) rfl (.cons (t := 11) rfl (.cons (t := 45) rfl .nil)))))) ?_
        refine swl_nil ?_
        refine then_n ?_
        refine swp_cond (b := _) rfl (fun h45 => absurd h45 (by simp; omega)) (fun h45 => ?_)
        refine swp_skip ?_
        refine then_n ?_
        obtain ⟨v4, hr4, hp4⟩ := Row.lo (P := Try.prog) (t := 42) hrow 1 (by rw [List.length_cons]; omega)
        rw [ths_drop] at hr4
        obtain ⟨A4, cap4, rfl⟩ := hr4.form
        refine swp_seq ?_
        refine swp_draw [0, 4, 6, 8] _ [blk b8 42 [.slice none 0 0], blk b9 4 [.bool false]] (Ent.perm ((Split.perm (by repeat (first | exact Split.nil | (apply Split.cons; (repeat (first | with_reducible exact Take.here | apply Take.there)))))).trans List.perm_append_comm)) (by kernel_rfl) ?_
        refine d_rd 0 rfl (rd_load rfl rfl) rfl (by kernel_rfl) (by kernel_rfl) (by kernel_rfl) ?_
        refine d_pu 1 rfl (hp4 _ _ _ _ _ rfl rfl rfl) (by kernel_rfl) (by kernel_rfl) (by kernel_rfl) ?_
        refine d_pu 2 rfl (pu_move rfl) (by kernel_rfl) (by kernel_rfl) (by kernel_rfl) ?_
        refine d_pu 3 rfl (pu_move rfl) (by kernel_rfl) (by kernel_rfl) (by kernel_rfl) ?_
        first | refine d_rd_on 4 rfl rfl rfl (rd_loadW rfl rfl) rfl (by kernel_rfl) (by kernel_rfl) (by kernel_rfl) ?_ | refine d_rd_on 4 rfl rfl rfl (rd_loadX rfl rfl rfl) rfl (by kernel_rfl) (by kernel_rfl) (by kernel_rfl) ?_
        refine d_rd_on 6 rfl rfl rfl (rd_load rfl rfl) rfl (by kernel_rfl) (by kernel_rfl) (by kernel_rfl) ?_
        refine d_pu_on 7 rfl rfl rfl (pu_indexAddr (off + 0 * 2) rfl rfl (by omega) (by simp) rfl) (by kernel_rfl) (by kernel_rfl) (by kernel_rfl) ?_
        refine d_rd_on 8 rfl rfl rfl (rd_roA (vs := [.int .i64 x.1, .int .i64 x.2]) rfl (by rfl) hrk) rfl (by kernel_rfl) (by kernel_rfl) (by kernel_rfl) ?_
        refine d_amb [5] (by kernel_rfl) rfl ?_
        refine dA_ef 5 rfl (GOn.some rfl rfl) (ef_fn (mine_spec x) rfl rfl (by repeat (first | exact Split.nil | (apply Split.cons; (repeat (first | with_reducible exact Take.here | apply Take.there)))))) ?_
        rintro v L1 ⟨rfl, rfl⟩
        refine ⟨_, ent_app (Split.ent (by repeat (first | exact Split.nil | (apply Split.cons; (repeat (first | with_reducible exact Take.here | apply Take.there)))))), ?_⟩
        refine d_pu_on 9 rfl rfl rfl (pu_st2_eq rfl rfl) (by kernel_rfl) (by kernel_rfl) (by kernel_rfl) ?_
        first | refine d_pu 10 rfl (pu_pick_t rfl rfl) (by kernel_rfl) (by kernel_rfl) (by kernel_rfl) ?_ | refine d_pu 10 rfl (pu_pick_f rfl rfl) (by kernel_rfl) (by kernel_rfl) (by kernel_rfl) ?_
        refine d_ef0t 11 rfl (by kernel_rfl) (ef_store rfl rfl rfl) ?_
        refine ⟨_, Split.ent (by repeat (first | exact Split.nil | (apply Split.cons; (repeat (first | with_reducible exact Take.here | apply Take.there))))), ?_⟩
        first | refine d_fin0t 12 rfl (by kernel_rfl) (by kernel_rfl) (ef_store rfl rfl rfl) ?_ | refine d_fin0f 12 rfl (by kernel_rfl) (by kernel_rfl) (ef_store rfl rfl rfl) ?_
        first | refine d_nilt (by kernel_rfl) ?_ | refine d_nilf (by kernel_rfl) ?_
        refine then_n ?_
        refine swp_ret ?_
        refine block_r ?_
        refine then_r ?_
        exact done_ret [qt q l nxt, ro μ] (.cell rfl (ld_one rfl) (.cell rfl (ld_one rfl) .nil)) ⟨μ, l, nxt, _, by simp [resV], Le.refl _, hr4, ⟨by simp; omega, by simp [stepLen, of_decide_eq_true h36, put_len]⟩, by omega, rfl⟩ (by repeat (first | exact Split.nil | (apply Split.cons; (repeat (first | with_reducible exact Take.here | apply Take.there)))))
    · refine swp_seq ?_
      refine swp_region ?_
      refine s_pu (pu_eql rfl rfl) ?_
      refine s_pu (pu_assign rfl) ?_
      refine swl_sub _ (.cons (t := 3) rfl (.cons (t := 4) rfl (.cons (t := 5) rfl (.cons (t := 6) rfl (.cons (t := 8) rfl (.cons (t := 9) rfl (.cons (t := 21) rfl (.cons (t := 65) rfl .nil)))))))) ?_
      refine swl_nil ?_
      refine then_n ?_
      refine swp_cond (b := _) rfl (fun h65 => ?_) (fun h65 => ?_)
      · refine swp_seq ?_
        refine swp_region ?_
        cases l with
        | nil =>
          refine s_rd (rd_load rfl rfl) ?_
          refine s_ef (ef_fn (peek_t0 q nxt) rfl rfl (by repeat (first | exact Split.nil | (apply Split.cons; (repeat (first | with_reducible exact Take.here | apply Take.there)))))) ?_
          rintro v L1 ⟨rfl, rfl⟩
          refine swl_app ?_
          refine s_pu (pu_move rfl) ?_
          refine s_pu (pu_extract rfl rfl) ?_
          refine s_pu (pu_extract rfl rfl) ?_
          refine s_ef (ef_alloc) ?_
          intro b12
          refine s_ef0 (ef_storeA rfl rfl rfl rfl) ?_
          refine s_pu (pu_assign rfl) ?_
          refine swl_sub _ (.cons (t := 5) rfl (.cons (t := 8) rfl (.cons (t := 9) rfl (.cons (t := 12) rfl (.cons (t := 13) rfl .nil))))) ?_
          refine swl_nil ?_
          refine then_n ?_
          refine swp_seq ?_
          refine swp_draw [0, 2, 9, 11, 13, 20] _ [blk b8 42 [.slice none 0 0], blk b9 4 [.bool false]] (Ent.perm ((Split.perm (by repeat (first | exact Split.nil | (apply Split.cons; (repeat (first | with_reducible exact Take.here | apply Take.there)))))).trans List.perm_append_comm)) (by kernel_rfl) ?_
          refine d_rd 0 rfl (rd_load rfl rfl) rfl (by kernel_rfl) (by kernel_rfl) (by kernel_rfl) ?_
          refine d_pu 1 rfl (pu_move rfl) (by kernel_rfl) (by kernel_rfl) (by kernel_rfl) ?_
          refine d_rd 2 rfl (rd_load rfl rfl) rfl (by kernel_rfl) (by kernel_rfl) (by kernel_rfl) ?_
          refine d_pu 3 rfl (pu_len rfl) (by kernel_rfl) (by kernel_rfl) (by kernel_rfl) ?_
          refine d_pu 4 rfl (pu_gtr rfl rfl) (by kernel_rfl) (by kernel_rfl) (by kernel_rfl) ?_
          refine d_pu 5 rfl (pu_bool_eq Try.underlying4 rfl rfl) (by kernel_rfl) (by kernel_rfl) (by kernel_rfl) ?_
          refine d_pu 6 rfl (pu_move rfl) (by kernel_rfl) (by kernel_rfl) (by kernel_rfl) ?_
          refine d_pu_on 7 rfl rfl rfl (pu_move rfl) (by kernel_rfl) (by kernel_rfl) (by kernel_rfl) ?_
          refine d_pu_on 8 rfl rfl rfl (pu_move rfl) (by kernel_rfl) (by kernel_rfl) (by kernel_rfl) ?_
          refine d_off 9 rfl rfl rfl rfl (by kernel_rfl) (by kernel_rfl) (by kernel_rfl) ?_
          refine d_off 11 rfl rfl rfl rfl (by kernel_rfl) (by kernel_rfl) (by kernel_rfl) ?_
          refine d_off 12 rfl rfl rfl rfl (by kernel_rfl) (by kernel_rfl) (by kernel_rfl) ?_
          refine d_off 13 rfl rfl rfl rfl (by kernel_rfl) (by kernel_rfl) (by kernel_rfl) ?_
          refine d_off 10 rfl rfl rfl rfl (by kernel_rfl) (by kernel_rfl) (by kernel_rfl) ?_
          refine d_off 14 rfl rfl rfl rfl (by kernel_rfl) (by kernel_rfl) (by kernel_rfl) ?_
          first | refine d_pu_on 15 rfl rfl rfl (pu_pick_t rfl rfl) (by kernel_rfl) (by kernel_rfl) (by kernel_rfl) ?_ | refine d_pu_on 15 rfl rfl rfl (pu_pick_f rfl rfl) (by kernel_rfl) (by kernel_rfl) (by kernel_rfl) ?_
          refine d_pu_on 16 rfl rfl rfl (pu_move rfl) (by kernel_rfl) (by kernel_rfl) (by kernel_rfl) ?_
          refine d_pu_on 17 rfl rfl rfl (pu_move rfl) (by kernel_rfl) (by kernel_rfl) (by kernel_rfl) ?_
          refine d_pu_on 18 rfl rfl rfl (pu_not rfl) (by kernel_rfl) (by kernel_rfl) (by kernel_rfl) ?_
          refine d_pu_on 19 rfl rfl rfl (pu_move rfl) (by kernel_rfl) (by kernel_rfl) (by kernel_rfl) ?_
          first | refine d_rd_on 20 rfl rfl rfl (rd_loadW rfl rfl) rfl (by kernel_rfl) (by kernel_rfl) (by kernel_rfl) ?_ | refine d_rd_on 20 rfl rfl rfl (rd_loadX rfl rfl rfl) rfl (by kernel_rfl) (by kernel_rfl) (by kernel_rfl) ?_
          refine d_pu_on 21 rfl rfl rfl (pu_bld (qs := []) rfl) (by kernel_rfl) (by kernel_rfl) (by kernel_rfl) ?_
          refine d_pu_on 22 rfl rfl rfl (pu_st2_eq rfl rfl) (by kernel_rfl) (by kernel_rfl) (by kernel_rfl) ?_
          first | refine d_pu_on 23 rfl rfl rfl (pu_pick_t rfl rfl) (by kernel_rfl) (by kernel_rfl) (by kernel_rfl) ?_ | refine d_pu_on 23 rfl rfl rfl (pu_pick_f rfl rfl) (by kernel_rfl) (by kernel_rfl) (by kernel_rfl) ?_
          first | refine d_pu_on 24 rfl rfl rfl (pu_pick_t rfl rfl) (by kernel_rfl) (by kernel_rfl) (by kernel_rfl) ?_ | refine d_pu_on 24 rfl rfl rfl (pu_pick_f rfl rfl) (by kernel_rfl) (by kernel_rfl) (by kernel_rfl) ?_
          first | refine d_pu 25 rfl (pu_pick_t rfl rfl) (by kernel_rfl) (by kernel_rfl) (by kernel_rfl) ?_ | refine d_pu 25 rfl (pu_pick_f rfl rfl) (by kernel_rfl) (by kernel_rfl) (by kernel_rfl) ?_
          refine d_ef0t 26 rfl (by kernel_rfl) (ef_store rfl rfl rfl) ?_
          refine ⟨_, Split.ent (by repeat (first | exact Split.nil | (apply Split.cons; (repeat (first | with_reducible exact Take.here | apply Take.there))))), ?_⟩
          first | refine d_fin0t 27 rfl (by kernel_rfl) (by kernel_rfl) (ef_store rfl rfl rfl) ?_ | refine d_fin0f 27 rfl (by kernel_rfl) (by kernel_rfl) (ef_store rfl rfl rfl) ?_
          first | refine d_nilt (by kernel_rfl) ?_ | refine d_nilf (by kernel_rfl) ?_
          refine then_n ?_
          refine swp_ret ?_
          refine block_r ?_
          refine then_r ?_
          exact done_ret [qt q [] nxt, ro μ] (.cell rfl (ld_one rfl) (.cell rfl (ld_one rfl) .nil)) ⟨μ, [], nxt, _, rfl, Le.refl _, hrow, ⟨by simp, by simp [stepLen, of_decide_eq_true h65, put_len]⟩, by omega, rfl⟩ (by repeat (first | exact Split.nil | (apply Split.cons; (repeat (first | with_reducible exact Take.here | apply Take.there)))))
        | cons x l =>
          obtain ⟨gl, off, cap, hv, c1, c2, hlr⟩ := hrow.pos (by simp)
          simp only [Value.slice.injEq, true_and] at hv
          obtain ⟨rfl, rfl⟩ := hv
          have hrk := hlr.elem tcs_len (i := 0) (e := x) rfl
          refine s_rd (rd_load rfl rfl) ?_
          refine s_ef (ef_fn (peek_t q nxt x l) rfl rfl (by repeat (first | exact Split.nil | (apply Split.cons; (repeat (first | with_reducible exact Take.here | apply Take.there)))))) ?_
          rintro v L1 ⟨rfl, rfl⟩
          refine swl_app ?_
          refine s_pu (pu_move rfl) ?_
          refine s_pu (pu_extract rfl rfl) ?_
          refine s_pu (pu_extract rfl rfl) ?_
          refine s_ef (ef_alloc) ?_
          intro b12
          refine s_ef0 (ef_storeA rfl rfl rfl rfl) ?_
          refine s_pu (pu_assign rfl) ?_
          refine swl_sub _ (.cons (t := 5) rfl (.cons (t := 8) rfl (.cons (t := 9) rfl (.cons (t := 12) rfl (.cons (t := 13) rfl .nil))))) ?_
          refine swl_nil ?_
          refine then_n ?_
          refine swp_seq ?_
          refine swp_draw [0, 2, 9, 11, 13, 20] _ [blk b8 42 [.slice none 0 0], blk b9 4 [.bool false]] (Ent.perm ((Split.perm (by repeat (first | exact Split.nil | (apply Split.cons; (repeat (first | with_reducible exact Take.here | apply Take.there)))))).trans List.perm_append_comm)) (by kernel_rfl) ?_
          refine d_rd 0 rfl (rd_load rfl rfl) rfl (by kernel_rfl) (by kernel_rfl) (by kernel_rfl) ?_
          refine d_pu 1 rfl (pu_move rfl) (by kernel_rfl) (by kernel_rfl) (by kernel_rfl) ?_
          refine d_rd 2 rfl (rd_load rfl rfl) rfl (by kernel_rfl) (by kernel_rfl) (by kernel_rfl) ?_
          refine d_pu 3 rfl (pu_len rfl) (by kernel_rfl) (by kernel_rfl) (by kernel_rfl) ?_
          refine d_pu 4 rfl (pu_gtr rfl rfl) (by kernel_rfl) (by kernel_rfl) (by kernel_rfl) ?_
          refine d_pu 5 rfl (Pu.as (.bool true) (pu_bool_eq Try.underlying4 rfl rfl) (by simp)) (by kernel_rfl) (by kernel_rfl) (by kernel_rfl) ?_
          refine d_pu 6 rfl (pu_move rfl) (by kernel_rfl) (by kernel_rfl) (by kernel_rfl) ?_
          refine d_pu_on 7 rfl rfl rfl (pu_move rfl) (by kernel_rfl) (by kernel_rfl) (by kernel_rfl) ?_
          refine d_pu_on 8 rfl rfl rfl (pu_move rfl) (by kernel_rfl) (by kernel_rfl) (by kernel_rfl) ?_
          first | refine d_rd_on 9 rfl rfl rfl (rd_loadW rfl rfl) rfl (by kernel_rfl) (by kernel_rfl) (by kernel_rfl) ?_ | refine d_rd_on 9 rfl rfl rfl (rd_loadX rfl rfl rfl) rfl (by kernel_rfl) (by kernel_rfl) (by kernel_rfl) ?_
          refine d_rd_on 11 rfl rfl rfl (rd_load rfl rfl) rfl (by kernel_rfl) (by kernel_rfl) (by kernel_rfl) ?_
          refine d_pu_on 12 rfl rfl rfl (pu_indexAddr (off + 0 * 2) rfl rfl (by omega) (by simp) rfl) (by kernel_rfl) (by kernel_rfl) (by kernel_rfl) ?_
          refine d_rd_on 13 rfl rfl rfl (rd_roA (vs := [.int .i64 x.1, .int .i64 x.2]) rfl (by rfl) hrk) rfl (by kernel_rfl) (by kernel_rfl) (by kernel_rfl) ?_
          refine d_amb [10] (by kernel_rfl) rfl ?_
          refine dA_ef 10 rfl (GOn.some rfl rfl) (ef_fn (mine_spec x) rfl rfl (by repeat (first | exact Split.nil | (apply Split.cons; (repeat (first | with_reducible exact Take.here | apply Take.there)))))) ?_
          rintro v L1 ⟨rfl, rfl⟩
          refine ⟨_, ent_app (Split.ent (by repeat (first | exact Split.nil | (apply Split.cons; (repeat (first | with_reducible exact Take.here | apply Take.there)))))), ?_⟩
          refine d_pu_on 14 rfl rfl rfl (Pu.as (.bool true) (pu_st2_eq rfl rfl) (by simp)) (by kernel_rfl) (by kernel_rfl) (by kernel_rfl) ?_
          first | refine d_pu_on 15 rfl rfl rfl (pu_pick_t rfl rfl) (by kernel_rfl) (by kernel_rfl) (by kernel_rfl) ?_ | refine d_pu_on 15 rfl rfl rfl (pu_pick_f rfl rfl) (by kernel_rfl) (by kernel_rfl) (by kernel_rfl) ?_
          refine d_pu_on 16 rfl rfl rfl (pu_move rfl) (by kernel_rfl) (by kernel_rfl) (by kernel_rfl) ?_
          refine d_off 17 rfl rfl rfl rfl (by kernel_rfl) (by kernel_rfl) (by kernel_rfl) ?_
          refine d_off 18 rfl rfl rfl rfl (by kernel_rfl) (by kernel_rfl) (by kernel_rfl) ?_
          refine d_off 19 rfl rfl rfl rfl (by kernel_rfl) (by kernel_rfl) (by kernel_rfl) ?_
          refine d_off 20 rfl rfl rfl rfl (by kernel_rfl) (by kernel_rfl) (by kernel_rfl) ?_
          refine d_off 21 rfl rfl rfl rfl (by kernel_rfl) (by kernel_rfl) (by kernel_rfl) ?_
          refine d_off 22 rfl rfl rfl rfl (by kernel_rfl) (by kernel_rfl) (by kernel_rfl) ?_
          refine d_off 23 rfl rfl rfl rfl (by kernel_rfl) (by kernel_rfl) (by kernel_rfl) ?_
          first | refine d_pu_on 24 rfl rfl rfl (pu_pick_t rfl rfl) (by kernel_rfl) (by kernel_rfl) (by kernel_rfl) ?_ | refine d_pu_on 24 rfl rfl rfl (pu_pick_f rfl rfl) (by kernel_rfl) (by kernel_rfl) (by kernel_rfl) ?_
          first | refine d_pu 25 rfl (pu_pick_t rfl rfl) (by kernel_rfl) (by kernel_rfl) (by kernel_rfl) ?_ | refine d_pu 25 rfl (pu_pick_f rfl rfl) (by kernel_rfl) (by kernel_rfl) (by kernel_rfl) ?_
          refine d_ef0t 26 rfl (by kernel_rfl) (ef_store rfl rfl rfl) ?_
          refine ⟨_, Split.ent (by repeat (first | exact Split.nil | (apply Split.cons; (repeat (first | with_reducible exact Take.here | apply Take.there))))), ?_⟩
          first | refine d_fin0t 27 rfl (by kernel_rfl) (by kernel_rfl) (ef_store rfl rfl rfl) ?_ | refine d_fin0f 27 rfl (by kernel_rfl) (by kernel_rfl) (ef_store rfl rfl rfl) ?_
          first | refine d_nilt (by kernel_rfl) ?_ | refine d_nilf (by kernel_rfl) ?_
          refine then_n ?_
          refine swp_ret ?_
          refine block_r ?_
          refine then_r ?_
          exact done_ret [qt q (x :: l) nxt, ro μ] (.cell rfl (ld_one rfl) (.cell rfl (ld_one rfl) .nil)) ⟨μ, x :: l, nxt, _, rfl, Le.refl _, hrow, ⟨by simp, by simp [stepLen, of_decide_eq_true h65, put_len]⟩, by omega, rfl⟩ (by repeat (first | exact Split.nil | (apply Split.cons; (repeat (first | with_reducible exact Take.here | apply Take.there)))))
      · refine swp_seq ?_
        refine swp_region ?_
        refine s_pu (pu_eql rfl rfl) ?_
        refine s_pu (pu_assign rfl) ?_
        refine swl_sub _ (.cons (t := 3) rfl (.cons (t := 4) rfl (.cons (t := 5) rfl (.cons (t := 6) rfl (.cons (t := 8) rfl (.cons (t := 9) rfl (.cons (t := 21) rfl (.cons (t := 98) rfl .nil)))))))) ?_
        refine swl_nil ?_
        refine then_n ?_
        refine swp_cond (b := _) rfl (fun h98 => ?_) (fun h98 => ?_)
        · refine swp_seq ?_
          refine swp_draw [0, 1, 2, 4, 7, 8] _ [blk b8 42 [.slice none 0 0], blk b9 4 [.bool false], qt q l nxt] (Ent.perm ((Split.perm (by repeat (first | exact Split.nil | (apply Split.cons; (repeat (first | with_reducible exact Take.here | apply Take.there)))))).trans List.perm_append_comm)) (by kernel_rfl) ?_
          refine d_rd 0 rfl (rd_load rfl rfl) rfl (by kernel_rfl) (by kernel_rfl) (by kernel_rfl) ?_
          refine d_rd 1 rfl (rd_load rfl rfl) rfl (by kernel_rfl) (by kernel_rfl) (by kernel_rfl) ?_
          refine d_rd 2 rfl (rd_load rfl rfl) rfl (by kernel_rfl) (by kernel_rfl) (by kernel_rfl) ?_
          first | refine d_pu 3 rfl (pu_fieldAddr0 rfl) (by kernel_rfl) (by kernel_rfl) (by kernel_rfl) ?_ | refine d_pu 3 rfl (pu_fieldAddr rfl) (by kernel_rfl) (by kernel_rfl) (by kernel_rfl) ?_
          refine d_rd 4 rfl (rd_load rfl rfl) rfl (by kernel_rfl) (by kernel_rfl) (by kernel_rfl) ?_
          refine d_eft 5 rfl (by kernel_rfl) (ef_fn (given_spec μ q nxt _ l rank hrow (by omega)) rfl rfl (by repeat (first | exact Split.nil | (apply Split.cons; (repeat (first | with_reducible exact Take.here | apply Take.there)))))) ?_
          rintro v L1 ⟨rfl, rfl⟩
          refine ⟨_, ent_app (Split.ent (by repeat (first | exact Split.nil | (apply Split.cons; (repeat (first | with_reducible exact Take.here | apply Take.there)))))), ?_⟩
          refine d_pu 6 rfl (pu_move rfl) (by kernel_rfl) (by kernel_rfl) (by kernel_rfl) ?_
          refine d_rd_on 7 rfl rfl rfl (rd_load rfl rfl) rfl (by kernel_rfl) (by kernel_rfl) (by kernel_rfl) ?_
          refine d_rd_on 8 rfl rfl rfl (rd_load rfl rfl) rfl (by kernel_rfl) (by kernel_rfl) (by kernel_rfl) ?_
          refine d_amb [9] (by kernel_rfl) rfl ?_
          refine dA_ef 9 rfl (GOn.some rfl rfl) (ef_fn (given_spec μ q nxt _ l (-1) hrow (by omega)) rfl rfl (by repeat (first | exact Split.nil | (apply Split.cons; (repeat (first | with_reducible exact Take.here | apply Take.there)))))) ?_
          rintro v L1 ⟨rfl, rfl⟩
          refine ⟨_, ent_app (Split.ent (by repeat (first | exact Split.nil | (apply Split.cons; (repeat (first | with_reducible exact Take.here | apply Take.there)))))), ?_⟩
          first | refine d_pu 10 rfl (pu_pick_t rfl rfl) (by kernel_rfl) (by kernel_rfl) (by kernel_rfl) ?_ | refine d_pu 10 rfl (pu_pick_f rfl rfl) (by kernel_rfl) (by kernel_rfl) (by kernel_rfl) ?_
          first | refine d_fin0t 11 rfl (by kernel_rfl) (by kernel_rfl) (ef_store rfl rfl rfl) ?_ | refine d_fin0f 11 rfl (by kernel_rfl) (by kernel_rfl) (ef_store rfl rfl rfl) ?_
          first | refine d_fin0t 12 rfl (by kernel_rfl) (by kernel_rfl) (ef_store rfl rfl rfl) ?_ | refine d_fin0f 12 rfl (by kernel_rfl) (by kernel_rfl) (ef_store rfl rfl rfl) ?_
          first | refine d_nilt (by kernel_rfl) ?_ | refine d_nilf (by kernel_rfl) ?_
          refine then_n ?_
          refine swp_ret ?_
          refine block_r ?_
          refine then_r ?_
          exact done_ret [qt q l nxt, ro μ] (.cell rfl (ld_one rfl) (.cell rfl (ld_one rfl) .nil)) ⟨μ, l, nxt, _, rfl, Le.refl _, hrow, ⟨by omega, by simp [stepLen, of_decide_eq_true h98, put_len]⟩, by omega, rfl⟩ (by repeat (first | exact Split.nil | (apply Split.cons; (repeat (first | with_reducible exact Take.here | apply Take.there)))))
        · refine swp_seq ?_
          refine swp_region ?_
          refine s_pu (pu_eql rfl rfl) ?_
          refine s_pu (pu_assign rfl) ?_
          refine swl_sub _ (.cons (t := 3) rfl (.cons (t := 4) rfl (.cons (t := 5) rfl (.cons (t := 6) rfl (.cons (t := 8) rfl (.cons (t := 9) rfl (.cons (t := 111) rfl .nil))))))) ?_
          refine swl_nil ?_
          refine then_n ?_
          refine swp_cond (b := _) rfl (fun h111 => ?_) (fun h111 => ?_)
          · refine swp_seq ?_
            refine swp_region ?_
            first | refine s_pu (pu_fieldAddr0 rfl) ?_ | refine s_pu (pu_fieldAddr rfl) ?_
            refine s_rd (rd_load rfl rfl) ?_
            refine s_pu (pu_move rfl) ?_
            refine s_pu (pu_neg rfl) ?_
            refine s_pu (pu_bld (qs := [(0, _), (1, _)]) rfl) ?_
            first | refine s_pu (pu_fieldAddr0 rfl) ?_ | refine s_pu (pu_fieldAddr rfl) ?_
            refine s_rd (rd_load rfl rfl) ?_
            first | refine s_pu (pu_quo_in rfl rfl (by omega) (by omega) (by omega)) ?_ | refine s_pu (pu_quo rfl rfl (by omega)) ?_
            refine s_pu (pu_move rfl) ?_
            refine s_pu (pu_neg rfl) ?_
            first | refine s_pu (pu_sub_in rfl rfl (by omega) (by omega)) ?_ | refine s_pu (pu_sub rfl rfl) ?_
            refine s_pu (pu_bld (qs := [(0, _), (1, _)]) rfl) ?_
            refine s_ef (ef_bldS (qs := [(0, _), (1, _)]) rfl rfl rfl) ?_
            intro b125
            refine s_ef (ef_fn (new2 _ (rank, IntKind.i64.wrap (0 - tag)) (IntKind.i64.wrap (rank.tdiv 2), IntKind.i64.wrap (IntKind.i64.wrap (0 - tag) - 1))) rfl rfl (by repeat (first | exact Split.nil | (apply Split.cons; (repeat (first | with_reducible exact Take.here | apply Take.there)))))) ?_
            rintro v L1 ⟨o, rfl, rfl⟩
            refine swl_app ?_
            refine s_pu (pu_assign rfl) ?_
            refine swl_sub _ (.cons (t := 3) rfl (.cons (t := 4) rfl (.cons (t := 5) rfl (.cons (t := 6) rfl (.cons (t := 8) rfl (.cons (t := 9) rfl (.cons (t := 14) rfl .nil))))))) ?_
            refine swl_nil ?_
            refine then_n ?_
            have htwo : ∀ x1 x2 : Th, (put [x1] x2).length = 2 := fun x1 x2 => by rw [put_len]; rfl
            refine swp_seq ?_
            refine swp_region ?_
            refine s_rd (rd_load rfl rfl) ?_
            refine s_pu (pu_move rfl) ?_
            refine s_ef (ef_fn (take_t q o nxt 2 l (put [((rank, IntKind.i64.wrap (0 - tag)) : Th)] (IntKind.i64.wrap (rank.tdiv 2), IntKind.i64.wrap (IntKind.i64.wrap (0 - tag) - 1))) (by rw [htwo]; omega) (by rw [htwo]; omega)) rfl rfl (by repeat (first | exact Split.nil | (apply Split.cons; (repeat (first | with_reducible exact Take.here | apply Take.there)))))) ?_
            rintro v L1 ⟨rfl, rfl⟩
            refine swl_app ?_
            rw [htwo]
            refine swl_sub _ (.cons (t := 3) rfl (.cons (t := 4) rfl (.cons (t := 5) rfl (.cons (t := 6) rfl (.cons (t := 8) rfl (.cons (t := 9) rfl (.cons (t := 14) rfl .nil))))))) ?_
            refine swl_nil ?_
            refine then_n ?_
            refine swp_seq ?_
            refine swp_region ?_
            refine s_rd (rd_load rfl rfl) ?_
            refine s_rd (rd_load rfl rfl) ?_
            refine s_ef (ef_fn (take_self ⟨q, 0, none⟩) rfl rfl (by repeat (first | exact Split.nil | (apply Split.cons; (repeat (first | with_reducible exact Take.here | apply Take.there)))))) ?_
            rintro v L1 ⟨rfl, rfl⟩
            refine swl_app ?_
            refine swl_sub _ (.cons (t := 3) rfl (.cons (t := 4) rfl (.cons (t := 5) rfl (.cons (t := 6) rfl (.cons (t := 8) rfl (.cons (t := 9) rfl (.cons (t := 14) rfl .nil))))))) ?_
            refine swl_nil ?_
            refine then_n ?_
            refine swp_seq ?_
            refine swp_region ?_
            refine s_rd (rd_load rfl rfl) ?_
            refine s_ef (ef_fn (take_of_nil ⟨q, 0, none⟩) rfl rfl (by repeat (first | exact Split.nil | (apply Split.cons; (repeat (first | with_reducible exact Take.here | apply Take.there)))))) ?_
            rintro v L1 ⟨rfl, rfl⟩
            refine swl_app ?_
            refine swl_sub _ (.cons (t := 3) rfl (.cons (t := 5) rfl (.cons (t := 6) rfl (.cons (t := 8) rfl (.cons (t := 9) rfl (.cons (t := 14) rfl .nil)))))) ?_
            refine swl_nil ?_
            refine then_n ?_
            refine swp_cut (fun env L => ∃ b15 b16, env = [(5, .pointer (some ⟨b5, 0, none⟩)), (8, .pointer (some ⟨b8, 0, none⟩)), (9, .pointer (some ⟨b9, 0, none⟩)), (14, .pointer (some ⟨o, 0, none⟩)), (15, .pointer (some ⟨b15, 0, none⟩)), (16, .pointer (some ⟨b16, 0, none⟩))] ∧ Ent L [blk b15 45 [.int .i64 rank, .int .i64 (IntKind.i64.wrap (0 - tag))], blk b16 45 [.int .i64 (IntKind.i64.wrap (rank.tdiv 2)), .int .i64 (IntKind.i64.wrap (IntKind.i64.wrap (0 - tag) - 1))], qt q (putAll l (put [((rank, IntKind.i64.wrap (0 - tag)) : Th)] (IntKind.i64.wrap (rank.tdiv 2), IntKind.i64.wrap (IntKind.i64.wrap (0 - tag) - 1)))) (nxt + 2), qt o [] 2, blk b9 4 [.bool false], blk b8 42 [.slice none 0 0], blk b5 42 [.slice A0 l.length cap0], ro μ]) ?_ ?_
            · skip
              refine swp_draw [1, 6] _ [] (by simp only [List.append_nil]; exact Ent.refl _) (by kernel_rfl) ?_
              first | refine d_pu 0 rfl (pu_fieldAddr0 rfl) (by kernel_rfl) (by kernel_rfl) (by kernel_rfl) ?_ | refine d_pu 0 rfl (pu_fieldAddr rfl) (by kernel_rfl) (by kernel_rfl) (by kernel_rfl) ?_
              refine d_rd 1 rfl (rd_load rfl rfl) rfl (by kernel_rfl) (by kernel_rfl) (by kernel_rfl) ?_
              refine d_pu 2 rfl (pu_move rfl) (by kernel_rfl) (by kernel_rfl) (by kernel_rfl) ?_
              refine d_pu 3 rfl (pu_neg rfl) (by kernel_rfl) (by kernel_rfl) (by kernel_rfl) ?_
              refine d_pu 4 rfl (pu_bld (qs := [(0, _), (1, _)]) rfl) (by kernel_rfl) (by kernel_rfl) (by kernel_rfl) ?_
              first | refine d_pu 5 rfl (pu_fieldAddr0 rfl) (by kernel_rfl) (by kernel_rfl) (by kernel_rfl) ?_ | refine d_pu 5 rfl (pu_fieldAddr rfl) (by kernel_rfl) (by kernel_rfl) (by kernel_rfl) ?_
              refine d_rd 6 rfl (rd_load rfl rfl) rfl (by kernel_rfl) (by kernel_rfl) (by kernel_rfl) ?_
              first | refine d_pu 7 rfl (pu_quo_in rfl rfl (by omega) (by omega) (by omega)) (by kernel_rfl) (by kernel_rfl) (by kernel_rfl) ?_ | refine d_pu 7 rfl (pu_quo rfl rfl (by omega)) (by kernel_rfl) (by kernel_rfl) (by kernel_rfl) ?_
              refine d_pu 8 rfl (pu_move rfl) (by kernel_rfl) (by kernel_rfl) (by kernel_rfl) ?_
              refine d_pu 9 rfl (pu_neg rfl) (by kernel_rfl) (by kernel_rfl) (by kernel_rfl) ?_
              first | refine d_pu 10 rfl (pu_sub_in rfl rfl (by omega) (by omega)) (by kernel_rfl) (by kernel_rfl) (by kernel_rfl) ?_ | refine d_pu 10 rfl (pu_sub rfl rfl) (by kernel_rfl) (by kernel_rfl) (by kernel_rfl) ?_
              refine d_pu 11 rfl (pu_bld (qs := [(0, _), (1, _)]) rfl) (by kernel_rfl) (by kernel_rfl) (by kernel_rfl) ?_
              refine d_amb [12, 13] (by kernel_rfl) rfl ⟨?_, ?_⟩
              · refine dA_ef 12 rfl GOn.none ef_alloc ?_
                intro b15
                refine ⟨_, Split.ent (by repeat (first | exact Split.nil | (apply Split.cons; (repeat (first | with_reducible exact Take.here | apply Take.there))))), ?_⟩
                refine d_amb [13] (by kernel_rfl) rfl ?_
                refine dA_ef 13 rfl GOn.none ef_alloc ?_
                intro b16
                refine ⟨_, Split.ent (by repeat (first | exact Split.nil | (apply Split.cons; (repeat (first | with_reducible exact Take.here | apply Take.there))))), ?_⟩
                refine d_ef0t 14 rfl (by kernel_rfl) (ef_storeA rfl rfl rfl rfl) ?_
                refine ⟨_, Split.ent (by repeat (first | exact Split.nil | (apply Split.cons; (repeat (first | with_reducible exact Take.here | apply Take.there))))), ?_⟩
                first | refine d_fin0t 15 rfl (by kernel_rfl) (by kernel_rfl) (ef_storeA rfl rfl rfl rfl) ?_ | refine d_fin0f 15 rfl (by kernel_rfl) (by kernel_rfl) (ef_storeA rfl rfl rfl rfl) ?_
                refine d_sub _ (.cons (t := 5) rfl (.cons (t := 8) rfl (.cons (t := 9) rfl (.cons (t := 14) rfl (.cons (t := 15) rfl (.cons (t := 16) rfl .nil)))))) ?_
                first | refine d_nilt (by kernel_rfl) ?_ | refine d_nilf (by kernel_rfl) ?_
                exact then_n ⟨b15, b16, rfl, Split.ent' (by repeat (first | exact Split.nil | (apply Split.cons; (repeat (first | with_reducible exact Take.here | apply Take.there)))))⟩
              · refine dA_ef 13 rfl GOn.none ef_alloc ?_
                intro b16
                refine ⟨_, Split.ent (by repeat (first | exact Split.nil | (apply Split.cons; (repeat (first | with_reducible exact Take.here | apply Take.there))))), ?_⟩
                refine d_amb [12] (by kernel_rfl) rfl ?_
                refine dA_ef 12 rfl GOn.none ef_alloc ?_
                intro b15
                refine ⟨_, Split.ent (by repeat (first | exact Split.nil | (apply Split.cons; (repeat (first | with_reducible exact Take.here | apply Take.there))))), ?_⟩
                refine d_ef0t 14 rfl (by kernel_rfl) (ef_storeA rfl rfl rfl rfl) ?_
                refine ⟨_, Split.ent (by repeat (first | exact Split.nil | (apply Split.cons; (repeat (first | with_reducible exact Take.here | apply Take.there))))), ?_⟩
                first | refine d_fin0t 15 rfl (by kernel_rfl) (by kernel_rfl) (ef_storeA rfl rfl rfl rfl) ?_ | refine d_fin0f 15 rfl (by kernel_rfl) (by kernel_rfl) (ef_storeA rfl rfl rfl rfl) ?_
                refine d_sub _ (.cons (t := 5) rfl (.cons (t := 8) rfl (.cons (t := 9) rfl (.cons (t := 14) rfl (.cons (t := 15) rfl (.cons (t := 16) rfl .nil)))))) ?_
                first | refine d_nilt (by kernel_rfl) ?_ | refine d_nilf (by kernel_rfl) ?_
                exact then_n ⟨b15, b16, rfl, Split.ent' (by repeat (first | exact Split.nil | (apply Split.cons; (repeat (first | with_reducible exact Take.here | apply Take.there)))))⟩
            rintro env L ⟨b15, b16, rfl, hE⟩
            refine swp_ent hE ?_
            refine swp_cut (fun env L => ∃ b15 b16 f s, put [((rank, IntKind.i64.wrap (0 - tag)) : Th)] (IntKind.i64.wrap (rank.tdiv 2), IntKind.i64.wrap (IntKind.i64.wrap (0 - tag) - 1)) = [f, s] ∧ env = [(5, .pointer (some ⟨b5, 0, none⟩)), (8, .pointer (some ⟨b8, 0, none⟩)), (9, .pointer (some ⟨b9, 0, none⟩)), (14, .pointer (some ⟨o, 0, none⟩)), (15, .pointer (some ⟨b15, 0, none⟩)), (16, .pointer (some ⟨b16, 0, none⟩))] ∧ Ent L [blk b15 45 [.int .i64 f.1, .int .i64 f.2], blk b16 45 [.int .i64 s.1, .int .i64 s.2], qt q (putAll l (put [((rank, IntKind.i64.wrap (0 - tag)) : Th)] (IntKind.i64.wrap (rank.tdiv 2), IntKind.i64.wrap (IntKind.i64.wrap (0 - tag) - 1)))) (nxt + 2), qt o [] 2, blk b9 4 [.bool false], blk b8 42 [.slice none 0 0], blk b5 42 [.slice A0 l.length cap0], ro μ]) ?_ ?_
            · refine swp_seq ?_
              refine swp_region ?_
              first | refine s_pu (pu_fieldAddr0 rfl) ?_ | refine s_pu (pu_fieldAddr rfl) ?_
              refine s_rd (rd_load rfl rfl) ?_
              first | refine s_pu (pu_fieldAddr0 rfl) ?_ | refine s_pu (pu_fieldAddr rfl) ?_
              refine s_rd (rd_load rfl rfl) ?_
              refine s_pu (pu_lss rfl rfl) ?_
              refine swl_sub _ (.cons (t := 5) rfl (.cons (t := 8) rfl (.cons (t := 9) rfl (.cons (t := 14) rfl (.cons (t := 15) rfl (.cons (t := 16) rfl (.cons (t := 151) rfl .nil))))))) ?_
              refine swl_nil ?_
              refine then_n ?_
              refine swp_cond (b := _) rfl (fun h151 => ?_) (fun h151 => ?_)
              · refine swp_region ?_
                first | refine s_rd (rd_loadW rfl rfl) ?_ | refine s_rd (rd_loadX rfl rfl rfl) ?_
                first | refine s_rd (rd_loadW rfl rfl) ?_ | refine s_rd (rd_loadX rfl rfl rfl) ?_
                refine s_ef0 (ef_storeA rfl rfl rfl rfl) ?_
                refine s_ef0 (ef_storeA rfl rfl rfl rfl) ?_
                refine swl_sub _ (.cons (t := 5) rfl (.cons (t := 8) rfl (.cons (t := 9) rfl (.cons (t := 14) rfl (.cons (t := 15) rfl (.cons (t := 16) rfl .nil)))))) ?_
                refine swl_nil ?_
                simp only [decide_eq_true_eq] at h151
                exact then_n ⟨b15, b16, (IntKind.i64.wrap (rank.tdiv 2), IntKind.i64.wrap (IntKind.i64.wrap (0 - tag) - 1)), (rank, IntKind.i64.wrap (0 - tag)), by rw [put_two, if_pos h151], rfl, Split.ent' (by repeat (first | exact Split.nil | (apply Split.cons; (repeat (first | with_reducible exact Take.here | apply Take.there)))))⟩
              · skip
                refine swp_sub _ (.cons (t := 5) rfl (.cons (t := 8) rfl (.cons (t := 9) rfl (.cons (t := 14) rfl (.cons (t := 15) rfl (.cons (t := 16) rfl .nil)))))) ?_
                refine swp_skip ?_
                simp only [decide_eq_false_iff_not] at h151
                exact then_n ⟨b15, b16, (rank, IntKind.i64.wrap (0 - tag)), (IntKind.i64.wrap (rank.tdiv 2), IntKind.i64.wrap (IntKind.i64.wrap (0 - tag) - 1)), by rw [put_two, if_neg h151], rfl, Split.ent' (by repeat (first | exact Split.nil | (apply Split.cons; (repeat (first | with_reducible exact Take.here | apply Take.there)))))⟩
            rintro env L ⟨b15, b16, f, s, hfs, rfl, hE⟩
            refine swp_ent hE ?_
            rw [hfs, show putAll l [f, s] = put (put l f) s from rfl]
            refine swp_seq ?_
            refine swp_draw [0, 1, 3] _ [blk b8 42 [.slice none 0 0], blk b9 4 [.bool false], ro μ, qt o [] 2] (Ent.perm ((Split.perm (by repeat (first | exact Split.nil | (apply Split.cons; (repeat (first | with_reducible exact Take.here | apply Take.there)))))).trans List.perm_append_comm)) (by kernel_rfl) ?_
            refine d_rd 0 rfl (rd_load rfl rfl) rfl (by kernel_rfl) (by kernel_rfl) (by kernel_rfl) ?_
            first | refine d_rd 1 rfl (rd_loadW rfl rfl) rfl (by kernel_rfl) (by kernel_rfl) (by kernel_rfl) ?_ | refine d_rd 1 rfl (rd_loadX rfl rfl rfl) rfl (by kernel_rfl) (by kernel_rfl) (by kernel_rfl) ?_
            first | refine d_rd 3 rfl (rd_loadW rfl rfl) rfl (by kernel_rfl) (by kernel_rfl) (by kernel_rfl) ?_ | refine d_rd 3 rfl (rd_loadX rfl rfl rfl) rfl (by kernel_rfl) (by kernel_rfl) (by kernel_rfl) ?_
            refine d_pu 5 rfl (pu_move rfl) (by kernel_rfl) (by kernel_rfl) (by kernel_rfl) ?_
            refine d_eft 2 rfl (by kernel_rfl) (ef_fn (put_spec μ _ l f hrow (by omega)) rfl rfl (by repeat (first | exact Split.nil | (apply Split.cons; (repeat (first | with_reducible exact Take.here | apply Take.there)))))) ?_
            rintro v L1 ⟨μ2, hle2, hrow2, rfl⟩
            refine ⟨_, ent_app (Split.ent (by repeat (first | exact Split.nil | (apply Split.cons; (repeat (first | with_reducible exact Take.here | apply Take.there)))))), ?_⟩
            first | refine d_fint 4 rfl (by kernel_rfl) (by kernel_rfl) (ef_fn (put_spec μ2 _ _ s hrow2 (by rw [put_len]; omega)) rfl rfl (by repeat (first | exact Split.nil | (apply Split.cons; (repeat (first | with_reducible exact Take.here | apply Take.there)))))) ?_ | refine d_finf 4 rfl (by kernel_rfl) (by kernel_rfl) (ef_fn (put_spec μ2 _ _ s hrow2 (by rw [put_len]; omega)) rfl rfl (by repeat (first | exact Split.nil | (apply Split.cons; (repeat (first | with_reducible exact Take.here | apply Take.there)))))) ?_
            rintro v L1 ⟨μ3, hle3, hrow3, rfl⟩
            refine swd_app ?_
            obtain ⟨A3, cap3, rfl⟩ := hrow3.form
            first | refine d_fint 6 rfl (by kernel_rfl) (by kernel_rfl) (ef_fn (len_t o [] 2) rfl rfl (by repeat (first | exact Split.nil | (apply Split.cons; (repeat (first | with_reducible exact Take.here | apply Take.there)))))) ?_ | refine d_finf 6 rfl (by kernel_rfl) (by kernel_rfl) (ef_fn (len_t o [] 2) rfl rfl (by repeat (first | exact Split.nil | (apply Split.cons; (repeat (first | with_reducible exact Take.here | apply Take.there)))))) ?_
            rintro v L1 ⟨rfl, rfl⟩
            refine swd_app ?_
            refine d_pu 7 rfl (pu_eql rfl rfl) (by kernel_rfl) (by kernel_rfl) (by kernel_rfl) ?_
            first | refine d_fin0t 8 rfl (by kernel_rfl) (by kernel_rfl) (ef_store rfl rfl rfl) ?_ | refine d_fin0f 8 rfl (by kernel_rfl) (by kernel_rfl) (ef_store rfl rfl rfl) ?_
            first | refine d_fin0t 9 rfl (by kernel_rfl) (by kernel_rfl) (ef_store rfl rfl rfl) ?_ | refine d_fin0f 9 rfl (by kernel_rfl) (by kernel_rfl) (ef_store rfl rfl rfl) ?_
            first | refine d_nilt (by kernel_rfl) ?_ | refine d_nilf (by kernel_rfl) ?_
            refine then_n ?_
            refine swp_ret ?_
            refine block_r ?_
            refine then_r ?_
            exact done_ret [qt q (put (put l f) s) (nxt + 2), ro μ3] (.cell rfl (ld_one rfl) (.cell rfl (ld_one rfl) .nil)) ⟨μ3, _, _, _, rfl, hle2.trans hle3, hrow3, ⟨by rw [put_len, put_len]; omega, by simp [stepLen, of_decide_eq_true h111, put_len]⟩, by omega, rfl⟩ (by repeat (first | exact Split.nil | (apply Split.cons; (repeat (first | with_reducible exact Take.here | apply Take.there)))))
          · refine swp_skip ?_
            refine block_n ?_
            refine then_n ?_
            refine swp_seq ?_
            refine swp_region ?_
            refine s_ef (ef_alloc) ?_
            intro b17
            refine s_ef0 (ef_store rfl rfl rfl) ?_
            refine swl_sub _ (.cons (t := 4) rfl (.cons (t := 5) rfl (.cons (t := 8) rfl (.cons (t := 9) rfl (.cons (t := 17) rfl .nil))))) ?_
            refine swl_nil ?_
            refine then_n ?_
            refine swp_seq ?_
            refine swp_seq ?_
            refine swp_region ?_
            refine s_rd (rd_load rfl rfl) ?_
            refine s_ef (ef_fn (all_a (some ⟨q, 0, none⟩)) rfl rfl (by repeat (first | exact Split.nil | (apply Split.cons; (repeat (first | with_reducible exact Take.here | apply Take.there)))))) ?_
            rintro v L1 ⟨ab, rfl, rfl⟩
            refine swl_app ?_
            refine swl_sub _ (.cons (t := 4) rfl (.cons (t := 5) rfl (.cons (t := 8) rfl (.cons (t := 9) rfl (.cons (t := 17) rfl (.cons (t := 163) rfl .nil)))))) ?_
            refine swl_nil ?_
            refine then_n ?_
            refine swp_block ?_
            refine swp_range (all_iter_t ab q nxt l (by omega)) (B := [blk b17 3 [.int .i64 0], blk b9 4 [.bool false], blk b8 42 [.slice none 0 0], blk b5 42 [.slice A0 l.length cap0], blk b4 28 [.pointer (some ⟨q, 0, none⟩)], ro μ]) (fun pre => star [blk ab 28 [.pointer (some ⟨q, 0, none⟩)], qt q l nxt, blk b17 3 [.int .i64 (pre.length : Nat)], blk b9 4 [.bool false], blk b8 42 [.slice none 0 0], blk b5 42 [.slice A0 l.length cap0], blk b4 28 [.pointer (some ⟨q, 0, none⟩)], ro μ]) (fun _ => False) (fun _ _ => False) rfl rfl (fun _ => rfl) (Split.ent' (by repeat (first | exact Split.nil | (apply Split.cons; (repeat (first | with_reducible exact Take.here | apply Take.there)))))) star_close1 ?_ ?_ ?_ ?_
            · rintro ln pre x ⟨post, hpost⟩
              refine swp_ent (star_ent (L := [])) ?_
              refine swp_app ?_
              have hnl : pre.length < l.length := by rw [hpost]; simp
              have hxn : l[pre.length]? = some x := by rw [hpost]; simp
              obtain ⟨gl, off, cap, hv, c1, c2, hlr⟩ := hrow.pos (by omega)
              simp only [Value.slice.injEq, true_and] at hv
              obtain ⟨rfl, rfl⟩ := hv
              have hrk := hlr.elem tcs_len hxn
              refine swp_region ?_
              refine s_ef (ef_alloc) ?_
              intro b18
              refine s_ef0 (ef_storeA rfl rfl rfl rfl) ?_
              refine swl_sub _ (.cons (t := 4) rfl (.cons (t := 5) rfl (.cons (t := 8) rfl (.cons (t := 9) rfl (.cons (t := 17) rfl (.cons (t := 18) rfl .nil)))))) ?_
              refine swl_nil ?_
              refine then_n ?_
              refine swp_block ?_
              refine swp_seq ?_
              refine swp_seq ?_
              cases pre with
              | nil =>
                refine swp_draw [0, 3, 4, 9, 10, 15, 17, 18, 20] _ [qt q l nxt, blk ab 28 [.pointer (some ⟨q, 0, none⟩)], blk b8 42 [.slice none 0 0], blk b9 4 [.bool false]] (Ent.perm ((Split.perm (by repeat (first | exact Split.nil | (apply Split.cons; (repeat (first | with_reducible exact Take.here | apply Take.there)))))).trans List.perm_append_comm)) (by kernel_rfl) ?_
                refine d_rd 0 rfl (rd_load rfl rfl) rfl (by kernel_rfl) (by kernel_rfl) (by kernel_rfl) ?_
                refine d_pu 1 rfl (pu_eql rfl rfl) (by kernel_rfl) (by kernel_rfl) (by kernel_rfl) ?_
                refine d_pu 2 rfl (pu_move rfl) (by kernel_rfl) (by kernel_rfl) (by kernel_rfl) ?_
                refine d_rd_on 3 rfl rfl rfl (rd_load rfl rfl) rfl (by kernel_rfl) (by kernel_rfl) (by kernel_rfl) ?_
                refine d_rd_on 4 rfl rfl rfl (rd_load rfl rfl) rfl (by kernel_rfl) (by kernel_rfl) (by kernel_rfl) ?_
                refine d_amb [5] (by kernel_rfl) rfl ?_
                refine dA_ef 5 rfl (GOn.some rfl rfl) (ef_fn (given_spec μ q nxt _ l (-1) hrow (by omega)) rfl rfl (by repeat (first | exact Split.nil | (apply Split.cons; (repeat (first | with_reducible exact Take.here | apply Take.there)))))) ?_
                rintro v L1 ⟨rfl, rfl⟩
                refine ⟨_, ent_app (Split.ent (by repeat (first | exact Split.nil | (apply Split.cons; (repeat (first | with_reducible exact Take.here | apply Take.there)))))), ?_⟩
                refine d_pu_on 6 rfl rfl rfl (pu_not rfl) (by kernel_rfl) (by kernel_rfl) (by kernel_rfl) ?_
                first | refine d_pu 7 rfl (pu_pick_t rfl rfl) (by kernel_rfl) (by kernel_rfl) (by kernel_rfl) ?_ | refine d_pu 7 rfl (pu_pick_f rfl rfl) (by kernel_rfl) (by kernel_rfl) (by kernel_rfl) ?_
                refine d_pu 8 rfl (pu_move rfl) (by kernel_rfl) (by kernel_rfl) (by kernel_rfl) ?_
                refine d_rd_on 9 rfl rfl rfl (rd_load rfl rfl) rfl (by kernel_rfl) (by kernel_rfl) (by kernel_rfl) ?_
                refine d_rd_on 10 rfl rfl rfl (rd_load rfl rfl) rfl (by kernel_rfl) (by kernel_rfl) (by kernel_rfl) ?_
                refine d_pu_on 11 rfl rfl rfl (pu_len rfl) (by kernel_rfl) (by kernel_rfl) (by kernel_rfl) ?_
                refine d_pu_on 12 rfl rfl rfl (Pu.as (.bool false) (pu_geq rfl rfl) (congrArg Value.bool (decide_eq_false (by have := List.length_nil (α := Th); omega)))) (by kernel_rfl) (by kernel_rfl) (by kernel_rfl) ?_
                first | refine d_pu 13 rfl (pu_pick_t rfl rfl) (by kernel_rfl) (by kernel_rfl) (by kernel_rfl) ?_ | refine d_pu 13 rfl (pu_pick_f rfl rfl) (by kernel_rfl) (by kernel_rfl) (by kernel_rfl) ?_
                refine d_pu 14 rfl (pu_move rfl) (by kernel_rfl) (by kernel_rfl) (by kernel_rfl) ?_
                first | refine d_rd_on 15 rfl rfl rfl (rd_loadW rfl rfl) rfl (by kernel_rfl) (by kernel_rfl) (by kernel_rfl) ?_ | refine d_rd_on 15 rfl rfl rfl (rd_loadX rfl rfl rfl) rfl (by kernel_rfl) (by kernel_rfl) (by kernel_rfl) ?_
                refine d_rd_on 17 rfl rfl rfl (rd_load rfl rfl) rfl (by kernel_rfl) (by kernel_rfl) (by kernel_rfl) ?_
                refine d_rd_on 18 rfl rfl rfl (rd_load rfl rfl) rfl (by kernel_rfl) (by kernel_rfl) (by kernel_rfl) ?_
                refine d_pu_on 19 rfl rfl rfl (pu_indexAddr (off + 0 * 2) rfl rfl (by omega) (by simp; omega) (by simp)) (by kernel_rfl) (by kernel_rfl) (by kernel_rfl) ?_
                refine d_rd_on 20 rfl rfl rfl (rd_roA (vs := [.int .i64 x.1, .int .i64 x.2]) rfl (by rfl) hrk) rfl (by kernel_rfl) (by kernel_rfl) (by kernel_rfl) ?_
                refine d_amb [16] (by kernel_rfl) rfl ?_
                refine dA_ef 16 rfl (GOn.some rfl rfl) (ef_fn (mine_spec x) rfl rfl (by repeat (first | exact Split.nil | (apply Split.cons; (repeat (first | with_reducible exact Take.here | apply Take.there)))))) ?_
                rintro v L1 ⟨rfl, rfl⟩
                refine ⟨_, ent_app (Split.ent (by repeat (first | exact Split.nil | (apply Split.cons; (repeat (first | with_reducible exact Take.here | apply Take.there)))))), ?_⟩
                refine d_pu_on 21 rfl rfl rfl (pu_st2_ne rfl rfl) (by kernel_rfl) (by kernel_rfl) (by kernel_rfl) ?_
                first | refine d_pu 22 rfl (pu_pick_t rfl rfl) (by kernel_rfl) (by kernel_rfl) (by kernel_rfl) ?_ | refine d_pu 22 rfl (pu_pick_f rfl rfl) (by kernel_rfl) (by kernel_rfl) (by kernel_rfl) ?_
                refine d_sub _ (.cons (t := 5) rfl (.cons (t := 8) rfl (.cons (t := 9) rfl (.cons (t := 17) rfl (.cons (t := 187) rfl .nil))))) ?_
                first | refine d_nilt (by kernel_rfl) ?_ | refine d_nilf (by kernel_rfl) ?_
                refine then_n ?_
                refine swp_cond (b := _) rfl (fun h => absurd h (by simp)) (fun h => ?_)
                refine swp_skip ?_
                refine then_n ?_
                refine swp_region ?_
                refine s_rd (rd_load rfl rfl) ?_
                refine s_pu (pu_add_as ((0 + 1 : Nat) : Int) rfl rfl (by have := List.length_nil (α := Th); omega) (by have := List.length_nil (α := Th); omega) (by have := List.length_nil (α := Th); omega)) ?_
                refine s_ef0 (ef_store rfl rfl rfl) ?_
                refine swl_sub _ .nil ?_
                refine swl_nil ?_
                refine block_n ?_
                refine rnd_n ?_
                exact (Split.ent' (K := [blk ab 28 [.pointer (some ⟨q, 0, none⟩)], qt q l nxt, blk b17 3 [.int .i64 ((0 + 1 : Nat) : Int)], blk b9 4 [.bool false], blk b8 42 [.slice none 0 0], blk b5 42 [.slice (some ⟨gl, off, none⟩) l.length cap0], blk b4 28 [.pointer (some ⟨q, 0, none⟩)], ro μ]) (by repeat (first | exact Split.nil | (apply Split.cons; (repeat (first | with_reducible exact Take.here | apply Take.there)))))).trans star_close1
              | cons y pre =>
                simp only [List.length_cons] at hnl hrk
                refine swp_draw [0, 3, 4, 9, 10, 15, 17, 18, 20] _ [qt q l nxt, blk ab 28 [.pointer (some ⟨q, 0, none⟩)], blk b8 42 [.slice none 0 0], blk b9 4 [.bool false]] (Ent.perm ((Split.perm (by repeat (first | exact Split.nil | (apply Split.cons; (repeat (first | with_reducible exact Take.here | apply Take.there)))))).trans List.perm_append_comm)) (by kernel_rfl) ?_
                refine d_rd 0 rfl (rd_load rfl rfl) rfl (by kernel_rfl) (by kernel_rfl) (by kernel_rfl) ?_
                refine d_pu 1 rfl (Pu.as (.bool false) (pu_eql rfl rfl) (by simp; omega)) (by kernel_rfl) (by kernel_rfl) (by kernel_rfl) ?_
                refine d_pu 2 rfl (pu_move rfl) (by kernel_rfl) (by kernel_rfl) (by kernel_rfl) ?_
                refine d_off 3 rfl rfl rfl rfl (by kernel_rfl) (by kernel_rfl) (by kernel_rfl) ?_
                refine d_off 4 rfl rfl rfl rfl (by kernel_rfl) (by kernel_rfl) (by kernel_rfl) ?_
                refine d_off 5 rfl rfl rfl rfl (by kernel_rfl) (by kernel_rfl) (by kernel_rfl) ?_
                refine d_off 6 rfl rfl rfl rfl (by kernel_rfl) (by kernel_rfl) (by kernel_rfl) ?_
                first | refine d_pu 7 rfl (pu_pick_t rfl rfl) (by kernel_rfl) (by kernel_rfl) (by kernel_rfl) ?_ | refine d_pu 7 rfl (pu_pick_f rfl rfl) (by kernel_rfl) (by kernel_rfl) (by kernel_rfl) ?_
                refine d_pu 8 rfl (pu_move rfl) (by kernel_rfl) (by kernel_rfl) (by kernel_rfl) ?_
                refine d_rd_on 9 rfl rfl rfl (rd_load rfl rfl) rfl (by kernel_rfl) (by kernel_rfl) (by kernel_rfl) ?_
                refine d_rd_on 10 rfl rfl rfl (rd_load rfl rfl) rfl (by kernel_rfl) (by kernel_rfl) (by kernel_rfl) ?_
                refine d_pu_on 11 rfl rfl rfl (pu_len rfl) (by kernel_rfl) (by kernel_rfl) (by kernel_rfl) ?_
                refine d_pu_on 12 rfl rfl rfl (Pu.as (.bool false) (pu_geq rfl rfl) (by simp; omega)) (by kernel_rfl) (by kernel_rfl) (by kernel_rfl) ?_
                first | refine d_pu 13 rfl (pu_pick_t rfl rfl) (by kernel_rfl) (by kernel_rfl) (by kernel_rfl) ?_ | refine d_pu 13 rfl (pu_pick_f rfl rfl) (by kernel_rfl) (by kernel_rfl) (by kernel_rfl) ?_
                refine d_pu 14 rfl (pu_move rfl) (by kernel_rfl) (by kernel_rfl) (by kernel_rfl) ?_
                first | refine d_rd_on 15 rfl rfl rfl (rd_loadW rfl rfl) rfl (by kernel_rfl) (by kernel_rfl) (by kernel_rfl) ?_ | refine d_rd_on 15 rfl rfl rfl (rd_loadX rfl rfl rfl) rfl (by kernel_rfl) (by kernel_rfl) (by kernel_rfl) ?_
                refine d_rd_on 17 rfl rfl rfl (rd_load rfl rfl) rfl (by kernel_rfl) (by kernel_rfl) (by kernel_rfl) ?_
                refine d_rd_on 18 rfl rfl rfl (rd_load rfl rfl) rfl (by kernel_rfl) (by kernel_rfl) (by kernel_rfl) ?_
                refine d_pu_on 19 rfl rfl rfl (pu_indexAddr (off + (pre.length + 1) * 2) rfl rfl (by omega) (by simp; omega) (by simp)) (by kernel_rfl) (by kernel_rfl) (by kernel_rfl) ?_
                refine d_rd_on 20 rfl rfl rfl (rd_roA (vs := [.int .i64 x.1, .int .i64 x.2]) rfl (by rfl) hrk) rfl (by kernel_rfl) (by kernel_rfl) (by kernel_rfl) ?_
                refine d_amb [16] (by kernel_rfl) rfl ?_
                refine dA_ef 16 rfl (GOn.some rfl rfl) (ef_fn (mine_spec x) rfl rfl (by repeat (first | exact Split.nil | (apply Split.cons; (repeat (first | with_reducible exact Take.here | apply Take.there)))))) ?_
                rintro v L1 ⟨rfl, rfl⟩
                refine ⟨_, ent_app (Split.ent (by repeat (first | exact Split.nil | (apply Split.cons; (repeat (first | with_reducible exact Take.here | apply Take.there)))))), ?_⟩
                refine d_pu_on 21 rfl rfl rfl (pu_st2_ne rfl rfl) (by kernel_rfl) (by kernel_rfl) (by kernel_rfl) ?_
                first | refine d_pu 22 rfl (pu_pick_t rfl rfl) (by kernel_rfl) (by kernel_rfl) (by kernel_rfl) ?_ | refine d_pu 22 rfl (pu_pick_f rfl rfl) (by kernel_rfl) (by kernel_rfl) (by kernel_rfl) ?_
                refine d_sub _ (.cons (t := 5) rfl (.cons (t := 8) rfl (.cons (t := 9) rfl (.cons (t := 17) rfl (.cons (t := 187) rfl .nil))))) ?_
                first | refine d_nilt (by kernel_rfl) ?_ | refine d_nilf (by kernel_rfl) ?_
                refine then_n ?_
                refine swp_cond (b := _) rfl (fun h => absurd h (by simp)) (fun h => ?_)
                refine swp_skip ?_
                refine then_n ?_
                refine swp_region ?_
                refine s_rd (rd_load rfl rfl) ?_
                refine s_pu (pu_add_as ((pre.length + 1 + 1 : Nat) : Int) rfl rfl (by have : (y :: pre).length = pre.length + 1 := rfl; omega) (by have : (y :: pre).length = pre.length + 1 := rfl; omega) (by have : (y :: pre).length = pre.length + 1 := rfl; omega)) ?_
                refine s_ef0 (ef_store rfl rfl rfl) ?_
                refine swl_sub _ .nil ?_
                refine swl_nil ?_
                refine block_n ?_
                refine rnd_n ?_
                exact (Split.ent' (K := [blk ab 28 [.pointer (some ⟨q, 0, none⟩)], qt q l nxt, blk b17 3 [.int .i64 ((pre.length + 1 + 1 : Nat) : Int)], blk b9 4 [.bool false], blk b8 42 [.slice none 0 0], blk b5 42 [.slice (some ⟨gl, off, none⟩) l.length cap0], blk b4 28 [.pointer (some ⟨q, 0, none⟩)], ro μ]) (by repeat (first | exact Split.nil | (apply Split.cons; (repeat (first | with_reducible exact Take.here | apply Take.there)))))).trans (by rw [show (y :: pre ++ [x]).length = pre.length + 1 + 1 by simp]; exact star_close1)
            · rintro ys rfl
              refine block_n ?_
              refine then_n ?_
              refine swp_ent (star_ent (L := [])) ?_
              refine swp_app ?_
              refine swp_seq ?_
              refine swp_draw [0, 1, 2] _ [blk b8 42 [.slice none 0 0], blk b9 4 [.bool false]] (Ent.perm ((Split.perm (by repeat (first | exact Split.nil | (apply Split.cons; (repeat (first | with_reducible exact Take.here | apply Take.there)))))).trans List.perm_append_comm)) (by kernel_rfl) ?_
              refine d_rd 0 rfl (rd_load rfl rfl) rfl (by kernel_rfl) (by kernel_rfl) (by kernel_rfl) ?_
              refine d_rd 1 rfl (rd_load rfl rfl) rfl (by kernel_rfl) (by kernel_rfl) (by kernel_rfl) ?_
              refine d_rd 2 rfl (rd_load rfl rfl) rfl (by kernel_rfl) (by kernel_rfl) (by kernel_rfl) ?_
              refine d_pu 3 rfl (pu_len rfl) (by kernel_rfl) (by kernel_rfl) (by kernel_rfl) ?_
              refine d_pu 4 rfl (pu_eql rfl rfl) (by kernel_rfl) (by kernel_rfl) (by kernel_rfl) ?_
              refine d_ef0t 5 rfl (by kernel_rfl) (ef_store rfl rfl rfl) ?_
              refine ⟨_, Split.ent (by repeat (first | exact Split.nil | (apply Split.cons; (repeat (first | with_reducible exact Take.here | apply Take.there))))), ?_⟩
              first | refine d_fin0t 6 rfl (by kernel_rfl) (by kernel_rfl) (ef_store rfl rfl rfl) ?_ | refine d_fin0f 6 rfl (by kernel_rfl) (by kernel_rfl) (ef_store rfl rfl rfl) ?_
              first | refine d_nilt (by kernel_rfl) ?_ | refine d_nilf (by kernel_rfl) ?_
              refine then_n ?_
              refine swp_ret ?_
              exact done_ret [qt q ys nxt, ro μ] (.cell rfl (ld_one rfl) (.cell rfl (ld_one rfl) .nil)) ⟨μ, ys, nxt, _, by simp [resV], Le.refl _, hrow, ⟨by omega, by simp [stepLen, of_decide_eq_false h22, of_decide_eq_false h36, of_decide_eq_false h111]⟩, by omega, rfl⟩ (by repeat (first | exact Split.nil | (apply Split.cons; (repeat (first | with_reducible exact Take.here | apply Take.there)))))
            · exact swp_fact (p := False) (fun m h => by obtain ⟨_, _, h, _⟩ := h; exact h) False.elim
            · exact fun i => swp_fact (p := False) (fun m h => by obtain ⟨_, _, h, _⟩ := h; exact h) False.elim
end SX
