/- A part of the proof: walks of the program's functions, and the rules by which they go. -/
import Derived.Test.YtfkonmhlgfommaaBb48fa696
import Derived.Test.YtfkonmhlgfommaaB364f660b
namespace SX
open Go Go.Proofs
theorem checkE_good {t : List En} (h : GoodT t) : checkE t = 0 := by
  refine checkE_ok fun i hi => ?_
  obtain ⟨e, he⟩ : ∃ e, t[i]? = some e := ⟨_, List.getElem?_eq_getElem hi⟩
  have hm := List.mem_of_getElem? he
  have h1 := h.short e hm
  have h2 := h.full e hm
  unfold wrongE
  rw [he]
  simp only []
  rw [if_neg (by omega), if_neg h2]
  by_cases hi0 : i = 0
  · rw [if_pos hi0]
  · rw [if_neg hi0]
    cases hd : t[i - 1]? with
    | none => rfl
    | some d =>
      simp only []
      have hlt := rises_get h.rises (by omega : i - 1 < i) hd he
      rw [if_neg (by rw [Bool.not_eq_true, strEq_false]; exact (strLt_ne hlt).symm), if_neg (by rw [strLt_asym hlt]; decide)]
set_option maxHeartbeats 16000000 in
theorem mergepaths_spec (μ : PH) (vx vy vz : Value) (x y z : List En) (hx : Row μ vx 2 x.length (ens x)) (hy : Row μ vy 2 y.length (ens y)) (hz : Row μ vz 2 z.length (ens z)) (hu : U32s x ∧ U32s y ∧ U32s z) :
    Spec Try.prog 7 [vx, vy, vz] [ro μ] (fun r L => r = .bool true ∧ ∃ μ' R, Le μ μ' ∧ L = ro μ' :: R) := by
  have gx := fun μ h => good_spec μ vx x h
  have gy := fun μ h => good_spec μ vy y h
  have gz := fun μ h => good_spec μ vz z h
  obtain ⟨ub, uo, ut⟩ : U32s (goodE x) ∧ U32s (goodE y) ∧ U32s (goodE z) := ⟨u32s_good hu.1, u32s_good hu.2.1, u32s_good hu.2.2⟩
  have kb := good_good x
  have ko := good_good y
  have kt := good_good z
  have lb := goodE_len x
  have lo := goodE_len y
  have lt := goodE_len z
  generalize goodE x = b at gx ub kb lb
  generalize goodE y = o at gy uo ko lo
  generalize goodE z = t at gz ut kt lt
  have hol := out_len3 b o t ⟨lb, lo, lt⟩
  have hgood := out_good kb ko kt
  have hsome := fun e => some_look kb ko kt (e := e)
  have hlook := look_out kb.rises ko.rises kt.rises
  have hconf := fun e => conf_rule kb.rises ko.rises kt.rises (e := e)
  have hoff := off_rows kb.rises ko.rises kt.rises
  have h3 := fun μ va vb vc ha hb hc => three_spec μ va vb vc b o t ha hb hc ⟨by omega, by omega, by omega⟩ ⟨ub, uo, ut⟩
  generalize cfR (rowsB b o t) = co at h3 hol hconf hoff
  generalize outR (rowsB b o t) = go at h3 hol hgood hsome hlook hoff
  refine Spec.of 233 Try.func7 rfl rfl rfl ?_
  refine swp_seq ?_
  refine swp_region ?_
  refine s_pu (pu_assign rfl) ?_
  refine swl_sub _ (.cons (t := 0) rfl (.cons (t := 1) rfl (.cons (t := 2) rfl .nil))) ?_
  refine swl_nil ?_
  refine then_n ?_
  refine swp_seq ?_
  refine swp_seq ?_
  refine swp_region ?_
  refine s_ef (ef_fn merges_spec rfl rfl (by repeat (first | exact Split.nil | (apply Split.cons; (repeat (first | with_reducible exact Take.here | apply Take.there)))))) ?_
  rintro v24 L1 ⟨rfl, rfl⟩
  refine swl_app ?_
  refine s_pu (pu_not rfl) ?_
  refine swl_sub _ (.cons (t := 0) rfl (.cons (t := 1) rfl (.cons (t := 2) rfl (.cons (t := 25) rfl .nil)))) ?_
  refine swl_nil ?_
  refine then_n ?_
  refine swp_cond (b := _) rfl (fun h25 => by simp at h25) (fun h25 => ?_)
  refine swp_skip ?_
  refine then_n ?_
  refine swp_seq ?_
  refine swp_region ?_
  refine s_pu (pu_move rfl) ?_
  refine s_ef (ef_fn (gx μ hx) rfl rfl (by repeat (first | exact Split.nil | (apply Split.cons; (repeat (first | with_reducible exact Take.here | apply Take.there)))))) ?_
  rintro v27 L1 ⟨μ1, l1, rb, rfl⟩
  refine swl_app ?_
  refine s_pu (pu_move rfl) ?_
  refine s_ef (ef_fn (gy μ1 (hy.le l1)) rfl rfl (by repeat (first | exact Split.nil | (apply Split.cons; (repeat (first | with_reducible exact Take.here | apply Take.there)))))) ?_
  rintro v29 L1 ⟨μ2, l2, ro_, rfl⟩
  refine swl_app ?_
  refine s_pu (pu_move rfl) ?_
  refine s_ef (ef_fn (gz μ2 (hz.le (l1.trans l2))) rfl rfl (by repeat (first | exact Split.nil | (apply Split.cons; (repeat (first | with_reducible exact Take.here | apply Take.there)))))) ?_
  rintro v31 L1 ⟨μ3, l3, rt, rfl⟩
  refine swl_app ?_
  refine s_pu (pu_assign rfl) ?_
  refine s_pu (pu_assign rfl) ?_
  refine s_pu (pu_assign rfl) ?_
  refine swl_sub _ (.cons (t := 7) rfl (.cons (t := 8) rfl (.cons (t := 9) rfl .nil))) ?_
  replace rb := (rb.le l2).le l3
  replace ro_ := ro_.le l3
  refine swl_nil ?_
  refine then_n ?_
  refine swp_seq ?_
  refine swp_region ?_
  refine s_pu (pu_move rfl) ?_
  refine s_pu (pu_move rfl) ?_
  refine s_pu (pu_move rfl) ?_
  refine s_ef (ef_fn (h3 μ3 _ _ _ rb ro_ rt) rfl rfl (by repeat (first | exact Split.nil | (apply Split.cons; (repeat (first | with_reducible exact Take.here | apply Take.there)))))) ?_
  rintro v36 L1 ⟨v8, v9, μ4, l4, rfl, rfl⟩
  refine swl_app ?_
  refine swl_share_own (v := v8) (μ := μ4) (by repeat (first | exact Split.nil | (apply Split.cons; (repeat (first | with_reducible exact Take.here | apply Take.there))))) fun μ5 l5 r8 => ?_
  refine swl_share_own (v := v9) (μ := μ5) (by repeat (first | exact Split.nil | (apply Split.cons; (repeat (first | with_reducible exact Take.here | apply Take.there))))) fun μ6 l6 r9 => ?_
  replace r8 := r8.le l6
  have l3_6 := (l4.trans l5).trans l6
  replace rb := rb.le l3_6
  replace ro_ := ro_.le l3_6
  replace rt := rt.le l3_6
  have l0_6 := ((l1.trans l2).trans l3).trans l3_6
  obtain ⟨A8, c8, hv8⟩ := r8.sl
  have hc8 : go.length ≤ c8 := by
    obtain ⟨_, A', c', e1, e2, _⟩ := r8
    rw [hv8] at e1; simp only [Value.slice.injEq] at e1; omega
  refine s_pu (pu_move rfl) ?_
  first | refine s_pu (pu_extractL rfl) ?_ | refine s_pu (pu_extract rfl rfl) ?_
  first | refine s_pu (pu_extractL rfl) ?_ | refine s_pu (pu_extract rfl rfl) ?_
  refine s_pu (pu_assign rfl) ?_
  refine s_pu (pu_assign rfl) ?_
  refine swl_sub _ (.cons (t := 7) rfl (.cons (t := 8) rfl (.cons (t := 9) rfl (.cons (t := 10) rfl (.cons (t := 11) rfl .nil))))) ?_
  refine swl_nil ?_
  refine then_n ?_
  refine swp_seq ?_
  refine swp_seq ?_
  refine swp_region ?_
  refine s_pu (pu_move rfl) ?_
  refine s_ef (ef_fn (check8_spec μ6 v8 go r8 (by omega)) rfl rfl (by repeat (first | exact Split.nil | (apply Split.cons; (repeat (first | with_reducible exact Take.here | apply Take.there)))))) ?_
  rintro v40 L1 ⟨rfl, rfl⟩
  refine swl_app ?_
  refine s_pu (pu_neq rfl rfl) ?_
  refine swl_sub _ (.cons (t := 7) rfl (.cons (t := 8) rfl (.cons (t := 9) rfl (.cons (t := 10) rfl (.cons (t := 11) rfl (.cons (t := 41) rfl .nil)))))) ?_
  refine swl_nil ?_
  refine then_n ?_
  refine swp_cond (b := _) rfl (fun h41 => by rw [checkE_good hgood] at h41; simp at h41) (fun h41 => ?_)
  refine swp_skip ?_
  refine then_n ?_
  refine swp_seq ?_
  refine swp_region ?_
  refine s_pu (pu_assign rfl) ?_
  refine swl_sub _ (.cons (t := 7) rfl (.cons (t := 8) rfl (.cons (t := 9) rfl (.cons (t := 10) rfl (.cons (t := 11) rfl (.cons (t := 12) rfl .nil)))))) ?_
  refine swl_nil ?_
  refine then_n ?_
  refine swp_seq ?_
  refine swp_seq ?_
  refine swp_region ?_
  refine s_pu (pu_move rfl) ?_
  refine s_pu (pu_move rfl) ?_
  refine s_pu (pu_len_row r8 rfl) ?_
  refine s_pu (pu_move rfl) ?_
  refine s_pu (pu_len_row r8 rfl) ?_
  refine s_pu (pu_slice3 (A := A8) (l := go.length) (c := c8) go.length go.length (congrArg some hv8) rfl rfl rfl rfl (Nat.le_refl _) hc8) ?_
  have r8f : Row μ6 (.slice A8 go.length go.length) 2 go.length (ens go) := by
    obtain ⟨e0, A', c', e1, e2, e3, e4, e5⟩ := r8
    rw [hv8] at e1; simp only [Value.slice.injEq] at e1
    obtain ⟨e1, _, rfl⟩ := e1
    subst e1
    refine ⟨e0, A8, go.length, rfl, Nat.le_refl _, by omega, fun h => ?_, fun h => ?_⟩
    · have := e4 h; omega
    · obtain ⟨g, off, h1, h2⟩ := e5 h
      exact ⟨g, off, h1, h2⟩
  have hcat : Cat μ6 51 2 (.slice A8 go.length go.length) go.length (ens go) [ro μ6] [] := .inl ⟨rfl, r8f, A8, rfl⟩
  refine s_pu (pu_move rfl) ?_
  refine s_ef (ef_append_cat hcat rb rfl rfl (ens_one b) (by simp only [maxLen]; omega) (by omega)) ?_
  rintro v49 La hcat1
  skip
  refine s_pu (pu_move rfl) ?_
  refine s_ef (ef_append_cat hcat1 ro_ rfl rfl (ens_one o) (by simp only [maxLen]; omega) (by omega)) ?_
  rintro v51 Lb hcat2
  skip
  refine s_pu (pu_move rfl) ?_
  refine s_ef (ef_append_cat hcat2 rt rfl rfl (ens_one t) (by simp only [maxLen]; omega) (by omega)) ?_
  rintro v53 Lc hcat3
  refine swl_cat hcat3 fun μ7 l7 r53 => ?_
  rw [← ens_app, ← ens_app, ← ens_app, show go.length + b.length + o.length + t.length = (go ++ b ++ o ++ t).length by simp only [List.length_append]] at r53
  obtain ⟨al, hal⟩ : ∃ al, al = go ++ b ++ o ++ t := ⟨_, rfl⟩
  have hall : al.length ≤ 1048576 := by rw [hal]; simp only [List.length_append]; omega
  rw [← hal] at r53
  replace hsome : ∀ e, e ∈ al → _ := fun e he => hsome e (hal ▸ he)
  clear hal hcat hcat1 hcat2 hcat3
  replace r8 := r8.le l7
  replace r9 := r9.le l7
  replace rb := rb.le l7
  replace ro_ := ro_.le l7
  replace rt := rt.le l7
  refine s_pu (pu_len_row r53 rfl) ?_
  refine s_pu (pu_move rfl) ?_
  refine swl_sub _ (.cons (t := 7) rfl (.cons (t := 8) rfl (.cons (t := 9) rfl (.cons (t := 10) rfl (.cons (t := 11) rfl (.cons (t := 12) rfl (.cons (t := 53) rfl (.cons (t := 54) rfl (.cons (t := 55) rfl .nil))))))))) ?_
  refine swl_nil ?_
  refine then_n ?_
  refine swp_block ?_
  refine swp_loop (ι := Nat) (fun i env L => Sub env [(7, v27), (8, v29), (9, v31), (10, v8), (11, v9), (12, .int .i64 0), (53, v53), (54, .int .i64 (al.length : Nat)), (55, .int .i64 (i : Nat))] ∧ Ent L [ro μ7] ∧ i ≤ al.length) (fun i => al.length - i) 0 ⟨⟨rfl, rfl, rfl, rfl, rfl, rfl, rfl, rfl, rfl, trivial⟩, Ent.refl _, Nat.zero_le _⟩ ?_
  rintro i env L ⟨hsub, hE, hi⟩
  refine swp_sub _ hsub ?_
  refine swp_ent hE ?_
  clear hsub env hE L
  refine swp_seq ?_
  refine swp_region ?_
  refine s_pu (pu_lss rfl rfl) ?_
  refine swl_sub _ (.cons (t := 7) rfl (.cons (t := 8) rfl (.cons (t := 9) rfl (.cons (t := 10) rfl (.cons (t := 11) rfl (.cons (t := 12) rfl (.cons (t := 53) rfl (.cons (t := 54) rfl (.cons (t := 55) rfl (.cons (t := 56) rfl .nil)))))))))) ?_
  refine swl_nil ?_
  refine then_n ?_
  refine swp_seq ?_
  refine swp_cond (b := _) rfl (fun h56 => ?_) (fun h56 => ?_)
  · skip   -- 56 T
    have h56' : i < al.length := by have := of_decide_eq_true h56; omega
    obtain ⟨e, he⟩ : ∃ e, al[i]? = some e := ⟨_, List.getElem?_eq_getElem h56'⟩
    obtain ⟨g1, o1, c1, hv1, hra, _, _⟩ := tree_at r53 he
    have hne := hsome e (List.mem_of_getElem? he)
    have hg := hlook e.1
    have hrule := one_rule (lookE b e.1) (lookE o e.1) (lookE t e.1)
    rw [← hg] at hrule
    clear hg
    have u1 := ub.lookE e.1
    have u2 := uo.lookE e.1
    have u3 := ut.lookE e.1
    refine swp_skip ?_
    refine then_n ?_
    refine swp_seq ?_
    refine swp_block ?_
    refine swp_seq ?_
    refine swp_region ?_
    refine s_pu (pu_indexAddr (o1 + i * 2) (congrArg some hv1) rfl (by omega) (by omega) (by rw [Int.toNat_natCast])) ?_
    refine s_rd (rd_roA rfl rfl hra) ?_
    refine s_ef (ef_alloc) ?_
    intro b14
    refine s_ef0 (ef_storeA rfl rfl rfl rfl) ?_
    refine swl_sub _ (.cons (t := 7) rfl (.cons (t := 8) rfl (.cons (t := 9) rfl (.cons (t := 10) rfl (.cons (t := 11) rfl (.cons (t := 12) rfl (.cons (t := 14) rfl (.cons (t := 53) rfl (.cons (t := 54) rfl (.cons (t := 55) rfl .nil)))))))))) ?_
    refine swl_nil ?_
    refine then_n ?_
    refine swp_seq ?_
    refine swp_draw [2, 6, 10, 14] _ [] (by simp only [List.append_nil]; exact Ent.refl _) (by kernel_rfl) ?_
    refine d_pu 0 rfl (pu_move rfl) (by kernel_rfl) (by kernel_rfl) (by kernel_rfl) ?_
    first | refine d_pu 1 rfl (pu_fieldAddr0 rfl) (by kernel_rfl) (by kernel_rfl) (by kernel_rfl) ?_ | refine d_pu 1 rfl (pu_fieldAddr rfl) (by kernel_rfl) (by kernel_rfl) (by kernel_rfl) ?_
    refine d_rd 2 rfl (rd_load rfl rfl) rfl (by kernel_rfl) (by kernel_rfl) (by kernel_rfl) ?_
    refine d_pu 4 rfl (pu_move rfl) (by kernel_rfl) (by kernel_rfl) (by kernel_rfl) ?_
    first | refine d_pu 5 rfl (pu_fieldAddr0 rfl) (by kernel_rfl) (by kernel_rfl) (by kernel_rfl) ?_ | refine d_pu 5 rfl (pu_fieldAddr rfl) (by kernel_rfl) (by kernel_rfl) (by kernel_rfl) ?_
    refine d_rd 6 rfl (rd_load rfl rfl) rfl (by kernel_rfl) (by kernel_rfl) (by kernel_rfl) ?_
    refine d_pu 8 rfl (pu_move rfl) (by kernel_rfl) (by kernel_rfl) (by kernel_rfl) ?_
    first | refine d_pu 9 rfl (pu_fieldAddr0 rfl) (by kernel_rfl) (by kernel_rfl) (by kernel_rfl) ?_ | refine d_pu 9 rfl (pu_fieldAddr rfl) (by kernel_rfl) (by kernel_rfl) (by kernel_rfl) ?_
    refine d_rd 10 rfl (rd_load rfl rfl) rfl (by kernel_rfl) (by kernel_rfl) (by kernel_rfl) ?_
    refine d_pu 12 rfl (pu_move rfl) (by kernel_rfl) (by kernel_rfl) (by kernel_rfl) ?_
    first | refine d_pu 13 rfl (pu_fieldAddr0 rfl) (by kernel_rfl) (by kernel_rfl) (by kernel_rfl) ?_ | refine d_pu 13 rfl (pu_fieldAddr rfl) (by kernel_rfl) (by kernel_rfl) (by kernel_rfl) ?_
    refine d_rd 14 rfl (rd_load rfl rfl) rfl (by kernel_rfl) (by kernel_rfl) (by kernel_rfl) ?_
    refine d_eft 3 rfl (by kernel_rfl) (ef_fn (rlook_spec μ7 v27 b e.1 rb) rfl rfl (by repeat (first | exact Split.nil | (apply Split.cons; (repeat (first | with_reducible exact Take.here | apply Take.there)))))) ?_
    rintro v62 L1 ⟨rfl, rfl⟩
    refine ⟨_, ent_appC (Split.ent (by repeat (first | exact Split.nil | (apply Split.cons; (repeat (first | with_reducible exact Take.here | apply Take.there)))))), ?_⟩
    refine d_eft 7 rfl (by kernel_rfl) (ef_fn (rlook_spec μ7 v29 o e.1 ro_) rfl rfl (by repeat (first | exact Split.nil | (apply Split.cons; (repeat (first | with_reducible exact Take.here | apply Take.there)))))) ?_
    rintro v66 L1 ⟨rfl, rfl⟩
    refine ⟨_, ent_appC (Split.ent (by repeat (first | exact Split.nil | (apply Split.cons; (repeat (first | with_reducible exact Take.here | apply Take.there)))))), ?_⟩
    refine d_eft 11 rfl (by kernel_rfl) (ef_fn (rlook_spec μ7 v31 t e.1 rt) rfl rfl (by repeat (first | exact Split.nil | (apply Split.cons; (repeat (first | with_reducible exact Take.here | apply Take.there)))))) ?_
    rintro v70 L1 ⟨rfl, rfl⟩
    refine ⟨_, ent_appC (Split.ent (by repeat (first | exact Split.nil | (apply Split.cons; (repeat (first | with_reducible exact Take.here | apply Take.there)))))), ?_⟩
    first | refine d_fint 15 rfl (by kernel_rfl) (by kernel_rfl) (ef_fn (rlook_spec μ7 v8 go e.1 r8) rfl rfl (by repeat (first | exact Split.nil | (apply Split.cons; (repeat (first | with_reducible exact Take.here | apply Take.there)))))) ?_ | refine d_finf 15 rfl (by kernel_rfl) (by kernel_rfl) (ef_fn (rlook_spec μ7 v8 go e.1 r8) rfl rfl (by repeat (first | exact Split.nil | (apply Split.cons; (repeat (first | with_reducible exact Take.here | apply Take.there)))))) ?_
    rintro v74 L1 ⟨rfl, rfl⟩
    refine swd_app ?_
    refine d_pu 16 rfl (pu_assign rfl) (by kernel_rfl) (by kernel_rfl) (by kernel_rfl) ?_
    refine d_pu 17 rfl (pu_assign rfl) (by kernel_rfl) (by kernel_rfl) (by kernel_rfl) ?_
    refine d_pu 18 rfl (pu_assign rfl) (by kernel_rfl) (by kernel_rfl) (by kernel_rfl) ?_
    refine d_pu 19 rfl (pu_assign rfl) (by kernel_rfl) (by kernel_rfl) (by kernel_rfl) ?_
    refine d_sub _ (.cons (t := 7) rfl (.cons (t := 8) rfl (.cons (t := 9) rfl (.cons (t := 10) rfl (.cons (t := 11) rfl (.cons (t := 12) rfl (.cons (t := 15) rfl (.cons (t := 16) rfl (.cons (t := 17) rfl (.cons (t := 18) rfl (.cons (t := 53) rfl (.cons (t := 54) rfl (.cons (t := 55) rfl .nil))))))))))))) ?_
    first | refine d_nilt (by kernel_rfl) ?_ | refine d_nilf (by kernel_rfl) ?_
    generalize lookE b e.1 = p at *
    generalize lookE o e.1 = q at *
    generalize lookE t e.1 = r at *
    generalize lookE go e.1 = g at *
    refine then_n ?_
    refine swp_cut (fun env L => Sub env [(7, v27), (8, v29), (9, v31), (10, v8), (11, v9), (12, .int .i64 0), (15, .int .u32 p), (16, .int .u32 q), (17, .int .u32 r), (18, .int .u32 g), (53, v53), (54, .int .i64 (al.length : Nat)), (55, .int .i64 (i : Nat))] ∧ Ent L [ro μ7]) ?_ ?_
    · skip
      refine swp_seq ?_
      refine swp_region ?_
      refine s_pu (pu_move rfl) ?_
      refine s_pu (pu_eql rfl rfl) ?_
      refine s_pu (pu_move rfl) ?_
      refine s_split 77 rfl (fun h77 => ?_) (fun h77 => ?_)
      · skip   -- 77 T
        refine s_on rfl rfl ?_
        refine s_pu (pu_move rfl) ?_
        refine s_on rfl rfl ?_
        refine s_pu (pu_eql rfl rfl) ?_
        first | refine s_pu (pu_pick_t rfl rfl) ?_ | refine s_pu (pu_pick_f rfl rfl) ?_
        refine s_pu (pu_move rfl) ?_
        refine s_split 81 rfl (fun h81 => ?_) (fun h81 => ?_)
        · skip   -- 81 T
          refine s_on rfl rfl ?_
          refine s_pu (pu_move rfl) ?_
          refine s_on rfl rfl ?_
          refine s_pu (pu_eql rfl rfl) ?_
          first | refine s_pu (pu_pick_t rfl rfl) ?_ | refine s_pu (pu_pick_f rfl rfl) ?_
          refine swl_sub _ (.cons (t := 7) rfl (.cons (t := 8) rfl (.cons (t := 9) rfl (.cons (t := 10) rfl (.cons (t := 11) rfl (.cons (t := 12) rfl (.cons (t := 15) rfl (.cons (t := 16) rfl (.cons (t := 17) rfl (.cons (t := 18) rfl (.cons (t := 53) rfl (.cons (t := 54) rfl (.cons (t := 55) rfl (.cons (t := 84) rfl .nil)))))))))))))) ?_
          refine swl_nil ?_
          refine then_n ?_
          refine swp_cond (b := _) rfl (fun h84 => by first | (cases h84; done) | (clear gx gy gz hlook hgood h3 r53 r8 r9 rb ro_ rt; grind)) (fun h84 => ?_)
          refine swp_skip ?_
          exact then_n ⟨⟨rfl, rfl, rfl, rfl, rfl, rfl, rfl, rfl, rfl, rfl, rfl, rfl, rfl, trivial⟩, Split.ent' (by repeat (first | exact Split.nil | (apply Split.cons; (repeat (first | with_reducible exact Take.here | apply Take.there)))))⟩
        · skip   -- 81 F
          refine s_off rfl rfl rfl ?_
          refine s_off rfl rfl rfl ?_
          first | refine s_pu (pu_pick_t rfl rfl) ?_ | refine s_pu (pu_pick_f rfl rfl) ?_
          refine swl_sub _ (.cons (t := 7) rfl (.cons (t := 8) rfl (.cons (t := 9) rfl (.cons (t := 10) rfl (.cons (t := 11) rfl (.cons (t := 12) rfl (.cons (t := 15) rfl (.cons (t := 16) rfl (.cons (t := 17) rfl (.cons (t := 18) rfl (.cons (t := 53) rfl (.cons (t := 54) rfl (.cons (t := 55) rfl (.cons (t := 84) rfl .nil)))))))))))))) ?_
          refine swl_nil ?_
          refine then_n ?_
          refine swp_cond (b := _) rfl (fun h84 => by first | (cases h84; done) | (clear gx gy gz hlook hgood h3 r53 r8 r9 rb ro_ rt; grind)) (fun h84 => ?_)
          refine swp_skip ?_
          exact then_n ⟨⟨rfl, rfl, rfl, rfl, rfl, rfl, rfl, rfl, rfl, rfl, rfl, rfl, rfl, trivial⟩, Split.ent' (by repeat (first | exact Split.nil | (apply Split.cons; (repeat (first | with_reducible exact Take.here | apply Take.there)))))⟩
      · skip   -- 77 F
        refine s_off rfl rfl rfl ?_
        refine s_off rfl rfl rfl ?_
        first | refine s_pu (pu_pick_t rfl rfl) ?_ | refine s_pu (pu_pick_f rfl rfl) ?_
        refine s_pu (pu_move rfl) ?_
        refine s_split 81 rfl (fun h81 => ?_) (fun h81 => ?_)
        · skip   -- 81 T
          refine s_on rfl rfl ?_
          refine s_pu (pu_move rfl) ?_
          refine s_on rfl rfl ?_
          refine s_pu (pu_eql rfl rfl) ?_
          first | refine s_pu (pu_pick_t rfl rfl) ?_ | refine s_pu (pu_pick_f rfl rfl) ?_
          refine swl_sub _ (.cons (t := 7) rfl (.cons (t := 8) rfl (.cons (t := 9) rfl (.cons (t := 10) rfl (.cons (t := 11) rfl (.cons (t := 12) rfl (.cons (t := 15) rfl (.cons (t := 16) rfl (.cons (t := 17) rfl (.cons (t := 18) rfl (.cons (t := 53) rfl (.cons (t := 54) rfl (.cons (t := 55) rfl (.cons (t := 84) rfl .nil)))))))))))))) ?_
          refine swl_nil ?_
          refine then_n ?_
          refine swp_cond (b := _) rfl (fun h84 => by first | (cases h84; done) | (clear gx gy gz hlook hgood h3 r53 r8 r9 rb ro_ rt; grind)) (fun h84 => ?_)
          refine swp_skip ?_
          exact then_n ⟨⟨rfl, rfl, rfl, rfl, rfl, rfl, rfl, rfl, rfl, rfl, rfl, rfl, rfl, trivial⟩, Split.ent' (by repeat (first | exact Split.nil | (apply Split.cons; (repeat (first | with_reducible exact Take.here | apply Take.there)))))⟩
        · skip   -- 81 F
          refine s_off rfl rfl rfl ?_
          refine s_off rfl rfl rfl ?_
          first | refine s_pu (pu_pick_t rfl rfl) ?_ | refine s_pu (pu_pick_f rfl rfl) ?_
          refine swl_sub _ (.cons (t := 7) rfl (.cons (t := 8) rfl (.cons (t := 9) rfl (.cons (t := 10) rfl (.cons (t := 11) rfl (.cons (t := 12) rfl (.cons (t := 15) rfl (.cons (t := 16) rfl (.cons (t := 17) rfl (.cons (t := 18) rfl (.cons (t := 53) rfl (.cons (t := 54) rfl (.cons (t := 55) rfl (.cons (t := 84) rfl .nil)))))))))))))) ?_
          refine swl_nil ?_
          refine then_n ?_
          refine swp_cond (b := _) rfl (fun h84 => by first | (cases h84; done) | (clear gx gy gz hlook hgood h3 r53 r8 r9 rb ro_ rt; grind)) (fun h84 => ?_)
          refine swp_skip ?_
          exact then_n ⟨⟨rfl, rfl, rfl, rfl, rfl, rfl, rfl, rfl, rfl, rfl, rfl, rfl, rfl, trivial⟩, Split.ent' (by repeat (first | exact Split.nil | (apply Split.cons; (repeat (first | with_reducible exact Take.here | apply Take.there)))))⟩
    rintro env L ⟨hsub, hE⟩
    refine swp_sub _ hsub ?_
    refine swp_ent hE ?_
    clear hsub hE env L
    refine swp_cut (fun env L => Sub env [(7, v27), (8, v29), (9, v31), (10, v8), (11, v9), (12, .int .i64 0), (15, .int .u32 p), (16, .int .u32 q), (17, .int .u32 r), (18, .int .u32 g), (19, .bool (decide (q ≠ r ∧ p ≠ q ∧ p ≠ r))), (53, v53), (54, .int .i64 (al.length : Nat)), (55, .int .i64 (i : Nat))] ∧ Ent L [ro μ7]) ?_ ?_
    · skip
      refine swp_region ?_
      refine s_pu (pu_move rfl) ?_
      refine s_pu (pu_move rfl) ?_
      refine s_pu (pu_neq rfl rfl) ?_
      refine s_pu (pu_move rfl) ?_
      refine s_split 88 rfl (fun h88 => ?_) (fun h88 => ?_)
      · skip   -- 88 T
        refine s_on rfl rfl ?_
        refine s_pu (pu_move rfl) ?_
        refine s_on rfl rfl ?_
        refine s_pu (pu_move rfl) ?_
        refine s_on rfl rfl ?_
        refine s_pu (pu_neq rfl rfl) ?_
        first | refine s_pu (pu_pick_t rfl rfl) ?_ | refine s_pu (pu_pick_f rfl rfl) ?_
        refine s_pu (pu_move rfl) ?_
        refine s_split 93 rfl (fun h93 => ?_) (fun h93 => ?_)
        · skip   -- 93 T
          refine s_on rfl rfl ?_
          refine s_pu (pu_move rfl) ?_
          refine s_on rfl rfl ?_
          refine s_pu (pu_move rfl) ?_
          refine s_on rfl rfl ?_
          refine s_pu (pu_neq rfl rfl) ?_
          first | refine s_pu (pu_pick_t rfl rfl) ?_ | refine s_pu (pu_pick_f rfl rfl) ?_
          refine s_pu (pu_assign rfl) ?_
          refine swl_sub _ (.cons (t := 7) rfl (.cons (t := 8) rfl (.cons (t := 9) rfl (.cons (t := 10) rfl (.cons (t := 11) rfl (.cons (t := 12) rfl (.cons (t := 15) rfl (.cons (t := 16) rfl (.cons (t := 17) rfl (.cons (t := 18) rfl (.cons (t := 19) rfl (.cons (t := 53) rfl (.cons (t := 54) rfl (.cons (t := 55) rfl .nil)))))))))))))) ?_
          refine swl_nil ?_
          refine then_n ⟨⟨rfl, rfl, rfl, rfl, rfl, rfl, rfl, rfl, rfl, rfl, ?_, rfl, rfl, rfl, trivial⟩, Split.ent' (by repeat (first | exact Split.nil | (apply Split.cons; (repeat (first | with_reducible exact Take.here | apply Take.there)))))⟩
          refine congrArg (fun x => some (Value.bool x)) ?_
          refine Bool.eq_iff_iff.2 ?_
          first | (cases h93; done) | (clear gx gy gz hlook hgood h3 r53 r8 r9 rb ro_ rt; grind)
        · skip   -- 93 F
          refine s_off rfl rfl rfl ?_
          refine s_off rfl rfl rfl ?_
          refine s_off rfl rfl rfl ?_
          first | refine s_pu (pu_pick_t rfl rfl) ?_ | refine s_pu (pu_pick_f rfl rfl) ?_
          refine s_pu (pu_assign rfl) ?_
          refine swl_sub _ (.cons (t := 7) rfl (.cons (t := 8) rfl (.cons (t := 9) rfl (.cons (t := 10) rfl (.cons (t := 11) rfl (.cons (t := 12) rfl (.cons (t := 15) rfl (.cons (t := 16) rfl (.cons (t := 17) rfl (.cons (t := 18) rfl (.cons (t := 19) rfl (.cons (t := 53) rfl (.cons (t := 54) rfl (.cons (t := 55) rfl .nil)))))))))))))) ?_
          refine swl_nil ?_
          refine then_n ⟨⟨rfl, rfl, rfl, rfl, rfl, rfl, rfl, rfl, rfl, rfl, ?_, rfl, rfl, rfl, trivial⟩, Split.ent' (by repeat (first | exact Split.nil | (apply Split.cons; (repeat (first | with_reducible exact Take.here | apply Take.there)))))⟩
          refine congrArg (fun x => some (Value.bool x)) ?_
          refine Bool.eq_iff_iff.2 ?_
          first | (cases h93; done) | (clear gx gy gz hlook hgood h3 r53 r8 r9 rb ro_ rt; grind)
      · skip   -- 88 F
        refine s_off rfl rfl rfl ?_
        refine s_off rfl rfl rfl ?_
        refine s_off rfl rfl rfl ?_
        first | refine s_pu (pu_pick_t rfl rfl) ?_ | refine s_pu (pu_pick_f rfl rfl) ?_
        refine s_pu (pu_move rfl) ?_
        refine s_split 93 rfl (fun h93 => ?_) (fun h93 => ?_)
        · skip   -- 93 T
          refine s_on rfl rfl ?_
          refine s_pu (pu_move rfl) ?_
          refine s_on rfl rfl ?_
          refine s_pu (pu_move rfl) ?_
          refine s_on rfl rfl ?_
          refine s_pu (pu_neq rfl rfl) ?_
          first | refine s_pu (pu_pick_t rfl rfl) ?_ | refine s_pu (pu_pick_f rfl rfl) ?_
          refine s_pu (pu_assign rfl) ?_
          refine swl_sub _ (.cons (t := 7) rfl (.cons (t := 8) rfl (.cons (t := 9) rfl (.cons (t := 10) rfl (.cons (t := 11) rfl (.cons (t := 12) rfl (.cons (t := 15) rfl (.cons (t := 16) rfl (.cons (t := 17) rfl (.cons (t := 18) rfl (.cons (t := 19) rfl (.cons (t := 53) rfl (.cons (t := 54) rfl (.cons (t := 55) rfl .nil)))))))))))))) ?_
          refine swl_nil ?_
          refine then_n ⟨⟨rfl, rfl, rfl, rfl, rfl, rfl, rfl, rfl, rfl, rfl, ?_, rfl, rfl, rfl, trivial⟩, Split.ent' (by repeat (first | exact Split.nil | (apply Split.cons; (repeat (first | with_reducible exact Take.here | apply Take.there)))))⟩
          refine congrArg (fun x => some (Value.bool x)) ?_
          refine Bool.eq_iff_iff.2 ?_
          first | (cases h93; done) | (clear gx gy gz hlook hgood h3 r53 r8 r9 rb ro_ rt; grind)
        · skip   -- 93 F
          refine s_off rfl rfl rfl ?_
          refine s_off rfl rfl rfl ?_
          refine s_off rfl rfl rfl ?_
          first | refine s_pu (pu_pick_t rfl rfl) ?_ | refine s_pu (pu_pick_f rfl rfl) ?_
          refine s_pu (pu_assign rfl) ?_
          refine swl_sub _ (.cons (t := 7) rfl (.cons (t := 8) rfl (.cons (t := 9) rfl (.cons (t := 10) rfl (.cons (t := 11) rfl (.cons (t := 12) rfl (.cons (t := 15) rfl (.cons (t := 16) rfl (.cons (t := 17) rfl (.cons (t := 18) rfl (.cons (t := 19) rfl (.cons (t := 53) rfl (.cons (t := 54) rfl (.cons (t := 55) rfl .nil)))))))))))))) ?_
          refine swl_nil ?_
          refine then_n ⟨⟨rfl, rfl, rfl, rfl, rfl, rfl, rfl, rfl, rfl, rfl, ?_, rfl, rfl, rfl, trivial⟩, Split.ent' (by repeat (first | exact Split.nil | (apply Split.cons; (repeat (first | with_reducible exact Take.here | apply Take.there)))))⟩
          refine congrArg (fun x => some (Value.bool x)) ?_
          refine Bool.eq_iff_iff.2 ?_
          first | (cases h93; done) | (clear gx gy gz hlook hgood h3 r53 r8 r9 rb ro_ rt; grind)
    rintro env L ⟨hsub, hE⟩
    refine swp_sub _ hsub ?_
    refine swp_ent hE ?_
    clear hsub hE env L
    obtain ⟨f1, f2, f3⟩ := hrule
    refine swp_block ?_
    refine swp_seq ?_
    refine swp_seq ?_
    refine swp_region ?_
    refine s_pu (pu_move rfl) ?_
    refine s_pu (pu_move rfl) ?_
    refine s_split 100 rfl (fun h100 => ?_) (fun h100 => ?_)
    · skip   -- 100 T
      refine s_on rfl rfl ?_
      refine s_pu (pu_move rfl) ?_
      refine s_on rfl rfl ?_
      refine s_pu (pu_move rfl) ?_
      refine s_on rfl rfl ?_
      refine s_pu (pu_move rfl) ?_
      refine s_on rfl rfl ?_
      refine s_pu (pu_move rfl) ?_
      refine s_on rfl rfl ?_
      refine s_ef (ef_fn (mark_specZ u1 u2 u3) rfl rfl (by repeat (first | exact Split.nil | (apply Split.cons; (repeat (first | with_reducible exact Take.here | apply Take.there)))))) ?_
      rintro v105 L1 ⟨rfl, rfl⟩
      refine swl_app ?_
      refine s_on rfl rfl ?_
      refine s_pu (pu_neq rfl rfl) ?_
      first | refine s_pu (pu_pick_t rfl rfl) ?_ | refine s_pu (pu_pick_f rfl rfl) ?_
      refine s_pu (pu_assign rfl) ?_
      refine swl_sub _ (.cons (t := 7) rfl (.cons (t := 8) rfl (.cons (t := 9) rfl (.cons (t := 10) rfl (.cons (t := 11) rfl (.cons (t := 12) rfl (.cons (t := 15) rfl (.cons (t := 16) rfl (.cons (t := 17) rfl (.cons (t := 18) rfl (.cons (t := 19) rfl (.cons (t := 53) rfl (.cons (t := 54) rfl (.cons (t := 55) rfl (.cons (t := 98) rfl .nil))))))))))))))) ?_
      refine swl_nil ?_
      refine then_n ?_
      refine swp_cond (b := _) rfl (fun h98 => by first | (cases h98; done) | (clear gx gy gz hlook hgood h3 r53 r8 r9 rb ro_ rt; grind)) (fun h98 => ?_)
      refine swp_seq ?_
      refine swp_region ?_
      refine s_pu (pu_move rfl) ?_
      refine s_pu (pu_not rfl) ?_
      refine s_pu (pu_move rfl) ?_
      refine s_split 110 rfl (fun h110 => ?_) (fun h110 => ?_)
      · skip   -- 110 T
        refine s_on rfl rfl ?_
        refine s_pu (pu_move rfl) ?_
        refine s_on rfl rfl ?_
        refine s_pu (pu_move rfl) ?_
        refine s_on rfl rfl ?_
        refine s_pu (pu_eql rfl rfl) ?_
        first | refine s_pu (pu_pick_t rfl rfl) ?_ | refine s_pu (pu_pick_f rfl rfl) ?_
        refine s_pu (pu_move rfl) ?_
        refine s_split 115 rfl (fun h115 => ?_) (fun h115 => ?_)
        · skip   -- 115 T
          refine s_on rfl rfl ?_
          refine s_pu (pu_move rfl) ?_
          refine s_on rfl rfl ?_
          refine s_pu (pu_move rfl) ?_
          refine s_on rfl rfl ?_
          refine s_pu (pu_neq rfl rfl) ?_
          first | refine s_pu (pu_pick_t rfl rfl) ?_ | refine s_pu (pu_pick_f rfl rfl) ?_
          refine s_pu (pu_assign rfl) ?_
          refine swl_sub _ (.cons (t := 7) rfl (.cons (t := 8) rfl (.cons (t := 9) rfl (.cons (t := 10) rfl (.cons (t := 11) rfl (.cons (t := 12) rfl (.cons (t := 15) rfl (.cons (t := 16) rfl (.cons (t := 18) rfl (.cons (t := 19) rfl (.cons (t := 53) rfl (.cons (t := 54) rfl (.cons (t := 55) rfl (.cons (t := 98) rfl .nil)))))))))))))) ?_
          refine swl_nil ?_
          refine then_n ?_
          refine swp_cond (b := _) rfl (fun h98 => by first | (cases h98; done) | (clear gx gy gz hlook hgood h3 r53 r8 r9 rb ro_ rt; grind)) (fun h98 => ?_)
          refine swp_region ?_
          refine s_pu (pu_move rfl) ?_
          refine s_pu (pu_not rfl) ?_
          refine s_pu (pu_move rfl) ?_
          refine s_split 122 rfl (fun h122 => ?_) (fun h122 => ?_)
          · skip   -- 122 T
            refine s_on rfl rfl ?_
            refine s_pu (pu_move rfl) ?_
            refine s_on rfl rfl ?_
            refine s_pu (pu_move rfl) ?_
            refine s_on rfl rfl ?_
            refine s_pu (pu_neq rfl rfl) ?_
            first | refine s_pu (pu_pick_t rfl rfl) ?_ | refine s_pu (pu_pick_f rfl rfl) ?_
            refine s_pu (pu_move rfl) ?_
            refine s_split 127 rfl (fun h127 => ?_) (fun h127 => ?_)
            · skip   -- 127 T
              refine s_on rfl rfl ?_
              refine s_pu (pu_move rfl) ?_
              refine s_on rfl rfl ?_
              refine s_pu (pu_move rfl) ?_
              refine s_on rfl rfl ?_
              refine s_pu (pu_neq rfl rfl) ?_
              first | refine s_pu (pu_pick_t rfl rfl) ?_ | refine s_pu (pu_pick_f rfl rfl) ?_
              refine s_pu (pu_assign rfl) ?_
              refine swl_sub _ (.cons (t := 7) rfl (.cons (t := 8) rfl (.cons (t := 9) rfl (.cons (t := 10) rfl (.cons (t := 11) rfl (.cons (t := 12) rfl (.cons (t := 53) rfl (.cons (t := 54) rfl (.cons (t := 55) rfl (.cons (t := 98) rfl .nil)))))))))) ?_
              refine swl_nil ?_
              refine then_n ?_
              refine swp_cond (b := _) rfl (fun h98 => by first | (cases h98; done) | (clear gx gy gz hlook hgood h3 r53 r8 r9 rb ro_ rt; grind)) (fun h98 => ?_)
              refine swp_skip ?_
              refine block_n ?_
              refine block_n ?_
              refine then_n ?_
              refine swp_region ?_
              refine s_pu (pu_add_as ((i + 1 : Nat) : Int) rfl rfl (by omega) (by omega) (by omega)) ?_
              refine s_pu (pu_move rfl) ?_
              refine swl_sub _ (.cons (t := 7) rfl (.cons (t := 8) rfl (.cons (t := 9) rfl (.cons (t := 10) rfl (.cons (t := 11) rfl (.cons (t := 12) rfl (.cons (t := 53) rfl (.cons (t := 54) rfl (.cons (t := 55) rfl .nil))))))))) ?_
              refine swl_nil ?_
              refine then_n ⟨i + 1, ⟨⟨rfl, rfl, rfl, rfl, rfl, rfl, rfl, rfl, rfl, trivial⟩, Split.ent' (by repeat (first | exact Split.nil | (apply Split.cons; (repeat (first | with_reducible exact Take.here | apply Take.there))))), h56'⟩, ?_⟩
              show al.length - (i + 1) < al.length - i; omega
            · skip   -- 127 F
              refine s_off rfl rfl rfl ?_
              refine s_off rfl rfl rfl ?_
              refine s_off rfl rfl rfl ?_
              first | refine s_pu (pu_pick_t rfl rfl) ?_ | refine s_pu (pu_pick_f rfl rfl) ?_
              refine s_pu (pu_assign rfl) ?_
              refine swl_sub _ (.cons (t := 7) rfl (.cons (t := 8) rfl (.cons (t := 9) rfl (.cons (t := 10) rfl (.cons (t := 11) rfl (.cons (t := 12) rfl (.cons (t := 53) rfl (.cons (t := 54) rfl (.cons (t := 55) rfl (.cons (t := 98) rfl .nil)))))))))) ?_
              refine swl_nil ?_
              refine then_n ?_
              refine swp_cond (b := _) rfl (fun h98 => by first | (cases h98; done) | (clear gx gy gz hlook hgood h3 r53 r8 r9 rb ro_ rt; grind)) (fun h98 => ?_)
              refine swp_skip ?_
              refine block_n ?_
              refine block_n ?_
              refine then_n ?_
              refine swp_region ?_
              refine s_pu (pu_add_as ((i + 1 : Nat) : Int) rfl rfl (by omega) (by omega) (by omega)) ?_
              refine s_pu (pu_move rfl) ?_
              refine swl_sub _ (.cons (t := 7) rfl (.cons (t := 8) rfl (.cons (t := 9) rfl (.cons (t := 10) rfl (.cons (t := 11) rfl (.cons (t := 12) rfl (.cons (t := 53) rfl (.cons (t := 54) rfl (.cons (t := 55) rfl .nil))))))))) ?_
              refine swl_nil ?_
              refine then_n ⟨i + 1, ⟨⟨rfl, rfl, rfl, rfl, rfl, rfl, rfl, rfl, rfl, trivial⟩, Split.ent' (by repeat (first | exact Split.nil | (apply Split.cons; (repeat (first | with_reducible exact Take.here | apply Take.there))))), h56'⟩, ?_⟩
              show al.length - (i + 1) < al.length - i; omega
          · skip   -- 122 F
            refine s_off rfl rfl rfl ?_
            refine s_off rfl rfl rfl ?_
            refine s_off rfl rfl rfl ?_
            first | refine s_pu (pu_pick_t rfl rfl) ?_ | refine s_pu (pu_pick_f rfl rfl) ?_
            refine s_pu (pu_move rfl) ?_
            refine s_split 127 rfl (fun h127 => ?_) (fun h127 => ?_)
            · skip   -- 127 T
              refine s_on rfl rfl ?_
              refine s_pu (pu_move rfl) ?_
              refine s_on rfl rfl ?_
              refine s_pu (pu_move rfl) ?_
              refine s_on rfl rfl ?_
              refine s_pu (pu_neq rfl rfl) ?_
              first | refine s_pu (pu_pick_t rfl rfl) ?_ | refine s_pu (pu_pick_f rfl rfl) ?_
              refine s_pu (pu_assign rfl) ?_
              refine swl_sub _ (.cons (t := 7) rfl (.cons (t := 8) rfl (.cons (t := 9) rfl (.cons (t := 10) rfl (.cons (t := 11) rfl (.cons (t := 12) rfl (.cons (t := 53) rfl (.cons (t := 54) rfl (.cons (t := 55) rfl (.cons (t := 98) rfl .nil)))))))))) ?_
              refine swl_nil ?_
              refine then_n ?_
              refine swp_cond (b := _) rfl (fun h98 => by first | (cases h98; done) | (clear gx gy gz hlook hgood h3 r53 r8 r9 rb ro_ rt; grind)) (fun h98 => ?_)
              refine swp_skip ?_
              refine block_n ?_
              refine block_n ?_
              refine then_n ?_
              refine swp_region ?_
              refine s_pu (pu_add_as ((i + 1 : Nat) : Int) rfl rfl (by omega) (by omega) (by omega)) ?_
              refine s_pu (pu_move rfl) ?_
              refine swl_sub _ (.cons (t := 7) rfl (.cons (t := 8) rfl (.cons (t := 9) rfl (.cons (t := 10) rfl (.cons (t := 11) rfl (.cons (t := 12) rfl (.cons (t := 53) rfl (.cons (t := 54) rfl (.cons (t := 55) rfl .nil))))))))) ?_
              refine swl_nil ?_
              refine then_n ⟨i + 1, ⟨⟨rfl, rfl, rfl, rfl, rfl, rfl, rfl, rfl, rfl, trivial⟩, Split.ent' (by repeat (first | exact Split.nil | (apply Split.cons; (repeat (first | with_reducible exact Take.here | apply Take.there))))), h56'⟩, ?_⟩
              show al.length - (i + 1) < al.length - i; omega
            · skip   -- 127 F
              refine s_off rfl rfl rfl ?_
              refine s_off rfl rfl rfl ?_
              refine s_off rfl rfl rfl ?_
              first | refine s_pu (pu_pick_t rfl rfl) ?_ | refine s_pu (pu_pick_f rfl rfl) ?_
              refine s_pu (pu_assign rfl) ?_
              refine swl_sub _ (.cons (t := 7) rfl (.cons (t := 8) rfl (.cons (t := 9) rfl (.cons (t := 10) rfl (.cons (t := 11) rfl (.cons (t := 12) rfl (.cons (t := 53) rfl (.cons (t := 54) rfl (.cons (t := 55) rfl (.cons (t := 98) rfl .nil)))))))))) ?_
              refine swl_nil ?_
              refine then_n ?_
              refine swp_cond (b := _) rfl (fun h98 => by first | (cases h98; done) | (clear gx gy gz hlook hgood h3 r53 r8 r9 rb ro_ rt; grind)) (fun h98 => ?_)
              refine swp_skip ?_
              refine block_n ?_
              refine block_n ?_
              refine then_n ?_
              refine swp_region ?_
              refine s_pu (pu_add_as ((i + 1 : Nat) : Int) rfl rfl (by omega) (by omega) (by omega)) ?_
              refine s_pu (pu_move rfl) ?_
              refine swl_sub _ (.cons (t := 7) rfl (.cons (t := 8) rfl (.cons (t := 9) rfl (.cons (t := 10) rfl (.cons (t := 11) rfl (.cons (t := 12) rfl (.cons (t := 53) rfl (.cons (t := 54) rfl (.cons (t := 55) rfl .nil))))))))) ?_
              refine swl_nil ?_
              refine then_n ⟨i + 1, ⟨⟨rfl, rfl, rfl, rfl, rfl, rfl, rfl, rfl, rfl, trivial⟩, Split.ent' (by repeat (first | exact Split.nil | (apply Split.cons; (repeat (first | with_reducible exact Take.here | apply Take.there))))), h56'⟩, ?_⟩
              show al.length - (i + 1) < al.length - i; omega
        · skip   -- 115 F
          refine s_off rfl rfl rfl ?_
          refine s_off rfl rfl rfl ?_
          refine s_off rfl rfl rfl ?_
          first | refine s_pu (pu_pick_t rfl rfl) ?_ | refine s_pu (pu_pick_f rfl rfl) ?_
          refine s_pu (pu_assign rfl) ?_
          refine swl_sub _ (.cons (t := 7) rfl (.cons (t := 8) rfl (.cons (t := 9) rfl (.cons (t := 10) rfl (.cons (t := 11) rfl (.cons (t := 12) rfl (.cons (t := 15) rfl (.cons (t := 16) rfl (.cons (t := 18) rfl (.cons (t := 19) rfl (.cons (t := 53) rfl (.cons (t := 54) rfl (.cons (t := 55) rfl (.cons (t := 98) rfl .nil)))))))))))))) ?_
          refine swl_nil ?_
          refine then_n ?_
          refine swp_cond (b := _) rfl (fun h98 => by first | (cases h98; done) | (clear gx gy gz hlook hgood h3 r53 r8 r9 rb ro_ rt; grind)) (fun h98 => ?_)
          refine swp_region ?_
          refine s_pu (pu_move rfl) ?_
          refine s_pu (pu_not rfl) ?_
          refine s_pu (pu_move rfl) ?_
          refine s_split 122 rfl (fun h122 => ?_) (fun h122 => ?_)
          · skip   -- 122 T
            refine s_on rfl rfl ?_
            refine s_pu (pu_move rfl) ?_
            refine s_on rfl rfl ?_
            refine s_pu (pu_move rfl) ?_
            refine s_on rfl rfl ?_
            refine s_pu (pu_neq rfl rfl) ?_
            first | refine s_pu (pu_pick_t rfl rfl) ?_ | refine s_pu (pu_pick_f rfl rfl) ?_
            refine s_pu (pu_move rfl) ?_
            refine s_split 127 rfl (fun h127 => ?_) (fun h127 => ?_)
            · skip   -- 127 T
              refine s_on rfl rfl ?_
              refine s_pu (pu_move rfl) ?_
              refine s_on rfl rfl ?_
              refine s_pu (pu_move rfl) ?_
              refine s_on rfl rfl ?_
              refine s_pu (pu_neq rfl rfl) ?_
              first | refine s_pu (pu_pick_t rfl rfl) ?_ | refine s_pu (pu_pick_f rfl rfl) ?_
              refine s_pu (pu_assign rfl) ?_
              refine swl_sub _ (.cons (t := 7) rfl (.cons (t := 8) rfl (.cons (t := 9) rfl (.cons (t := 10) rfl (.cons (t := 11) rfl (.cons (t := 12) rfl (.cons (t := 53) rfl (.cons (t := 54) rfl (.cons (t := 55) rfl (.cons (t := 98) rfl .nil)))))))))) ?_
              refine swl_nil ?_
              refine then_n ?_
              refine swp_cond (b := _) rfl (fun h98 => by first | (cases h98; done) | (clear gx gy gz hlook hgood h3 r53 r8 r9 rb ro_ rt; grind)) (fun h98 => ?_)
              refine swp_skip ?_
              refine block_n ?_
              refine block_n ?_
              refine then_n ?_
              refine swp_region ?_
              refine s_pu (pu_add_as ((i + 1 : Nat) : Int) rfl rfl (by omega) (by omega) (by omega)) ?_
              refine s_pu (pu_move rfl) ?_
              refine swl_sub _ (.cons (t := 7) rfl (.cons (t := 8) rfl (.cons (t := 9) rfl (.cons (t := 10) rfl (.cons (t := 11) rfl (.cons (t := 12) rfl (.cons (t := 53) rfl (.cons (t := 54) rfl (.cons (t := 55) rfl .nil))))))))) ?_
              refine swl_nil ?_
              refine then_n ⟨i + 1, ⟨⟨rfl, rfl, rfl, rfl, rfl, rfl, rfl, rfl, rfl, trivial⟩, Split.ent' (by repeat (first | exact Split.nil | (apply Split.cons; (repeat (first | with_reducible exact Take.here | apply Take.there))))), h56'⟩, ?_⟩
              show al.length - (i + 1) < al.length - i; omega
            · skip   -- 127 F
              refine s_off rfl rfl rfl ?_
              refine s_off rfl rfl rfl ?_
              refine s_off rfl rfl rfl ?_
              first | refine s_pu (pu_pick_t rfl rfl) ?_ | refine s_pu (pu_pick_f rfl rfl) ?_
              refine s_pu (pu_assign rfl) ?_
              refine swl_sub _ (.cons (t := 7) rfl (.cons (t := 8) rfl (.cons (t := 9) rfl (.cons (t := 10) rfl (.cons (t := 11) rfl (.cons (t := 12) rfl (.cons (t := 53) rfl (.cons (t := 54) rfl (.cons (t := 55) rfl (.cons (t := 98) rfl .nil)))))))))) ?_
              refine swl_nil ?_
              refine then_n ?_
              refine swp_cond (b := _) rfl (fun h98 => by first | (cases h98; done) | (clear gx gy gz hlook hgood h3 r53 r8 r9 rb ro_ rt; grind)) (fun h98 => ?_)
              refine swp_skip ?_
              refine block_n ?_
              refine block_n ?_
              refine then_n ?_
              refine swp_region ?_
              refine s_pu (pu_add_as ((i + 1 : Nat) : Int) rfl rfl (by omega) (by omega) (by omega)) ?_
              refine s_pu (pu_move rfl) ?_
              refine swl_sub _ (.cons (t := 7) rfl (.cons (t := 8) rfl (.cons (t := 9) rfl (.cons (t := 10) rfl (.cons (t := 11) rfl (.cons (t := 12) rfl (.cons (t := 53) rfl (.cons (t := 54) rfl (.cons (t := 55) rfl .nil))))))))) ?_
              refine swl_nil ?_
              refine then_n ⟨i + 1, ⟨⟨rfl, rfl, rfl, rfl, rfl, rfl, rfl, rfl, rfl, trivial⟩, Split.ent' (by repeat (first | exact Split.nil | (apply Split.cons; (repeat (first | with_reducible exact Take.here | apply Take.there))))), h56'⟩, ?_⟩
              show al.length - (i + 1) < al.length - i; omega
          · skip   -- 122 F
            refine s_off rfl rfl rfl ?_
            refine s_off rfl rfl rfl ?_
            refine s_off rfl rfl rfl ?_
            first | refine s_pu (pu_pick_t rfl rfl) ?_ | refine s_pu (pu_pick_f rfl rfl) ?_
            refine s_pu (pu_move rfl) ?_
            refine s_split 127 rfl (fun h127 => ?_) (fun h127 => ?_)
            · skip   -- 127 T
              refine s_on rfl rfl ?_
              refine s_pu (pu_move rfl) ?_
              refine s_on rfl rfl ?_
              refine s_pu (pu_move rfl) ?_
              refine s_on rfl rfl ?_
              refine s_pu (pu_neq rfl rfl) ?_
              first | refine s_pu (pu_pick_t rfl rfl) ?_ | refine s_pu (pu_pick_f rfl rfl) ?_
              refine s_pu (pu_assign rfl) ?_
              refine swl_sub _ (.cons (t := 7) rfl (.cons (t := 8) rfl (.cons (t := 9) rfl (.cons (t := 10) rfl (.cons (t := 11) rfl (.cons (t := 12) rfl (.cons (t := 53) rfl (.cons (t := 54) rfl (.cons (t := 55) rfl (.cons (t := 98) rfl .nil)))))))))) ?_
              refine swl_nil ?_
              refine then_n ?_
              refine swp_cond (b := _) rfl (fun h98 => by first | (cases h98; done) | (clear gx gy gz hlook hgood h3 r53 r8 r9 rb ro_ rt; grind)) (fun h98 => ?_)
              refine swp_skip ?_
              refine block_n ?_
              refine block_n ?_
              refine then_n ?_
              refine swp_region ?_
              refine s_pu (pu_add_as ((i + 1 : Nat) : Int) rfl rfl (by omega) (by omega) (by omega)) ?_
              refine s_pu (pu_move rfl) ?_
              refine swl_sub _ (.cons (t := 7) rfl (.cons (t := 8) rfl (.cons (t := 9) rfl (.cons (t := 10) rfl (.cons (t := 11) rfl (.cons (t := 12) rfl (.cons (t := 53) rfl (.cons (t := 54) rfl (.cons (t := 55) rfl .nil))))))))) ?_
              refine swl_nil ?_
              refine then_n ⟨i + 1, ⟨⟨rfl, rfl, rfl, rfl, rfl, rfl, rfl, rfl, rfl, trivial⟩, Split.ent' (by repeat (first | exact Split.nil | (apply Split.cons; (repeat (first | with_reducible exact Take.here | apply Take.there))))), h56'⟩, ?_⟩
              show al.length - (i + 1) < al.length - i; omega
            · skip   -- 127 F
              refine s_off rfl rfl rfl ?_
              refine s_off rfl rfl rfl ?_
              refine s_off rfl rfl rfl ?_
              first | refine s_pu (pu_pick_t rfl rfl) ?_ | refine s_pu (pu_pick_f rfl rfl) ?_
              refine s_pu (pu_assign rfl) ?_
              refine swl_sub _ (.cons (t := 7) rfl (.cons (t := 8) rfl (.cons (t := 9) rfl (.cons (t := 10) rfl (.cons (t := 11) rfl (.cons (t := 12) rfl (.cons (t := 53) rfl (.cons (t := 54) rfl (.cons (t := 55) rfl (.cons (t := 98) rfl .nil)))))))))) ?_
              refine swl_nil ?_
              refine then_n ?_
              refine swp_cond (b := _) rfl (fun h98 => by first | (cases h98; done) | (clear gx gy gz hlook hgood h3 r53 r8 r9 rb ro_ rt; grind)) (fun h98 => ?_)
              refine swp_skip ?_
              refine block_n ?_
              refine block_n ?_
              refine then_n ?_
              refine swp_region ?_
              refine s_pu (pu_add_as ((i + 1 : Nat) : Int) rfl rfl (by omega) (by omega) (by omega)) ?_
              refine s_pu (pu_move rfl) ?_
              refine swl_sub _ (.cons (t := 7) rfl (.cons (t := 8) rfl (.cons (t := 9) rfl (.cons (t := 10) rfl (.cons (t := 11) rfl (.cons (t := 12) rfl (.cons (t := 53) rfl (.cons (t := 54) rfl (.cons (t := 55) rfl .nil))))))))) ?_
              refine swl_nil ?_
              refine then_n ⟨i + 1, ⟨⟨rfl, rfl, rfl, rfl, rfl, rfl, rfl, rfl, rfl, trivial⟩, Split.ent' (by repeat (first | exact Split.nil | (apply Split.cons; (repeat (first | with_reducible exact Take.here | apply Take.there))))), h56'⟩, ?_⟩
              show al.length - (i + 1) < al.length - i; omega
      · skip   -- 110 F
        refine s_off rfl rfl rfl ?_
        refine s_off rfl rfl rfl ?_
        refine s_off rfl rfl rfl ?_
        first | refine s_pu (pu_pick_t rfl rfl) ?_ | refine s_pu (pu_pick_f rfl rfl) ?_
        refine s_pu (pu_move rfl) ?_
        refine s_split 115 rfl (fun h115 => ?_) (fun h115 => ?_)
        · skip   -- 115 T
          refine s_on rfl rfl ?_
          refine s_pu (pu_move rfl) ?_
          refine s_on rfl rfl ?_
          refine s_pu (pu_move rfl) ?_
          refine s_on rfl rfl ?_
          refine s_pu (pu_neq rfl rfl) ?_
          first | refine s_pu (pu_pick_t rfl rfl) ?_ | refine s_pu (pu_pick_f rfl rfl) ?_
          refine s_pu (pu_assign rfl) ?_
          refine swl_sub _ (.cons (t := 7) rfl (.cons (t := 8) rfl (.cons (t := 9) rfl (.cons (t := 10) rfl (.cons (t := 11) rfl (.cons (t := 12) rfl (.cons (t := 15) rfl (.cons (t := 16) rfl (.cons (t := 18) rfl (.cons (t := 19) rfl (.cons (t := 53) rfl (.cons (t := 54) rfl (.cons (t := 55) rfl (.cons (t := 98) rfl .nil)))))))))))))) ?_
          refine swl_nil ?_
          refine then_n ?_
          refine swp_cond (b := _) rfl (fun h98 => by first | (cases h98; done) | (clear gx gy gz hlook hgood h3 r53 r8 r9 rb ro_ rt; grind)) (fun h98 => ?_)
          refine swp_region ?_
          refine s_pu (pu_move rfl) ?_
          refine s_pu (pu_not rfl) ?_
          refine s_pu (pu_move rfl) ?_
          refine s_split 122 rfl (fun h122 => ?_) (fun h122 => ?_)
          · skip   -- 122 T
            refine s_on rfl rfl ?_
            refine s_pu (pu_move rfl) ?_
            refine s_on rfl rfl ?_
            refine s_pu (pu_move rfl) ?_
            refine s_on rfl rfl ?_
            refine s_pu (pu_neq rfl rfl) ?_
            first | refine s_pu (pu_pick_t rfl rfl) ?_ | refine s_pu (pu_pick_f rfl rfl) ?_
            refine s_pu (pu_move rfl) ?_
            refine s_split 127 rfl (fun h127 => ?_) (fun h127 => ?_)
            · skip   -- 127 T
              refine s_on rfl rfl ?_
              refine s_pu (pu_move rfl) ?_
              refine s_on rfl rfl ?_
              refine s_pu (pu_move rfl) ?_
              refine s_on rfl rfl ?_
              refine s_pu (pu_neq rfl rfl) ?_
              first | refine s_pu (pu_pick_t rfl rfl) ?_ | refine s_pu (pu_pick_f rfl rfl) ?_
              refine s_pu (pu_assign rfl) ?_
              refine swl_sub _ (.cons (t := 7) rfl (.cons (t := 8) rfl (.cons (t := 9) rfl (.cons (t := 10) rfl (.cons (t := 11) rfl (.cons (t := 12) rfl (.cons (t := 53) rfl (.cons (t := 54) rfl (.cons (t := 55) rfl (.cons (t := 98) rfl .nil)))))))))) ?_
              refine swl_nil ?_
              refine then_n ?_
              refine swp_cond (b := _) rfl (fun h98 => by first | (cases h98; done) | (clear gx gy gz hlook hgood h3 r53 r8 r9 rb ro_ rt; grind)) (fun h98 => ?_)
              refine swp_skip ?_
              refine block_n ?_
              refine block_n ?_
              refine then_n ?_
              refine swp_region ?_
              refine s_pu (pu_add_as ((i + 1 : Nat) : Int) rfl rfl (by omega) (by omega) (by omega)) ?_
              refine s_pu (pu_move rfl) ?_
              refine swl_sub _ (.cons (t := 7) rfl (.cons (t := 8) rfl (.cons (t := 9) rfl (.cons (t := 10) rfl (.cons (t := 11) rfl (.cons (t := 12) rfl (.cons (t := 53) rfl (.cons (t := 54) rfl (.cons (t := 55) rfl .nil))))))))) ?_
              refine swl_nil ?_
              refine then_n ⟨i + 1, ⟨⟨rfl, rfl, rfl, rfl, rfl, rfl, rfl, rfl, rfl, trivial⟩, Split.ent' (by repeat (first | exact Split.nil | (apply Split.cons; (repeat (first | with_reducible exact Take.here | apply Take.there))))), h56'⟩, ?_⟩
              show al.length - (i + 1) < al.length - i; omega
            · skip   -- 127 F
              refine s_off rfl rfl rfl ?_
              refine s_off rfl rfl rfl ?_
              refine s_off rfl rfl rfl ?_
              first | refine s_pu (pu_pick_t rfl rfl) ?_ | refine s_pu (pu_pick_f rfl rfl) ?_
              refine s_pu (pu_assign rfl) ?_
              refine swl_sub _ (.cons (t := 7) rfl (.cons (t := 8) rfl (.cons (t := 9) rfl (.cons (t := 10) rfl (.cons (t := 11) rfl (.cons (t := 12) rfl (.cons (t := 53) rfl (.cons (t := 54) rfl (.cons (t := 55) rfl (.cons (t := 98) rfl .nil)))))))))) ?_
              refine swl_nil ?_
              refine then_n ?_
              refine swp_cond (b := _) rfl (fun h98 => by first | (cases h98; done) | (clear gx gy gz hlook hgood h3 r53 r8 r9 rb ro_ rt; grind)) (fun h98 => ?_)
              refine swp_skip ?_
              refine block_n ?_
              refine block_n ?_
              refine then_n ?_
              refine swp_region ?_
              refine s_pu (pu_add_as ((i + 1 : Nat) : Int) rfl rfl (by omega) (by omega) (by omega)) ?_
              refine s_pu (pu_move rfl) ?_
              refine swl_sub _ (.cons (t := 7) rfl (.cons (t := 8) rfl (.cons (t := 9) rfl (.cons (t := 10) rfl (.cons (t := 11) rfl (.cons (t := 12) rfl (.cons (t := 53) rfl (.cons (t := 54) rfl (.cons (t := 55) rfl .nil))))))))) ?_
              refine swl_nil ?_
              refine then_n ⟨i + 1, ⟨⟨rfl, rfl, rfl, rfl, rfl, rfl, rfl, rfl, rfl, trivial⟩, Split.ent' (by repeat (first | exact Split.nil | (apply Split.cons; (repeat (first | with_reducible exact Take.here | apply Take.there))))), h56'⟩, ?_⟩
              show al.length - (i + 1) < al.length - i; omega
          · skip   -- 122 F
            refine s_off rfl rfl rfl ?_
            refine s_off rfl rfl rfl ?_
            refine s_off rfl rfl rfl ?_
            first | refine s_pu (pu_pick_t rfl rfl) ?_ | refine s_pu (pu_pick_f rfl rfl) ?_
            refine s_pu (pu_move rfl) ?_
            refine s_split 127 rfl (fun h127 => ?_) (fun h127 => ?_)
            · skip   -- 127 T
              refine s_on rfl rfl ?_
              refine s_pu (pu_move rfl) ?_
              refine s_on rfl rfl ?_
              refine s_pu (pu_move rfl) ?_
              refine s_on rfl rfl ?_
              refine s_pu (pu_neq rfl rfl) ?_
              first | refine s_pu (pu_pick_t rfl rfl) ?_ | refine s_pu (pu_pick_f rfl rfl) ?_
              refine s_pu (pu_assign rfl) ?_
              refine swl_sub _ (.cons (t := 7) rfl (.cons (t := 8) rfl (.cons (t := 9) rfl (.cons (t := 10) rfl (.cons (t := 11) rfl (.cons (t := 12) rfl (.cons (t := 53) rfl (.cons (t := 54) rfl (.cons (t := 55) rfl (.cons (t := 98) rfl .nil)))))))))) ?_
              refine swl_nil ?_
              refine then_n ?_
              refine swp_cond (b := _) rfl (fun h98 => by first | (cases h98; done) | (clear gx gy gz hlook hgood h3 r53 r8 r9 rb ro_ rt; grind)) (fun h98 => ?_)
              refine swp_skip ?_
              refine block_n ?_
              refine block_n ?_
              refine then_n ?_
              refine swp_region ?_
              refine s_pu (pu_add_as ((i + 1 : Nat) : Int) rfl rfl (by omega) (by omega) (by omega)) ?_
              refine s_pu (pu_move rfl) ?_
              refine swl_sub _ (.cons (t := 7) rfl (.cons (t := 8) rfl (.cons (t := 9) rfl (.cons (t := 10) rfl (.cons (t := 11) rfl (.cons (t := 12) rfl (.cons (t := 53) rfl (.cons (t := 54) rfl (.cons (t := 55) rfl .nil))))))))) ?_
              refine swl_nil ?_
              refine then_n ⟨i + 1, ⟨⟨rfl, rfl, rfl, rfl, rfl, rfl, rfl, rfl, rfl, trivial⟩, Split.ent' (by repeat (first | exact Split.nil | (apply Split.cons; (repeat (first | with_reducible exact Take.here | apply Take.there))))), h56'⟩, ?_⟩
              show al.length - (i + 1) < al.length - i; omega
            · skip   -- 127 F
              refine s_off rfl rfl rfl ?_
              refine s_off rfl rfl rfl ?_
              refine s_off rfl rfl rfl ?_
              first | refine s_pu (pu_pick_t rfl rfl) ?_ | refine s_pu (pu_pick_f rfl rfl) ?_
              refine s_pu (pu_assign rfl) ?_
              refine swl_sub _ (.cons (t := 7) rfl (.cons (t := 8) rfl (.cons (t := 9) rfl (.cons (t := 10) rfl (.cons (t := 11) rfl (.cons (t := 12) rfl (.cons (t := 53) rfl (.cons (t := 54) rfl (.cons (t := 55) rfl (.cons (t := 98) rfl .nil)))))))))) ?_
              refine swl_nil ?_
              refine then_n ?_
              refine swp_cond (b := _) rfl (fun h98 => by first | (cases h98; done) | (clear gx gy gz hlook hgood h3 r53 r8 r9 rb ro_ rt; grind)) (fun h98 => ?_)
              refine swp_skip ?_
              refine block_n ?_
              refine block_n ?_
              refine then_n ?_
              refine swp_region ?_
              refine s_pu (pu_add_as ((i + 1 : Nat) : Int) rfl rfl (by omega) (by omega) (by omega)) ?_
              refine s_pu (pu_move rfl) ?_
              refine swl_sub _ (.cons (t := 7) rfl (.cons (t := 8) rfl (.cons (t := 9) rfl (.cons (t := 10) rfl (.cons (t := 11) rfl (.cons (t := 12) rfl (.cons (t := 53) rfl (.cons (t := 54) rfl (.cons (t := 55) rfl .nil))))))))) ?_
              refine swl_nil ?_
              refine then_n ⟨i + 1, ⟨⟨rfl, rfl, rfl, rfl, rfl, rfl, rfl, rfl, rfl, trivial⟩, Split.ent' (by repeat (first | exact Split.nil | (apply Split.cons; (repeat (first | with_reducible exact Take.here | apply Take.there))))), h56'⟩, ?_⟩
              show al.length - (i + 1) < al.length - i; omega
        · skip   -- 115 F
          refine s_off rfl rfl rfl ?_
          refine s_off rfl rfl rfl ?_
          refine s_off rfl rfl rfl ?_
          first | refine s_pu (pu_pick_t rfl rfl) ?_ | refine s_pu (pu_pick_f rfl rfl) ?_
          refine s_pu (pu_assign rfl) ?_
          refine swl_sub _ (.cons (t := 7) rfl (.cons (t := 8) rfl (.cons (t := 9) rfl (.cons (t := 10) rfl (.cons (t := 11) rfl (.cons (t := 12) rfl (.cons (t := 15) rfl (.cons (t := 16) rfl (.cons (t := 18) rfl (.cons (t := 19) rfl (.cons (t := 53) rfl (.cons (t := 54) rfl (.cons (t := 55) rfl (.cons (t := 98) rfl .nil)))))))))))))) ?_
          refine swl_nil ?_
          refine then_n ?_
          refine swp_cond (b := _) rfl (fun h98 => by first | (cases h98; done) | (clear gx gy gz hlook hgood h3 r53 r8 r9 rb ro_ rt; grind)) (fun h98 => ?_)
          refine swp_region ?_
          refine s_pu (pu_move rfl) ?_
          refine s_pu (pu_not rfl) ?_
          refine s_pu (pu_move rfl) ?_
          refine s_split 122 rfl (fun h122 => ?_) (fun h122 => ?_)
          · skip   -- 122 T
            refine s_on rfl rfl ?_
            refine s_pu (pu_move rfl) ?_
            refine s_on rfl rfl ?_
            refine s_pu (pu_move rfl) ?_
            refine s_on rfl rfl ?_
            refine s_pu (pu_neq rfl rfl) ?_
            first | refine s_pu (pu_pick_t rfl rfl) ?_ | refine s_pu (pu_pick_f rfl rfl) ?_
            refine s_pu (pu_move rfl) ?_
            refine s_split 127 rfl (fun h127 => ?_) (fun h127 => ?_)
            · skip   -- 127 T
              refine s_on rfl rfl ?_
              refine s_pu (pu_move rfl) ?_
              refine s_on rfl rfl ?_
              refine s_pu (pu_move rfl) ?_
              refine s_on rfl rfl ?_
              refine s_pu (pu_neq rfl rfl) ?_
              first | refine s_pu (pu_pick_t rfl rfl) ?_ | refine s_pu (pu_pick_f rfl rfl) ?_
              refine s_pu (pu_assign rfl) ?_
              refine swl_sub _ (.cons (t := 7) rfl (.cons (t := 8) rfl (.cons (t := 9) rfl (.cons (t := 10) rfl (.cons (t := 11) rfl (.cons (t := 12) rfl (.cons (t := 53) rfl (.cons (t := 54) rfl (.cons (t := 55) rfl (.cons (t := 98) rfl .nil)))))))))) ?_
              refine swl_nil ?_
              refine then_n ?_
              refine swp_cond (b := _) rfl (fun h98 => by first | (cases h98; done) | (clear gx gy gz hlook hgood h3 r53 r8 r9 rb ro_ rt; grind)) (fun h98 => ?_)
              refine swp_skip ?_
              refine block_n ?_
              refine block_n ?_
              refine then_n ?_
              refine swp_region ?_
              refine s_pu (pu_add_as ((i + 1 : Nat) : Int) rfl rfl (by omega) (by omega) (by omega)) ?_
              refine s_pu (pu_move rfl) ?_
              refine swl_sub _ (.cons (t := 7) rfl (.cons (t := 8) rfl (.cons (t := 9) rfl (.cons (t := 10) rfl (.cons (t := 11) rfl (.cons (t := 12) rfl (.cons (t := 53) rfl (.cons (t := 54) rfl (.cons (t := 55) rfl .nil))))))))) ?_
              refine swl_nil ?_
              refine then_n ⟨i + 1, ⟨⟨rfl, rfl, rfl, rfl, rfl, rfl, rfl, rfl, rfl, trivial⟩, Split.ent' (by repeat (first | exact Split.nil | (apply Split.cons; (repeat (first | with_reducible exact Take.here | apply Take.there))))), h56'⟩, ?_⟩
              show al.length - (i + 1) < al.length - i; omega
            · skip   -- 127 F
              refine s_off rfl rfl rfl ?_
              refine s_off rfl rfl rfl ?_
              refine s_off rfl rfl rfl ?_
              first | refine s_pu (pu_pick_t rfl rfl) ?_ | refine s_pu (pu_pick_f rfl rfl) ?_
              refine s_pu (pu_assign rfl) ?_
              refine swl_sub _ (.cons (t := 7) rfl (.cons (t := 8) rfl (.cons (t := 9) rfl (.cons (t := 10) rfl (.cons (t := 11) rfl (.cons (t := 12) rfl (.cons (t := 53) rfl (.cons (t := 54) rfl (.cons (t := 55) rfl (.cons (t := 98) rfl .nil)))))))))) ?_
              refine swl_nil ?_
              refine then_n ?_
              refine swp_cond (b := _) rfl (fun h98 => by first | (cases h98; done) | (clear gx gy gz hlook hgood h3 r53 r8 r9 rb ro_ rt; grind)) (fun h98 => ?_)
              refine swp_skip ?_
              refine block_n ?_
              refine block_n ?_
              refine then_n ?_
              refine swp_region ?_
              refine s_pu (pu_add_as ((i + 1 : Nat) : Int) rfl rfl (by omega) (by omega) (by omega)) ?_
              refine s_pu (pu_move rfl) ?_
              refine swl_sub _ (.cons (t := 7) rfl (.cons (t := 8) rfl (.cons (t := 9) rfl (.cons (t := 10) rfl (.cons (t := 11) rfl (.cons (t := 12) rfl (.cons (t := 53) rfl (.cons (t := 54) rfl (.cons (t := 55) rfl .nil))))))))) ?_
              refine swl_nil ?_
              refine then_n ⟨i + 1, ⟨⟨rfl, rfl, rfl, rfl, rfl, rfl, rfl, rfl, rfl, trivial⟩, Split.ent' (by repeat (first | exact Split.nil | (apply Split.cons; (repeat (first | with_reducible exact Take.here | apply Take.there))))), h56'⟩, ?_⟩
              show al.length - (i + 1) < al.length - i; omega
          · skip   -- 122 F
            refine s_off rfl rfl rfl ?_
            refine s_off rfl rfl rfl ?_
            refine s_off rfl rfl rfl ?_
            first | refine s_pu (pu_pick_t rfl rfl) ?_ | refine s_pu (pu_pick_f rfl rfl) ?_
            refine s_pu (pu_move rfl) ?_
            refine s_split 127 rfl (fun h127 => ?_) (fun h127 => ?_)
            · skip   -- 127 T
              refine s_on rfl rfl ?_
              refine s_pu (pu_move rfl) ?_
              refine s_on rfl rfl ?_
              refine s_pu (pu_move rfl) ?_
              refine s_on rfl rfl ?_
              refine s_pu (pu_neq rfl rfl) ?_
              first | refine s_pu (pu_pick_t rfl rfl) ?_ | refine s_pu (pu_pick_f rfl rfl) ?_
              refine s_pu (pu_assign rfl) ?_
              refine swl_sub _ (.cons (t := 7) rfl (.cons (t := 8) rfl (.cons (t := 9) rfl (.cons (t := 10) rfl (.cons (t := 11) rfl (.cons (t := 12) rfl (.cons (t := 53) rfl (.cons (t := 54) rfl (.cons (t := 55) rfl (.cons (t := 98) rfl .nil)))))))))) ?_
              refine swl_nil ?_
              refine then_n ?_
              refine swp_cond (b := _) rfl (fun h98 => by first | (cases h98; done) | (clear gx gy gz hlook hgood h3 r53 r8 r9 rb ro_ rt; grind)) (fun h98 => ?_)
              refine swp_skip ?_
              refine block_n ?_
              refine block_n ?_
              refine then_n ?_
              refine swp_region ?_
              refine s_pu (pu_add_as ((i + 1 : Nat) : Int) rfl rfl (by omega) (by omega) (by omega)) ?_
              refine s_pu (pu_move rfl) ?_
              refine swl_sub _ (.cons (t := 7) rfl (.cons (t := 8) rfl (.cons (t := 9) rfl (.cons (t := 10) rfl (.cons (t := 11) rfl (.cons (t := 12) rfl (.cons (t := 53) rfl (.cons (t := 54) rfl (.cons (t := 55) rfl .nil))))))))) ?_
              refine swl_nil ?_
              refine then_n ⟨i + 1, ⟨⟨rfl, rfl, rfl, rfl, rfl, rfl, rfl, rfl, rfl, trivial⟩, Split.ent' (by repeat (first | exact Split.nil | (apply Split.cons; (repeat (first | with_reducible exact Take.here | apply Take.there))))), h56'⟩, ?_⟩
              show al.length - (i + 1) < al.length - i; omega
            · skip   -- 127 F
              refine s_off rfl rfl rfl ?_
              refine s_off rfl rfl rfl ?_
              refine s_off rfl rfl rfl ?_
              first | refine s_pu (pu_pick_t rfl rfl) ?_ | refine s_pu (pu_pick_f rfl rfl) ?_
              refine s_pu (pu_assign rfl) ?_
              refine swl_sub _ (.cons (t := 7) rfl (.cons (t := 8) rfl (.cons (t := 9) rfl (.cons (t := 10) rfl (.cons (t := 11) rfl (.cons (t := 12) rfl (.cons (t := 53) rfl (.cons (t := 54) rfl (.cons (t := 55) rfl (.cons (t := 98) rfl .nil)))))))))) ?_
              refine swl_nil ?_
              refine then_n ?_
              refine swp_cond (b := _) rfl (fun h98 => by first | (cases h98; done) | (clear gx gy gz hlook hgood h3 r53 r8 r9 rb ro_ rt; grind)) (fun h98 => ?_)
              refine swp_skip ?_
              refine block_n ?_
              refine block_n ?_
              refine then_n ?_
              refine swp_region ?_
              refine s_pu (pu_add_as ((i + 1 : Nat) : Int) rfl rfl (by omega) (by omega) (by omega)) ?_
              refine s_pu (pu_move rfl) ?_
              refine swl_sub _ (.cons (t := 7) rfl (.cons (t := 8) rfl (.cons (t := 9) rfl (.cons (t := 10) rfl (.cons (t := 11) rfl (.cons (t := 12) rfl (.cons (t := 53) rfl (.cons (t := 54) rfl (.cons (t := 55) rfl .nil))))))))) ?_
              refine swl_nil ?_
              refine then_n ⟨i + 1, ⟨⟨rfl, rfl, rfl, rfl, rfl, rfl, rfl, rfl, rfl, trivial⟩, Split.ent' (by repeat (first | exact Split.nil | (apply Split.cons; (repeat (first | with_reducible exact Take.here | apply Take.there))))), h56'⟩, ?_⟩
              show al.length - (i + 1) < al.length - i; omega
    · skip   -- 100 F
      refine s_off rfl rfl rfl ?_
      refine s_off rfl rfl rfl ?_
      refine s_off rfl rfl rfl ?_
      refine s_off rfl rfl rfl ?_
      refine s_off rfl rfl rfl ?_
      refine s_off rfl rfl rfl ?_
      first | refine s_pu (pu_pick_t rfl rfl) ?_ | refine s_pu (pu_pick_f rfl rfl) ?_
      refine s_pu (pu_assign rfl) ?_
      refine swl_sub _ (.cons (t := 7) rfl (.cons (t := 8) rfl (.cons (t := 9) rfl (.cons (t := 10) rfl (.cons (t := 11) rfl (.cons (t := 12) rfl (.cons (t := 15) rfl (.cons (t := 16) rfl (.cons (t := 17) rfl (.cons (t := 18) rfl (.cons (t := 19) rfl (.cons (t := 53) rfl (.cons (t := 54) rfl (.cons (t := 55) rfl (.cons (t := 98) rfl .nil))))))))))))))) ?_
      refine swl_nil ?_
      refine then_n ?_
      refine swp_cond (b := _) rfl (fun h98 => by first | (cases h98; done) | (clear gx gy gz hlook hgood h3 r53 r8 r9 rb ro_ rt; grind)) (fun h98 => ?_)
      refine swp_seq ?_
      refine swp_region ?_
      refine s_pu (pu_move rfl) ?_
      refine s_pu (pu_not rfl) ?_
      refine s_pu (pu_move rfl) ?_
      refine s_split 110 rfl (fun h110 => ?_) (fun h110 => ?_)
      · skip   -- 110 T
        refine s_on rfl rfl ?_
        refine s_pu (pu_move rfl) ?_
        refine s_on rfl rfl ?_
        refine s_pu (pu_move rfl) ?_
        refine s_on rfl rfl ?_
        refine s_pu (pu_eql rfl rfl) ?_
        first | refine s_pu (pu_pick_t rfl rfl) ?_ | refine s_pu (pu_pick_f rfl rfl) ?_
        refine s_pu (pu_move rfl) ?_
        refine s_split 115 rfl (fun h115 => ?_) (fun h115 => ?_)
        · skip   -- 115 T
          refine s_on rfl rfl ?_
          refine s_pu (pu_move rfl) ?_
          refine s_on rfl rfl ?_
          refine s_pu (pu_move rfl) ?_
          refine s_on rfl rfl ?_
          refine s_pu (pu_neq rfl rfl) ?_
          first | refine s_pu (pu_pick_t rfl rfl) ?_ | refine s_pu (pu_pick_f rfl rfl) ?_
          refine s_pu (pu_assign rfl) ?_
          refine swl_sub _ (.cons (t := 7) rfl (.cons (t := 8) rfl (.cons (t := 9) rfl (.cons (t := 10) rfl (.cons (t := 11) rfl (.cons (t := 12) rfl (.cons (t := 15) rfl (.cons (t := 16) rfl (.cons (t := 18) rfl (.cons (t := 19) rfl (.cons (t := 53) rfl (.cons (t := 54) rfl (.cons (t := 55) rfl (.cons (t := 98) rfl .nil)))))))))))))) ?_
          refine swl_nil ?_
          refine then_n ?_
          refine swp_cond (b := _) rfl (fun h98 => by first | (cases h98; done) | (clear gx gy gz hlook hgood h3 r53 r8 r9 rb ro_ rt; grind)) (fun h98 => ?_)
          refine swp_region ?_
          refine s_pu (pu_move rfl) ?_
          refine s_pu (pu_not rfl) ?_
          refine s_pu (pu_move rfl) ?_
          refine s_split 122 rfl (fun h122 => ?_) (fun h122 => ?_)
          · skip   -- 122 T
            refine s_on rfl rfl ?_
            refine s_pu (pu_move rfl) ?_
            refine s_on rfl rfl ?_
            refine s_pu (pu_move rfl) ?_
            refine s_on rfl rfl ?_
            refine s_pu (pu_neq rfl rfl) ?_
            first | refine s_pu (pu_pick_t rfl rfl) ?_ | refine s_pu (pu_pick_f rfl rfl) ?_
            refine s_pu (pu_move rfl) ?_
            refine s_split 127 rfl (fun h127 => ?_) (fun h127 => ?_)
            · skip   -- 127 T
              refine s_on rfl rfl ?_
              refine s_pu (pu_move rfl) ?_
              refine s_on rfl rfl ?_
              refine s_pu (pu_move rfl) ?_
              refine s_on rfl rfl ?_
              refine s_pu (pu_neq rfl rfl) ?_
              first | refine s_pu (pu_pick_t rfl rfl) ?_ | refine s_pu (pu_pick_f rfl rfl) ?_
              refine s_pu (pu_assign rfl) ?_
              refine swl_sub _ (.cons (t := 7) rfl (.cons (t := 8) rfl (.cons (t := 9) rfl (.cons (t := 10) rfl (.cons (t := 11) rfl (.cons (t := 12) rfl (.cons (t := 53) rfl (.cons (t := 54) rfl (.cons (t := 55) rfl (.cons (t := 98) rfl .nil)))))))))) ?_
              refine swl_nil ?_
              refine then_n ?_
              refine swp_cond (b := _) rfl (fun h98 => by first | (cases h98; done) | (clear gx gy gz hlook hgood h3 r53 r8 r9 rb ro_ rt; grind)) (fun h98 => ?_)
              refine swp_skip ?_
              refine block_n ?_
              refine block_n ?_
              refine then_n ?_
              refine swp_region ?_
              refine s_pu (pu_add_as ((i + 1 : Nat) : Int) rfl rfl (by omega) (by omega) (by omega)) ?_
              refine s_pu (pu_move rfl) ?_
              refine swl_sub _ (.cons (t := 7) rfl (.cons (t := 8) rfl (.cons (t := 9) rfl (.cons (t := 10) rfl (.cons (t := 11) rfl (.cons (t := 12) rfl (.cons (t := 53) rfl (.cons (t := 54) rfl (.cons (t := 55) rfl .nil))))))))) ?_
              refine swl_nil ?_
              refine then_n ⟨i + 1, ⟨⟨rfl, rfl, rfl, rfl, rfl, rfl, rfl, rfl, rfl, trivial⟩, Split.ent' (by repeat (first | exact Split.nil | (apply Split.cons; (repeat (first | with_reducible exact Take.here | apply Take.there))))), h56'⟩, ?_⟩
              show al.length - (i + 1) < al.length - i; omega
            · skip   -- 127 F
              refine s_off rfl rfl rfl ?_
              refine s_off rfl rfl rfl ?_
              refine s_off rfl rfl rfl ?_
              first | refine s_pu (pu_pick_t rfl rfl) ?_ | refine s_pu (pu_pick_f rfl rfl) ?_
              refine s_pu (pu_assign rfl) ?_
              refine swl_sub _ (.cons (t := 7) rfl (.cons (t := 8) rfl (.cons (t := 9) rfl (.cons (t := 10) rfl (.cons (t := 11) rfl (.cons (t := 12) rfl (.cons (t := 53) rfl (.cons (t := 54) rfl (.cons (t := 55) rfl (.cons (t := 98) rfl .nil)))))))))) ?_
              refine swl_nil ?_
              refine then_n ?_
              refine swp_cond (b := _) rfl (fun h98 => by first | (cases h98; done) | (clear gx gy gz hlook hgood h3 r53 r8 r9 rb ro_ rt; grind)) (fun h98 => ?_)
              refine swp_skip ?_
              refine block_n ?_
              refine block_n ?_
              refine then_n ?_
              refine swp_region ?_
              refine s_pu (pu_add_as ((i + 1 : Nat) : Int) rfl rfl (by omega) (by omega) (by omega)) ?_
              refine s_pu (pu_move rfl) ?_
              refine swl_sub _ (.cons (t := 7) rfl (.cons (t := 8) rfl (.cons (t := 9) rfl (.cons (t := 10) rfl (.cons (t := 11) rfl (.cons (t := 12) rfl (.cons (t := 53) rfl (.cons (t := 54) rfl (.cons (t := 55) rfl .nil))))))))) ?_
              refine swl_nil ?_
              refine then_n ⟨i + 1, ⟨⟨rfl, rfl, rfl, rfl, rfl, rfl, rfl, rfl, rfl, trivial⟩, Split.ent' (by repeat (first | exact Split.nil | (apply Split.cons; (repeat (first | with_reducible exact Take.here | apply Take.there))))), h56'⟩, ?_⟩
              show al.length - (i + 1) < al.length - i; omega
          · skip   -- 122 F
            refine s_off rfl rfl rfl ?_
            refine s_off rfl rfl rfl ?_
            refine s_off rfl rfl rfl ?_
            first | refine s_pu (pu_pick_t rfl rfl) ?_ | refine s_pu (pu_pick_f rfl rfl) ?_
            refine s_pu (pu_move rfl) ?_
            refine s_split 127 rfl (fun h127 => ?_) (fun h127 => ?_)
            · skip   -- 127 T
              refine s_on rfl rfl ?_
              refine s_pu (pu_move rfl) ?_
              refine s_on rfl rfl ?_
              refine s_pu (pu_move rfl) ?_
              refine s_on rfl rfl ?_
              refine s_pu (pu_neq rfl rfl) ?_
              first | refine s_pu (pu_pick_t rfl rfl) ?_ | refine s_pu (pu_pick_f rfl rfl) ?_
              refine s_pu (pu_assign rfl) ?_
              refine swl_sub _ (.cons (t := 7) rfl (.cons (t := 8) rfl (.cons (t := 9) rfl (.cons (t := 10) rfl (.cons (t := 11) rfl (.cons (t := 12) rfl (.cons (t := 53) rfl (.cons (t := 54) rfl (.cons (t := 55) rfl (.cons (t := 98) rfl .nil)))))))))) ?_
              refine swl_nil ?_
              refine then_n ?_
              refine swp_cond (b := _) rfl (fun h98 => by first | (cases h98; done) | (clear gx gy gz hlook hgood h3 r53 r8 r9 rb ro_ rt; grind)) (fun h98 => ?_)
              refine swp_skip ?_
              refine block_n ?_
              refine block_n ?_
              refine then_n ?_
              refine swp_region ?_
              refine s_pu (pu_add_as ((i + 1 : Nat) : Int) rfl rfl (by omega) (by omega) (by omega)) ?_
              refine s_pu (pu_move rfl) ?_
              refine swl_sub _ (.cons (t := 7) rfl (.cons (t := 8) rfl (.cons (t := 9) rfl (.cons (t := 10) rfl (.cons (t := 11) rfl (.cons (t := 12) rfl (.cons (t := 53) rfl (.cons (t := 54) rfl (.cons (t := 55) rfl .nil))))))))) ?_
              refine swl_nil ?_
              refine then_n ⟨i + 1, ⟨⟨rfl, rfl, rfl, rfl, rfl, rfl, rfl, rfl, rfl, trivial⟩, Split.ent' (by repeat (first | exact Split.nil | (apply Split.cons; (repeat (first | with_reducible exact Take.here | apply Take.there))))), h56'⟩, ?_⟩
              show al.length - (i + 1) < al.length - i; omega
            · skip   -- 127 F
              refine s_off rfl rfl rfl ?_
              refine s_off rfl rfl rfl ?_
              refine s_off rfl rfl rfl ?_
              first | refine s_pu (pu_pick_t rfl rfl) ?_ | refine s_pu (pu_pick_f rfl rfl) ?_
              refine s_pu (pu_assign rfl) ?_
              refine swl_sub _ (.cons (t := 7) rfl (.cons (t := 8) rfl (.cons (t := 9) rfl (.cons (t := 10) rfl (.cons (t := 11) rfl (.cons (t := 12) rfl (.cons (t := 53) rfl (.cons (t := 54) rfl (.cons (t := 55) rfl (.cons (t := 98) rfl .nil)))))))))) ?_
              refine swl_nil ?_
              refine then_n ?_
              refine swp_cond (b := _) rfl (fun h98 => by first | (cases h98; done) | (clear gx gy gz hlook hgood h3 r53 r8 r9 rb ro_ rt; grind)) (fun h98 => ?_)
              refine swp_skip ?_
              refine block_n ?_
              refine block_n ?_
              refine then_n ?_
              refine swp_region ?_
              refine s_pu (pu_add_as ((i + 1 : Nat) : Int) rfl rfl (by omega) (by omega) (by omega)) ?_
              refine s_pu (pu_move rfl) ?_
              refine swl_sub _ (.cons (t := 7) rfl (.cons (t := 8) rfl (.cons (t := 9) rfl (.cons (t := 10) rfl (.cons (t := 11) rfl (.cons (t := 12) rfl (.cons (t := 53) rfl (.cons (t := 54) rfl (.cons (t := 55) rfl .nil))))))))) ?_
              refine swl_nil ?_
              refine then_n ⟨i + 1, ⟨⟨rfl, rfl, rfl, rfl, rfl, rfl, rfl, rfl, rfl, trivial⟩, Split.ent' (by repeat (first | exact Split.nil | (apply Split.cons; (repeat (first | with_reducible exact Take.here | apply Take.there))))), h56'⟩, ?_⟩
              show al.length - (i + 1) < al.length - i; omega
        · skip   -- 115 F
          refine s_off rfl rfl rfl ?_
          refine s_off rfl rfl rfl ?_
          refine s_off rfl rfl rfl ?_
          first | refine s_pu (pu_pick_t rfl rfl) ?_ | refine s_pu (pu_pick_f rfl rfl) ?_
          refine s_pu (pu_assign rfl) ?_
          refine swl_sub _ (.cons (t := 7) rfl (.cons (t := 8) rfl (.cons (t := 9) rfl (.cons (t := 10) rfl (.cons (t := 11) rfl (.cons (t := 12) rfl (.cons (t := 15) rfl (.cons (t := 16) rfl (.cons (t := 18) rfl (.cons (t := 19) rfl (.cons (t := 53) rfl (.cons (t := 54) rfl (.cons (t := 55) rfl (.cons (t := 98) rfl .nil)))))))))))))) ?_
          refine swl_nil ?_
          refine then_n ?_
          refine swp_cond (b := _) rfl (fun h98 => by first | (cases h98; done) | (clear gx gy gz hlook hgood h3 r53 r8 r9 rb ro_ rt; grind)) (fun h98 => ?_)
          refine swp_region ?_
          refine s_pu (pu_move rfl) ?_
          refine s_pu (pu_not rfl) ?_
          refine s_pu (pu_move rfl) ?_
          refine s_split 122 rfl (fun h122 => ?_) (fun h122 => ?_)
          · skip   -- 122 T
            refine s_on rfl rfl ?_
            refine s_pu (pu_move rfl) ?_
            refine s_on rfl rfl ?_
            refine s_pu (pu_move rfl) ?_
            refine s_on rfl rfl ?_
            refine s_pu (pu_neq rfl rfl) ?_
            first | refine s_pu (pu_pick_t rfl rfl) ?_ | refine s_pu (pu_pick_f rfl rfl) ?_
            refine s_pu (pu_move rfl) ?_
            refine s_split 127 rfl (fun h127 => ?_) (fun h127 => ?_)
            · skip   -- 127 T
              refine s_on rfl rfl ?_
              refine s_pu (pu_move rfl) ?_
              refine s_on rfl rfl ?_
              refine s_pu (pu_move rfl) ?_
              refine s_on rfl rfl ?_
              refine s_pu (pu_neq rfl rfl) ?_
              first | refine s_pu (pu_pick_t rfl rfl) ?_ | refine s_pu (pu_pick_f rfl rfl) ?_
              refine s_pu (pu_assign rfl) ?_
              refine swl_sub _ (.cons (t := 7) rfl (.cons (t := 8) rfl (.cons (t := 9) rfl (.cons (t := 10) rfl (.cons (t := 11) rfl (.cons (t := 12) rfl (.cons (t := 53) rfl (.cons (t := 54) rfl (.cons (t := 55) rfl (.cons (t := 98) rfl .nil)))))))))) ?_
              refine swl_nil ?_
              refine then_n ?_
              refine swp_cond (b := _) rfl (fun h98 => by first | (cases h98; done) | (clear gx gy gz hlook hgood h3 r53 r8 r9 rb ro_ rt; grind)) (fun h98 => ?_)
              refine swp_skip ?_
              refine block_n ?_
              refine block_n ?_
              refine then_n ?_
              refine swp_region ?_
              refine s_pu (pu_add_as ((i + 1 : Nat) : Int) rfl rfl (by omega) (by omega) (by omega)) ?_
              refine s_pu (pu_move rfl) ?_
              refine swl_sub _ (.cons (t := 7) rfl (.cons (t := 8) rfl (.cons (t := 9) rfl (.cons (t := 10) rfl (.cons (t := 11) rfl (.cons (t := 12) rfl (.cons (t := 53) rfl (.cons (t := 54) rfl (.cons (t := 55) rfl .nil))))))))) ?_
              refine swl_nil ?_
              refine then_n ⟨i + 1, ⟨⟨rfl, rfl, rfl, rfl, rfl, rfl, rfl, rfl, rfl, trivial⟩, Split.ent' (by repeat (first | exact Split.nil | (apply Split.cons; (repeat (first | with_reducible exact Take.here | apply Take.there))))), h56'⟩, ?_⟩
              show al.length - (i + 1) < al.length - i; omega
            · skip   -- 127 F
              refine s_off rfl rfl rfl ?_
              refine s_off rfl rfl rfl ?_
              refine s_off rfl rfl rfl ?_
              first | refine s_pu (pu_pick_t rfl rfl) ?_ | refine s_pu (pu_pick_f rfl rfl) ?_
              refine s_pu (pu_assign rfl) ?_
              refine swl_sub _ (.cons (t := 7) rfl (.cons (t := 8) rfl (.cons (t := 9) rfl (.cons (t := 10) rfl (.cons (t := 11) rfl (.cons (t := 12) rfl (.cons (t := 53) rfl (.cons (t := 54) rfl (.cons (t := 55) rfl (.cons (t := 98) rfl .nil)))))))))) ?_
              refine swl_nil ?_
              refine then_n ?_
              refine swp_cond (b := _) rfl (fun h98 => by first | (cases h98; done) | (clear gx gy gz hlook hgood h3 r53 r8 r9 rb ro_ rt; grind)) (fun h98 => ?_)
              refine swp_skip ?_
              refine block_n ?_
              refine block_n ?_
              refine then_n ?_
              refine swp_region ?_
              refine s_pu (pu_add_as ((i + 1 : Nat) : Int) rfl rfl (by omega) (by omega) (by omega)) ?_
              refine s_pu (pu_move rfl) ?_
              refine swl_sub _ (.cons (t := 7) rfl (.cons (t := 8) rfl (.cons (t := 9) rfl (.cons (t := 10) rfl (.cons (t := 11) rfl (.cons (t := 12) rfl (.cons (t := 53) rfl (.cons (t := 54) rfl (.cons (t := 55) rfl .nil))))))))) ?_
              refine swl_nil ?_
              refine then_n ⟨i + 1, ⟨⟨rfl, rfl, rfl, rfl, rfl, rfl, rfl, rfl, rfl, trivial⟩, Split.ent' (by repeat (first | exact Split.nil | (apply Split.cons; (repeat (first | with_reducible exact Take.here | apply Take.there))))), h56'⟩, ?_⟩
              show al.length - (i + 1) < al.length - i; omega
          · skip   -- 122 F
            refine s_off rfl rfl rfl ?_
            refine s_off rfl rfl rfl ?_
            refine s_off rfl rfl rfl ?_
            first | refine s_pu (pu_pick_t rfl rfl) ?_ | refine s_pu (pu_pick_f rfl rfl) ?_
            refine s_pu (pu_move rfl) ?_
            refine s_split 127 rfl (fun h127 => ?_) (fun h127 => ?_)
            · skip   -- 127 T
              refine s_on rfl rfl ?_
              refine s_pu (pu_move rfl) ?_
              refine s_on rfl rfl ?_
              refine s_pu (pu_move rfl) ?_
              refine s_on rfl rfl ?_
              refine s_pu (pu_neq rfl rfl) ?_
              first | refine s_pu (pu_pick_t rfl rfl) ?_ | refine s_pu (pu_pick_f rfl rfl) ?_
              refine s_pu (pu_assign rfl) ?_
              refine swl_sub _ (.cons (t := 7) rfl (.cons (t := 8) rfl (.cons (t := 9) rfl (.cons (t := 10) rfl (.cons (t := 11) rfl (.cons (t := 12) rfl (.cons (t := 53) rfl (.cons (t := 54) rfl (.cons (t := 55) rfl (.cons (t := 98) rfl .nil)))))))))) ?_
              refine swl_nil ?_
              refine then_n ?_
              refine swp_cond (b := _) rfl (fun h98 => by first | (cases h98; done) | (clear gx gy gz hlook hgood h3 r53 r8 r9 rb ro_ rt; grind)) (fun h98 => ?_)
              refine swp_skip ?_
              refine block_n ?_
              refine block_n ?_
              refine then_n ?_
              refine swp_region ?_
              refine s_pu (pu_add_as ((i + 1 : Nat) : Int) rfl rfl (by omega) (by omega) (by omega)) ?_
              refine s_pu (pu_move rfl) ?_
              refine swl_sub _ (.cons (t := 7) rfl (.cons (t := 8) rfl (.cons (t := 9) rfl (.cons (t := 10) rfl (.cons (t := 11) rfl (.cons (t := 12) rfl (.cons (t := 53) rfl (.cons (t := 54) rfl (.cons (t := 55) rfl .nil))))))))) ?_
              refine swl_nil ?_
              refine then_n ⟨i + 1, ⟨⟨rfl, rfl, rfl, rfl, rfl, rfl, rfl, rfl, rfl, trivial⟩, Split.ent' (by repeat (first | exact Split.nil | (apply Split.cons; (repeat (first | with_reducible exact Take.here | apply Take.there))))), h56'⟩, ?_⟩
              show al.length - (i + 1) < al.length - i; omega
            · skip   -- 127 F
              refine s_off rfl rfl rfl ?_
              refine s_off rfl rfl rfl ?_
              refine s_off rfl rfl rfl ?_
              first | refine s_pu (pu_pick_t rfl rfl) ?_ | refine s_pu (pu_pick_f rfl rfl) ?_
              refine s_pu (pu_assign rfl) ?_
              refine swl_sub _ (.cons (t := 7) rfl (.cons (t := 8) rfl (.cons (t := 9) rfl (.cons (t := 10) rfl (.cons (t := 11) rfl (.cons (t := 12) rfl (.cons (t := 53) rfl (.cons (t := 54) rfl (.cons (t := 55) rfl (.cons (t := 98) rfl .nil)))))))))) ?_
              refine swl_nil ?_
              refine then_n ?_
              refine swp_cond (b := _) rfl (fun h98 => by first | (cases h98; done) | (clear gx gy gz hlook hgood h3 r53 r8 r9 rb ro_ rt; grind)) (fun h98 => ?_)
              refine swp_skip ?_
              refine block_n ?_
              refine block_n ?_
              refine then_n ?_
              refine swp_region ?_
              refine s_pu (pu_add_as ((i + 1 : Nat) : Int) rfl rfl (by omega) (by omega) (by omega)) ?_
              refine s_pu (pu_move rfl) ?_
              refine swl_sub _ (.cons (t := 7) rfl (.cons (t := 8) rfl (.cons (t := 9) rfl (.cons (t := 10) rfl (.cons (t := 11) rfl (.cons (t := 12) rfl (.cons (t := 53) rfl (.cons (t := 54) rfl (.cons (t := 55) rfl .nil))))))))) ?_
              refine swl_nil ?_
              refine then_n ⟨i + 1, ⟨⟨rfl, rfl, rfl, rfl, rfl, rfl, rfl, rfl, rfl, trivial⟩, Split.ent' (by repeat (first | exact Split.nil | (apply Split.cons; (repeat (first | with_reducible exact Take.here | apply Take.there))))), h56'⟩, ?_⟩
              show al.length - (i + 1) < al.length - i; omega
      · skip   -- 110 F
        refine s_off rfl rfl rfl ?_
        refine s_off rfl rfl rfl ?_
        refine s_off rfl rfl rfl ?_
        first | refine s_pu (pu_pick_t rfl rfl) ?_ | refine s_pu (pu_pick_f rfl rfl) ?_
        refine s_pu (pu_move rfl) ?_
        refine s_split 115 rfl (fun h115 => ?_) (fun h115 => ?_)
        · skip   -- 115 T
          refine s_on rfl rfl ?_
          refine s_pu (pu_move rfl) ?_
          refine s_on rfl rfl ?_
          refine s_pu (pu_move rfl) ?_
          refine s_on rfl rfl ?_
          refine s_pu (pu_neq rfl rfl) ?_
          first | refine s_pu (pu_pick_t rfl rfl) ?_ | refine s_pu (pu_pick_f rfl rfl) ?_
          refine s_pu (pu_assign rfl) ?_
          refine swl_sub _ (.cons (t := 7) rfl (.cons (t := 8) rfl (.cons (t := 9) rfl (.cons (t := 10) rfl (.cons (t := 11) rfl (.cons (t := 12) rfl (.cons (t := 15) rfl (.cons (t := 16) rfl (.cons (t := 18) rfl (.cons (t := 19) rfl (.cons (t := 53) rfl (.cons (t := 54) rfl (.cons (t := 55) rfl (.cons (t := 98) rfl .nil)))))))))))))) ?_
          refine swl_nil ?_
          refine then_n ?_
          refine swp_cond (b := _) rfl (fun h98 => by first | (cases h98; done) | (clear gx gy gz hlook hgood h3 r53 r8 r9 rb ro_ rt; grind)) (fun h98 => ?_)
          refine swp_region ?_
          refine s_pu (pu_move rfl) ?_
          refine s_pu (pu_not rfl) ?_
          refine s_pu (pu_move rfl) ?_
          refine s_split 122 rfl (fun h122 => ?_) (fun h122 => ?_)
          · skip   -- 122 T
            refine s_on rfl rfl ?_
            refine s_pu (pu_move rfl) ?_
            refine s_on rfl rfl ?_
            refine s_pu (pu_move rfl) ?_
            refine s_on rfl rfl ?_
            refine s_pu (pu_neq rfl rfl) ?_
            first | refine s_pu (pu_pick_t rfl rfl) ?_ | refine s_pu (pu_pick_f rfl rfl) ?_
            refine s_pu (pu_move rfl) ?_
            refine s_split 127 rfl (fun h127 => ?_) (fun h127 => ?_)
            · skip   -- 127 T
              refine s_on rfl rfl ?_
              refine s_pu (pu_move rfl) ?_
              refine s_on rfl rfl ?_
              refine s_pu (pu_move rfl) ?_
              refine s_on rfl rfl ?_
              refine s_pu (pu_neq rfl rfl) ?_
              first | refine s_pu (pu_pick_t rfl rfl) ?_ | refine s_pu (pu_pick_f rfl rfl) ?_
              refine s_pu (pu_assign rfl) ?_
              refine swl_sub _ (.cons (t := 7) rfl (.cons (t := 8) rfl (.cons (t := 9) rfl (.cons (t := 10) rfl (.cons (t := 11) rfl (.cons (t := 12) rfl (.cons (t := 53) rfl (.cons (t := 54) rfl (.cons (t := 55) rfl (.cons (t := 98) rfl .nil)))))))))) ?_
              refine swl_nil ?_
              refine then_n ?_
              refine swp_cond (b := _) rfl (fun h98 => by first | (cases h98; done) | (clear gx gy gz hlook hgood h3 r53 r8 r9 rb ro_ rt; grind)) (fun h98 => ?_)
              refine swp_skip ?_
              refine block_n ?_
              refine block_n ?_
              refine then_n ?_
              refine swp_region ?_
              refine s_pu (pu_add_as ((i + 1 : Nat) : Int) rfl rfl (by omega) (by omega) (by omega)) ?_
              refine s_pu (pu_move rfl) ?_
              refine swl_sub _ (.cons (t := 7) rfl (.cons (t := 8) rfl (.cons (t := 9) rfl (.cons (t := 10) rfl (.cons (t := 11) rfl (.cons (t := 12) rfl (.cons (t := 53) rfl (.cons (t := 54) rfl (.cons (t := 55) rfl .nil))))))))) ?_
              refine swl_nil ?_
              refine then_n ⟨i + 1, ⟨⟨rfl, rfl, rfl, rfl, rfl, rfl, rfl, rfl, rfl, trivial⟩, Split.ent' (by repeat (first | exact Split.nil | (apply Split.cons; (repeat (first | with_reducible exact Take.here | apply Take.there))))), h56'⟩, ?_⟩
              show al.length - (i + 1) < al.length - i; omega
            · skip   -- 127 F
              refine s_off rfl rfl rfl ?_
              refine s_off rfl rfl rfl ?_
              refine s_off rfl rfl rfl ?_
              first | refine s_pu (pu_pick_t rfl rfl) ?_ | refine s_pu (pu_pick_f rfl rfl) ?_
              refine s_pu (pu_assign rfl) ?_
              refine swl_sub _ (.cons (t := 7) rfl (.cons (t := 8) rfl (.cons (t := 9) rfl (.cons (t := 10) rfl (.cons (t := 11) rfl (.cons (t := 12) rfl (.cons (t := 53) rfl (.cons (t := 54) rfl (.cons (t := 55) rfl (.cons (t := 98) rfl .nil)))))))))) ?_
              refine swl_nil ?_
              refine then_n ?_
              refine swp_cond (b := _) rfl (fun h98 => by first | (cases h98; done) | (clear gx gy gz hlook hgood h3 r53 r8 r9 rb ro_ rt; grind)) (fun h98 => ?_)
              refine swp_skip ?_
              refine block_n ?_
              refine block_n ?_
              refine then_n ?_
              refine swp_region ?_
              refine s_pu (pu_add_as ((i + 1 : Nat) : Int) rfl rfl (by omega) (by omega) (by omega)) ?_
              refine s_pu (pu_move rfl) ?_
              refine swl_sub _ (.cons (t := 7) rfl (.cons (t := 8) rfl (.cons (t := 9) rfl (.cons (t := 10) rfl (.cons (t := 11) rfl (.cons (t := 12) rfl (.cons (t := 53) rfl (.cons (t := 54) rfl (.cons (t := 55) rfl .nil))))))))) ?_
              refine swl_nil ?_
              refine then_n ⟨i + 1, ⟨⟨rfl, rfl, rfl, rfl, rfl, rfl, rfl, rfl, rfl, trivial⟩, Split.ent' (by repeat (first | exact Split.nil | (apply Split.cons; (repeat (first | with_reducible exact Take.here | apply Take.there))))), h56'⟩, ?_⟩
              show al.length - (i + 1) < al.length - i; omega
          · skip   -- 122 F
            refine s_off rfl rfl rfl ?_
            refine s_off rfl rfl rfl ?_
            refine s_off rfl rfl rfl ?_
            first | refine s_pu (pu_pick_t rfl rfl) ?_ | refine s_pu (pu_pick_f rfl rfl) ?_
            refine s_pu (pu_move rfl) ?_
            refine s_split 127 rfl (fun h127 => ?_) (fun h127 => ?_)
            · skip   -- 127 T
              refine s_on rfl rfl ?_
              refine s_pu (pu_move rfl) ?_
              refine s_on rfl rfl ?_
              refine s_pu (pu_move rfl) ?_
              refine s_on rfl rfl ?_
              refine s_pu (pu_neq rfl rfl) ?_
              first | refine s_pu (pu_pick_t rfl rfl) ?_ | refine s_pu (pu_pick_f rfl rfl) ?_
              refine s_pu (pu_assign rfl) ?_
              refine swl_sub _ (.cons (t := 7) rfl (.cons (t := 8) rfl (.cons (t := 9) rfl (.cons (t := 10) rfl (.cons (t := 11) rfl (.cons (t := 12) rfl (.cons (t := 53) rfl (.cons (t := 54) rfl (.cons (t := 55) rfl (.cons (t := 98) rfl .nil)))))))))) ?_
              refine swl_nil ?_
              refine then_n ?_
              refine swp_cond (b := _) rfl (fun h98 => by first | (cases h98; done) | (clear gx gy gz hlook hgood h3 r53 r8 r9 rb ro_ rt; grind)) (fun h98 => ?_)
              refine swp_skip ?_
              refine block_n ?_
              refine block_n ?_
              refine then_n ?_
              refine swp_region ?_
              refine s_pu (pu_add_as ((i + 1 : Nat) : Int) rfl rfl (by omega) (by omega) (by omega)) ?_
              refine s_pu (pu_move rfl) ?_
              refine swl_sub _ (.cons (t := 7) rfl (.cons (t := 8) rfl (.cons (t := 9) rfl (.cons (t := 10) rfl (.cons (t := 11) rfl (.cons (t := 12) rfl (.cons (t := 53) rfl (.cons (t := 54) rfl (.cons (t := 55) rfl .nil))))))))) ?_
              refine swl_nil ?_
              refine then_n ⟨i + 1, ⟨⟨rfl, rfl, rfl, rfl, rfl, rfl, rfl, rfl, rfl, trivial⟩, Split.ent' (by repeat (first | exact Split.nil | (apply Split.cons; (repeat (first | with_reducible exact Take.here | apply Take.there))))), h56'⟩, ?_⟩
              show al.length - (i + 1) < al.length - i; omega
            · skip   -- 127 F
              refine s_off rfl rfl rfl ?_
              refine s_off rfl rfl rfl ?_
              refine s_off rfl rfl rfl ?_
              first | refine s_pu (pu_pick_t rfl rfl) ?_ | refine s_pu (pu_pick_f rfl rfl) ?_
              refine s_pu (pu_assign rfl) ?_
              refine swl_sub _ (.cons (t := 7) rfl (.cons (t := 8) rfl (.cons (t := 9) rfl (.cons (t := 10) rfl (.cons (t := 11) rfl (.cons (t := 12) rfl (.cons (t := 53) rfl (.cons (t := 54) rfl (.cons (t := 55) rfl (.cons (t := 98) rfl .nil)))))))))) ?_
              refine swl_nil ?_
              refine then_n ?_
              refine swp_cond (b := _) rfl (fun h98 => by first | (cases h98; done) | (clear gx gy gz hlook hgood h3 r53 r8 r9 rb ro_ rt; grind)) (fun h98 => ?_)
              refine swp_skip ?_
              refine block_n ?_
              refine block_n ?_
              refine then_n ?_
              refine swp_region ?_
              refine s_pu (pu_add_as ((i + 1 : Nat) : Int) rfl rfl (by omega) (by omega) (by omega)) ?_
              refine s_pu (pu_move rfl) ?_
              refine swl_sub _ (.cons (t := 7) rfl (.cons (t := 8) rfl (.cons (t := 9) rfl (.cons (t := 10) rfl (.cons (t := 11) rfl (.cons (t := 12) rfl (.cons (t := 53) rfl (.cons (t := 54) rfl (.cons (t := 55) rfl .nil))))))))) ?_
              refine swl_nil ?_
              refine then_n ⟨i + 1, ⟨⟨rfl, rfl, rfl, rfl, rfl, rfl, rfl, rfl, rfl, trivial⟩, Split.ent' (by repeat (first | exact Split.nil | (apply Split.cons; (repeat (first | with_reducible exact Take.here | apply Take.there))))), h56'⟩, ?_⟩
              show al.length - (i + 1) < al.length - i; omega
        · skip   -- 115 F
          refine s_off rfl rfl rfl ?_
          refine s_off rfl rfl rfl ?_
          refine s_off rfl rfl rfl ?_
          first | refine s_pu (pu_pick_t rfl rfl) ?_ | refine s_pu (pu_pick_f rfl rfl) ?_
          refine s_pu (pu_assign rfl) ?_
          refine swl_sub _ (.cons (t := 7) rfl (.cons (t := 8) rfl (.cons (t := 9) rfl (.cons (t := 10) rfl (.cons (t := 11) rfl (.cons (t := 12) rfl (.cons (t := 15) rfl (.cons (t := 16) rfl (.cons (t := 18) rfl (.cons (t := 19) rfl (.cons (t := 53) rfl (.cons (t := 54) rfl (.cons (t := 55) rfl (.cons (t := 98) rfl .nil)))))))))))))) ?_
          refine swl_nil ?_
          refine then_n ?_
          refine swp_cond (b := _) rfl (fun h98 => by first | (cases h98; done) | (clear gx gy gz hlook hgood h3 r53 r8 r9 rb ro_ rt; grind)) (fun h98 => ?_)
          refine swp_region ?_
          refine s_pu (pu_move rfl) ?_
          refine s_pu (pu_not rfl) ?_
          refine s_pu (pu_move rfl) ?_
          refine s_split 122 rfl (fun h122 => ?_) (fun h122 => ?_)
          · skip   -- 122 T
            refine s_on rfl rfl ?_
            refine s_pu (pu_move rfl) ?_
            refine s_on rfl rfl ?_
            refine s_pu (pu_move rfl) ?_
            refine s_on rfl rfl ?_
            refine s_pu (pu_neq rfl rfl) ?_
            first | refine s_pu (pu_pick_t rfl rfl) ?_ | refine s_pu (pu_pick_f rfl rfl) ?_
            refine s_pu (pu_move rfl) ?_
            refine s_split 127 rfl (fun h127 => ?_) (fun h127 => ?_)
            · skip   -- 127 T
              refine s_on rfl rfl ?_
              refine s_pu (pu_move rfl) ?_
              refine s_on rfl rfl ?_
              refine s_pu (pu_move rfl) ?_
              refine s_on rfl rfl ?_
              refine s_pu (pu_neq rfl rfl) ?_
              first | refine s_pu (pu_pick_t rfl rfl) ?_ | refine s_pu (pu_pick_f rfl rfl) ?_
              refine s_pu (pu_assign rfl) ?_
              refine swl_sub _ (.cons (t := 7) rfl (.cons (t := 8) rfl (.cons (t := 9) rfl (.cons (t := 10) rfl (.cons (t := 11) rfl (.cons (t := 12) rfl (.cons (t := 53) rfl (.cons (t := 54) rfl (.cons (t := 55) rfl (.cons (t := 98) rfl .nil)))))))))) ?_
              refine swl_nil ?_
              refine then_n ?_
              refine swp_cond (b := _) rfl (fun h98 => by first | (cases h98; done) | (clear gx gy gz hlook hgood h3 r53 r8 r9 rb ro_ rt; grind)) (fun h98 => ?_)
              refine swp_skip ?_
              refine block_n ?_
              refine block_n ?_
              refine then_n ?_
              refine swp_region ?_
              refine s_pu (pu_add_as ((i + 1 : Nat) : Int) rfl rfl (by omega) (by omega) (by omega)) ?_
              refine s_pu (pu_move rfl) ?_
              refine swl_sub _ (.cons (t := 7) rfl (.cons (t := 8) rfl (.cons (t := 9) rfl (.cons (t := 10) rfl (.cons (t := 11) rfl (.cons (t := 12) rfl (.cons (t := 53) rfl (.cons (t := 54) rfl (.cons (t := 55) rfl .nil))))))))) ?_
              refine swl_nil ?_
              refine then_n ⟨i + 1, ⟨⟨rfl, rfl, rfl, rfl, rfl, rfl, rfl, rfl, rfl, trivial⟩, Split.ent' (by repeat (first | exact Split.nil | (apply Split.cons; (repeat (first | with_reducible exact Take.here | apply Take.there))))), h56'⟩, ?_⟩
              show al.length - (i + 1) < al.length - i; omega
            · skip   -- 127 F
              refine s_off rfl rfl rfl ?_
              refine s_off rfl rfl rfl ?_
              refine s_off rfl rfl rfl ?_
              first | refine s_pu (pu_pick_t rfl rfl) ?_ | refine s_pu (pu_pick_f rfl rfl) ?_
              refine s_pu (pu_assign rfl) ?_
              refine swl_sub _ (.cons (t := 7) rfl (.cons (t := 8) rfl (.cons (t := 9) rfl (.cons (t := 10) rfl (.cons (t := 11) rfl (.cons (t := 12) rfl (.cons (t := 53) rfl (.cons (t := 54) rfl (.cons (t := 55) rfl (.cons (t := 98) rfl .nil)))))))))) ?_
              refine swl_nil ?_
              refine then_n ?_
              refine swp_cond (b := _) rfl (fun h98 => by first | (cases h98; done) | (clear gx gy gz hlook hgood h3 r53 r8 r9 rb ro_ rt; grind)) (fun h98 => ?_)
              refine swp_skip ?_
              refine block_n ?_
              refine block_n ?_
              refine then_n ?_
              refine swp_region ?_
              refine s_pu (pu_add_as ((i + 1 : Nat) : Int) rfl rfl (by omega) (by omega) (by omega)) ?_
              refine s_pu (pu_move rfl) ?_
              refine swl_sub _ (.cons (t := 7) rfl (.cons (t := 8) rfl (.cons (t := 9) rfl (.cons (t := 10) rfl (.cons (t := 11) rfl (.cons (t := 12) rfl (.cons (t := 53) rfl (.cons (t := 54) rfl (.cons (t := 55) rfl .nil))))))))) ?_
              refine swl_nil ?_
              refine then_n ⟨i + 1, ⟨⟨rfl, rfl, rfl, rfl, rfl, rfl, rfl, rfl, rfl, trivial⟩, Split.ent' (by repeat (first | exact Split.nil | (apply Split.cons; (repeat (first | with_reducible exact Take.here | apply Take.there))))), h56'⟩, ?_⟩
              show al.length - (i + 1) < al.length - i; omega
          · skip   -- 122 F
            refine s_off rfl rfl rfl ?_
            refine s_off rfl rfl rfl ?_
            refine s_off rfl rfl rfl ?_
            first | refine s_pu (pu_pick_t rfl rfl) ?_ | refine s_pu (pu_pick_f rfl rfl) ?_
            refine s_pu (pu_move rfl) ?_
            refine s_split 127 rfl (fun h127 => ?_) (fun h127 => ?_)
            · skip   -- 127 T
              refine s_on rfl rfl ?_
              refine s_pu (pu_move rfl) ?_
              refine s_on rfl rfl ?_
              refine s_pu (pu_move rfl) ?_
              refine s_on rfl rfl ?_
              refine s_pu (pu_neq rfl rfl) ?_
              first | refine s_pu (pu_pick_t rfl rfl) ?_ | refine s_pu (pu_pick_f rfl rfl) ?_
              refine s_pu (pu_assign rfl) ?_
              refine swl_sub _ (.cons (t := 7) rfl (.cons (t := 8) rfl (.cons (t := 9) rfl (.cons (t := 10) rfl (.cons (t := 11) rfl (.cons (t := 12) rfl (.cons (t := 53) rfl (.cons (t := 54) rfl (.cons (t := 55) rfl (.cons (t := 98) rfl .nil)))))))))) ?_
              refine swl_nil ?_
              refine then_n ?_
              refine swp_cond (b := _) rfl (fun h98 => by first | (cases h98; done) | (clear gx gy gz hlook hgood h3 r53 r8 r9 rb ro_ rt; grind)) (fun h98 => ?_)
              refine swp_skip ?_
              refine block_n ?_
              refine block_n ?_
              refine then_n ?_
              refine swp_region ?_
              refine s_pu (pu_add_as ((i + 1 : Nat) : Int) rfl rfl (by omega) (by omega) (by omega)) ?_
              refine s_pu (pu_move rfl) ?_
              refine swl_sub _ (.cons (t := 7) rfl (.cons (t := 8) rfl (.cons (t := 9) rfl (.cons (t := 10) rfl (.cons (t := 11) rfl (.cons (t := 12) rfl (.cons (t := 53) rfl (.cons (t := 54) rfl (.cons (t := 55) rfl .nil))))))))) ?_
              refine swl_nil ?_
              refine then_n ⟨i + 1, ⟨⟨rfl, rfl, rfl, rfl, rfl, rfl, rfl, rfl, rfl, trivial⟩, Split.ent' (by repeat (first | exact Split.nil | (apply Split.cons; (repeat (first | with_reducible exact Take.here | apply Take.there))))), h56'⟩, ?_⟩
              show al.length - (i + 1) < al.length - i; omega
            · skip   -- 127 F
              refine s_off rfl rfl rfl ?_
              refine s_off rfl rfl rfl ?_
              refine s_off rfl rfl rfl ?_
              first | refine s_pu (pu_pick_t rfl rfl) ?_ | refine s_pu (pu_pick_f rfl rfl) ?_
              refine s_pu (pu_assign rfl) ?_
              refine swl_sub _ (.cons (t := 7) rfl (.cons (t := 8) rfl (.cons (t := 9) rfl (.cons (t := 10) rfl (.cons (t := 11) rfl (.cons (t := 12) rfl (.cons (t := 53) rfl (.cons (t := 54) rfl (.cons (t := 55) rfl (.cons (t := 98) rfl .nil)))))))))) ?_
              refine swl_nil ?_
              refine then_n ?_
              refine swp_cond (b := _) rfl (fun h98 => by first | (cases h98; done) | (clear gx gy gz hlook hgood h3 r53 r8 r9 rb ro_ rt; grind)) (fun h98 => ?_)
              refine swp_skip ?_
              refine block_n ?_
              refine block_n ?_
              refine then_n ?_
              refine swp_region ?_
              refine s_pu (pu_add_as ((i + 1 : Nat) : Int) rfl rfl (by omega) (by omega) (by omega)) ?_
              refine s_pu (pu_move rfl) ?_
              refine swl_sub _ (.cons (t := 7) rfl (.cons (t := 8) rfl (.cons (t := 9) rfl (.cons (t := 10) rfl (.cons (t := 11) rfl (.cons (t := 12) rfl (.cons (t := 53) rfl (.cons (t := 54) rfl (.cons (t := 55) rfl .nil))))))))) ?_
              refine swl_nil ?_
              refine then_n ⟨i + 1, ⟨⟨rfl, rfl, rfl, rfl, rfl, rfl, rfl, rfl, rfl, trivial⟩, Split.ent' (by repeat (first | exact Split.nil | (apply Split.cons; (repeat (first | with_reducible exact Take.here | apply Take.there))))), h56'⟩, ?_⟩
              show al.length - (i + 1) < al.length - i; omega
  · skip   -- 56 F
    refine swp_exit ?_
    refine then_x ?_
    refine then_x ?_
    refine block_hit rfl ?_
    refine then_n ?_
    refine swp_seq ?_
    refine swp_seq ?_
    refine swp_region ?_
    refine s_pu (pu_move rfl) ?_
    refine s_pu (pu_len_row r9 rfl) ?_
    refine s_pu (pu_move rfl) ?_
    refine swl_sub _ (.cons (t := 7) rfl (.cons (t := 8) rfl (.cons (t := 9) rfl (.cons (t := 10) rfl (.cons (t := 12) rfl (.cons (t := 133) rfl (.cons (t := 134) rfl (.cons (t := 135) rfl .nil)))))))) ?_
    refine swl_nil ?_
    refine then_n ?_
    refine swp_block ?_
    refine swp_loop (ι := Nat) (fun i env L => Sub env [(7, v27), (8, v29), (9, v31), (10, v8), (12, .int .i64 (i : Nat)), (133, v9), (134, .int .i64 (co.length : Nat)), (135, .int .i64 (i : Nat))] ∧ Ent L [ro μ7] ∧ i ≤ co.length) (fun i => co.length - i) 0 ⟨⟨rfl, rfl, rfl, rfl, rfl, rfl, rfl, rfl, trivial⟩, Split.ent' (by repeat (first | exact Split.nil | (apply Split.cons; (repeat (first | with_reducible exact Take.here | apply Take.there))))), Nat.zero_le _⟩ ?_
    rintro i env L ⟨hsub, hE, hi⟩
    refine swp_sub _ hsub ?_
    refine swp_ent hE ?_
    clear hsub env hE L
    refine swp_seq ?_
    refine swp_region ?_
    refine s_pu (pu_lss rfl rfl) ?_
    refine swl_sub _ (.cons (t := 7) rfl (.cons (t := 8) rfl (.cons (t := 9) rfl (.cons (t := 10) rfl (.cons (t := 12) rfl (.cons (t := 133) rfl (.cons (t := 134) rfl (.cons (t := 135) rfl (.cons (t := 136) rfl .nil))))))))) ?_
    refine swl_nil ?_
    refine then_n ?_
    refine swp_seq ?_
    refine swp_cond (b := _) rfl (fun h136 => ?_) (fun h136 => ?_)
    · skip   -- 136 T
      have h136' : i < co.length := by have := of_decide_eq_true h136; omega
      obtain ⟨e, he⟩ : ∃ e, co[i]? = some e := ⟨_, List.getElem?_eq_getElem h136'⟩
      obtain ⟨g1, o1, c1, hv1, _, _⟩ := conf_at r9 he
      obtain ⟨g1', o1', c1', hv1', _, _, hrr⟩ := r9.pos (by omega)
      have hra := hrr.elem (f := encC) (n := 4) (fun _ => rfl) he
      obtain ⟨n1, n2, n3, n4, n5, n6⟩ := hconf e (List.mem_of_getElem? he)
      refine swp_skip ?_
      refine then_n ?_
      refine swp_seq ?_
      refine swp_block ?_
      refine swp_seq ?_
      refine swp_region ?_
      refine s_pu (pu_indexAddr (o1' + i * 4) (congrArg some hv1') rfl (by omega) (by omega) (by rw [Int.toNat_natCast])) ?_
      refine s_rd (rd_roA rfl rfl hra) ?_
      refine s_ef (ef_alloc) ?_
      intro b21
      refine s_ef0 (ef_storeA rfl rfl rfl rfl) ?_
      refine swl_sub _ (.cons (t := 7) rfl (.cons (t := 8) rfl (.cons (t := 9) rfl (.cons (t := 10) rfl (.cons (t := 12) rfl (.cons (t := 21) rfl (.cons (t := 133) rfl (.cons (t := 134) rfl (.cons (t := 135) rfl .nil))))))))) ?_
      refine swl_nil ?_
      refine then_n ?_
      refine swp_seq ?_
      refine swp_seq ?_
      refine swp_draw [1, 4, 9, 12, 18, 21, 27, 29, 34, 36, 41, 43] _ [] (by simp only [List.append_nil]; exact Ent.refl _) (by kernel_rfl) ?_
      first | refine d_pu 0 rfl (pu_fieldAddr0 rfl) (by kernel_rfl) (by kernel_rfl) (by kernel_rfl) ?_ | refine d_pu 0 rfl (pu_fieldAddr rfl) (by kernel_rfl) (by kernel_rfl) (by kernel_rfl) ?_
      refine d_rd 1 rfl (rd_load rfl rfl) rfl (by kernel_rfl) (by kernel_rfl) (by kernel_rfl) ?_
      refine d_pu 2 rfl (pu_move rfl) (by kernel_rfl) (by kernel_rfl) (by kernel_rfl) ?_
      first | refine d_pu 3 rfl (pu_fieldAddr0 rfl) (by kernel_rfl) (by kernel_rfl) (by kernel_rfl) ?_ | refine d_pu 3 rfl (pu_fieldAddr rfl) (by kernel_rfl) (by kernel_rfl) (by kernel_rfl) ?_
      refine d_rd 4 rfl (rd_load rfl rfl) rfl (by kernel_rfl) (by kernel_rfl) (by kernel_rfl) ?_
      refine d_eft 5 rfl (by kernel_rfl) (ef_fn (rlook_spec μ7 v27 b e.1 rb) rfl rfl (by repeat (first | exact Split.nil | (apply Split.cons; (repeat (first | with_reducible exact Take.here | apply Take.there)))))) ?_
      rintro v144 L1 ⟨rfl, rfl⟩
      refine ⟨_, ent_appC (Split.ent (by repeat (first | exact Split.nil | (apply Split.cons; (repeat (first | with_reducible exact Take.here | apply Take.there)))))), ?_⟩
      refine d_pu 6 rfl (pu_neq rfl rfl) (by kernel_rfl) (by kernel_rfl) (by kernel_rfl) ?_
      refine d_pu 7 rfl (pu_move rfl) (by kernel_rfl) (by kernel_rfl) (by kernel_rfl) ?_
      refine d_split 146 rfl (fun h146 => by rw [n1] at h146; simp at h146) (fun h146 => ?_)
      first | refine d_pu_on 8 rfl rfl rfl (pu_fieldAddr0 rfl) (by kernel_rfl) (by kernel_rfl) (by kernel_rfl) ?_ | refine d_pu_on 8 rfl rfl rfl (pu_fieldAddr rfl) (by kernel_rfl) (by kernel_rfl) (by kernel_rfl) ?_
      refine d_rd_on 9 rfl rfl rfl (rd_load rfl rfl) rfl (by kernel_rfl) (by kernel_rfl) (by kernel_rfl) ?_
      refine d_pu_on 10 rfl rfl rfl (pu_move rfl) (by kernel_rfl) (by kernel_rfl) (by kernel_rfl) ?_
      first | refine d_pu_on 11 rfl rfl rfl (pu_fieldAddr0 rfl) (by kernel_rfl) (by kernel_rfl) (by kernel_rfl) ?_ | refine d_pu_on 11 rfl rfl rfl (pu_fieldAddr rfl) (by kernel_rfl) (by kernel_rfl) (by kernel_rfl) ?_
      refine d_rd_on 12 rfl rfl rfl (rd_load rfl rfl) rfl (by kernel_rfl) (by kernel_rfl) (by kernel_rfl) ?_
      refine d_amb [13] (by kernel_rfl) rfl ?_
      refine dA_ef 13 rfl (GOn.some rfl rfl) (ef_fn (rlook_spec μ7 v29 o e.1 ro_) rfl rfl (by repeat (first | exact Split.nil | (apply Split.cons; (repeat (first | with_reducible exact Take.here | apply Take.there)))))) ?_
      rintro v152 L1 ⟨rfl, rfl⟩
      refine ⟨_, ent_appC (Split.ent (by repeat (first | exact Split.nil | (apply Split.cons; (repeat (first | with_reducible exact Take.here | apply Take.there)))))), ?_⟩
      refine d_pu_on 14 rfl rfl rfl (pu_neq rfl rfl) (by kernel_rfl) (by kernel_rfl) (by kernel_rfl) ?_
      first | refine d_pu 15 rfl (pu_pick_t rfl rfl) (by kernel_rfl) (by kernel_rfl) (by kernel_rfl) ?_ | refine d_pu 15 rfl (pu_pick_f rfl rfl) (by kernel_rfl) (by kernel_rfl) (by kernel_rfl) ?_
      refine d_pu 16 rfl (pu_move rfl) (by kernel_rfl) (by kernel_rfl) (by kernel_rfl) ?_
      refine d_split 155 rfl (fun h155 => by rw [n2] at h155; simp at h155) (fun h155 => ?_)
      first | refine d_pu_on 17 rfl rfl rfl (pu_fieldAddr0 rfl) (by kernel_rfl) (by kernel_rfl) (by kernel_rfl) ?_ | refine d_pu_on 17 rfl rfl rfl (pu_fieldAddr rfl) (by kernel_rfl) (by kernel_rfl) (by kernel_rfl) ?_
      refine d_rd_on 18 rfl rfl rfl (rd_load rfl rfl) rfl (by kernel_rfl) (by kernel_rfl) (by kernel_rfl) ?_
      refine d_pu_on 19 rfl rfl rfl (pu_move rfl) (by kernel_rfl) (by kernel_rfl) (by kernel_rfl) ?_
      first | refine d_pu_on 20 rfl rfl rfl (pu_fieldAddr0 rfl) (by kernel_rfl) (by kernel_rfl) (by kernel_rfl) ?_ | refine d_pu_on 20 rfl rfl rfl (pu_fieldAddr rfl) (by kernel_rfl) (by kernel_rfl) (by kernel_rfl) ?_
      refine d_rd_on 21 rfl rfl rfl (rd_load rfl rfl) rfl (by kernel_rfl) (by kernel_rfl) (by kernel_rfl) ?_
      refine d_amb [22] (by kernel_rfl) rfl ?_
      refine dA_ef 22 rfl (GOn.some rfl rfl) (ef_fn (rlook_spec μ7 v31 t e.1 rt) rfl rfl (by repeat (first | exact Split.nil | (apply Split.cons; (repeat (first | with_reducible exact Take.here | apply Take.there)))))) ?_
      rintro v161 L1 ⟨rfl, rfl⟩
      refine ⟨_, ent_appC (Split.ent (by repeat (first | exact Split.nil | (apply Split.cons; (repeat (first | with_reducible exact Take.here | apply Take.there)))))), ?_⟩
      refine d_pu_on 23 rfl rfl rfl (pu_neq rfl rfl) (by kernel_rfl) (by kernel_rfl) (by kernel_rfl) ?_
      first | refine d_pu 24 rfl (pu_pick_t rfl rfl) (by kernel_rfl) (by kernel_rfl) (by kernel_rfl) ?_ | refine d_pu 24 rfl (pu_pick_f rfl rfl) (by kernel_rfl) (by kernel_rfl) (by kernel_rfl) ?_
      refine d_pu 25 rfl (pu_move rfl) (by kernel_rfl) (by kernel_rfl) (by kernel_rfl) ?_
      refine d_split 164 rfl (fun h164 => by rw [n3] at h164; simp at h164) (fun h164 => ?_)
      first | refine d_pu_on 26 rfl rfl rfl (pu_fieldAddr0 rfl) (by kernel_rfl) (by kernel_rfl) (by kernel_rfl) ?_ | refine d_pu_on 26 rfl rfl rfl (pu_fieldAddr rfl) (by kernel_rfl) (by kernel_rfl) (by kernel_rfl) ?_
      refine d_rd_on 27 rfl rfl rfl (rd_load rfl rfl) rfl (by kernel_rfl) (by kernel_rfl) (by kernel_rfl) ?_
      first | refine d_pu_on 28 rfl rfl rfl (pu_fieldAddr0 rfl) (by kernel_rfl) (by kernel_rfl) (by kernel_rfl) ?_ | refine d_pu_on 28 rfl rfl rfl (pu_fieldAddr rfl) (by kernel_rfl) (by kernel_rfl) (by kernel_rfl) ?_
      refine d_rd_on 29 rfl rfl rfl (rd_load rfl rfl) rfl (by kernel_rfl) (by kernel_rfl) (by kernel_rfl) ?_
      refine d_pu_on 30 rfl rfl rfl (pu_eql rfl rfl) (by kernel_rfl) (by kernel_rfl) (by kernel_rfl) ?_
      first | refine d_pu 31 rfl (pu_pick_t rfl rfl) (by kernel_rfl) (by kernel_rfl) (by kernel_rfl) ?_ | refine d_pu 31 rfl (pu_pick_f rfl rfl) (by kernel_rfl) (by kernel_rfl) (by kernel_rfl) ?_
      refine d_pu 32 rfl (pu_move rfl) (by kernel_rfl) (by kernel_rfl) (by kernel_rfl) ?_
      refine d_split 171 rfl (fun h171 => by simp only [decide_eq_true_eq] at h171; exact absurd h171 n4) (fun h171 => ?_)
      first | refine d_pu_on 33 rfl rfl rfl (pu_fieldAddr0 rfl) (by kernel_rfl) (by kernel_rfl) (by kernel_rfl) ?_ | refine d_pu_on 33 rfl rfl rfl (pu_fieldAddr rfl) (by kernel_rfl) (by kernel_rfl) (by kernel_rfl) ?_
      refine d_rd_on 34 rfl rfl rfl (rd_load rfl rfl) rfl (by kernel_rfl) (by kernel_rfl) (by kernel_rfl) ?_
      first | refine d_pu_on 35 rfl rfl rfl (pu_fieldAddr0 rfl) (by kernel_rfl) (by kernel_rfl) (by kernel_rfl) ?_ | refine d_pu_on 35 rfl rfl rfl (pu_fieldAddr rfl) (by kernel_rfl) (by kernel_rfl) (by kernel_rfl) ?_
      refine d_rd_on 36 rfl rfl rfl (rd_load rfl rfl) rfl (by kernel_rfl) (by kernel_rfl) (by kernel_rfl) ?_
      refine d_pu_on 37 rfl rfl rfl (pu_eql rfl rfl) (by kernel_rfl) (by kernel_rfl) (by kernel_rfl) ?_
      first | refine d_pu 38 rfl (pu_pick_t rfl rfl) (by kernel_rfl) (by kernel_rfl) (by kernel_rfl) ?_ | refine d_pu 38 rfl (pu_pick_f rfl rfl) (by kernel_rfl) (by kernel_rfl) (by kernel_rfl) ?_
      refine d_pu 39 rfl (pu_move rfl) (by kernel_rfl) (by kernel_rfl) (by kernel_rfl) ?_
      refine d_split 178 rfl (fun h178 => by simp only [decide_eq_true_eq] at h178; exact absurd h178 n5) (fun h178 => ?_)
      first | refine d_pu_on 40 rfl rfl rfl (pu_fieldAddr0 rfl) (by kernel_rfl) (by kernel_rfl) (by kernel_rfl) ?_ | refine d_pu_on 40 rfl rfl rfl (pu_fieldAddr rfl) (by kernel_rfl) (by kernel_rfl) (by kernel_rfl) ?_
      refine d_rd_on 41 rfl rfl rfl (rd_load rfl rfl) rfl (by kernel_rfl) (by kernel_rfl) (by kernel_rfl) ?_
      first | refine d_pu_on 42 rfl rfl rfl (pu_fieldAddr0 rfl) (by kernel_rfl) (by kernel_rfl) (by kernel_rfl) ?_ | refine d_pu_on 42 rfl rfl rfl (pu_fieldAddr rfl) (by kernel_rfl) (by kernel_rfl) (by kernel_rfl) ?_
      refine d_rd_on 43 rfl rfl rfl (rd_load rfl rfl) rfl (by kernel_rfl) (by kernel_rfl) (by kernel_rfl) ?_
      refine d_pu_on 44 rfl rfl rfl (pu_eql rfl rfl) (by kernel_rfl) (by kernel_rfl) (by kernel_rfl) ?_
      first | refine d_pu 45 rfl (pu_pick_t rfl rfl) (by kernel_rfl) (by kernel_rfl) (by kernel_rfl) ?_ | refine d_pu 45 rfl (pu_pick_f rfl rfl) (by kernel_rfl) (by kernel_rfl) (by kernel_rfl) ?_
      refine d_sub _ (.cons (t := 7) rfl (.cons (t := 8) rfl (.cons (t := 9) rfl (.cons (t := 10) rfl (.cons (t := 12) rfl (.cons (t := 133) rfl (.cons (t := 134) rfl (.cons (t := 135) rfl (.cons (t := 184) rfl .nil))))))))) ?_
      first | refine d_nilt (by kernel_rfl) ?_ | refine d_nilf (by kernel_rfl) ?_
      refine then_n ?_
      refine swp_cond (b := _) rfl (fun h184 => by simp only [decide_eq_true_eq] at h184; exact absurd h184 n6) (fun h184 => ?_)
      refine swp_skip ?_
      refine then_n ?_
      refine swp_region ?_
      refine s_pu (pu_move rfl) ?_
      refine s_pu (pu_add_as ((i + 1 : Nat) : Int) rfl rfl (by omega) (by omega) (by omega)) ?_
      refine s_pu (pu_assign rfl) ?_
      refine swl_sub _ (.cons (t := 7) rfl (.cons (t := 8) rfl (.cons (t := 9) rfl (.cons (t := 10) rfl (.cons (t := 12) rfl (.cons (t := 133) rfl (.cons (t := 134) rfl (.cons (t := 135) rfl .nil)))))))) ?_
      refine swl_nil ?_
      refine block_n ?_
      refine then_n ?_
      refine swp_region ?_
      refine s_pu (pu_add_as ((i + 1 : Nat) : Int) rfl rfl (by omega) (by omega) (by omega)) ?_
      refine s_pu (pu_move rfl) ?_
      refine swl_sub _ (.cons (t := 7) rfl (.cons (t := 8) rfl (.cons (t := 9) rfl (.cons (t := 10) rfl (.cons (t := 12) rfl (.cons (t := 133) rfl (.cons (t := 134) rfl (.cons (t := 135) rfl .nil)))))))) ?_
      refine swl_nil ?_
      refine then_n ⟨i + 1, ⟨⟨rfl, rfl, rfl, rfl, rfl, rfl, rfl, rfl, trivial⟩, Split.ent' (by repeat (first | exact Split.nil | (apply Split.cons; (repeat (first | with_reducible exact Take.here | apply Take.there))))), h136'⟩, ?_⟩
      show co.length - (i + 1) < co.length - i; omega
    · skip   -- 136 F
      have h136' := of_decide_eq_false h136
      obtain rfl : i = co.length := by omega
      refine swp_exit ?_
      refine then_x ?_
      refine then_x ?_
      refine block_hit rfl ?_
      refine then_n ?_
      refine swp_seq ?_
      refine swp_seq ?_
      refine swp_region ?_
      refine s_pu (pu_move rfl) ?_
      refine s_pu (pu_len_row r8 rfl) ?_
      refine s_pu (pu_move rfl) ?_
      refine swl_sub _ (.cons (t := 7) rfl (.cons (t := 8) rfl (.cons (t := 9) rfl (.cons (t := 12) rfl (.cons (t := 188) rfl (.cons (t := 189) rfl (.cons (t := 190) rfl .nil))))))) ?_
      refine swl_nil ?_
      refine then_n ?_
      refine swp_block ?_
      refine swp_loop (ι := Nat × Int) (fun k env L => Sub env [(7, v27), (8, v29), (9, v31), (12, .int .i64 k.2), (188, v8), (189, .int .i64 (go.length : Nat)), (190, .int .i64 (k.1 : Nat))] ∧ Ent L [ro μ7] ∧ k.1 ≤ go.length ∧ (co.length : Int) ≤ k.2 + ((go.take k.1).countP (offP o t) : Nat) ∧ k.2 ≤ co.length) (fun k => go.length - k.1) (0, co.length) ⟨⟨rfl, rfl, rfl, rfl, rfl, rfl, rfl, trivial⟩, Split.ent' (by repeat (first | exact Split.nil | (apply Split.cons; (repeat (first | with_reducible exact Take.here | apply Take.there))))), Nat.zero_le _, by simp, by simp⟩ ?_
      rintro ⟨i, n⟩ env L ⟨hsub, hE, hi, hn, hn2⟩
      dsimp only at hi hn hn2 hsub
      refine swp_sub _ hsub ?_
      refine swp_ent hE ?_
      clear hsub env hE L
      refine swp_seq ?_
      refine swp_region ?_
      refine s_pu (pu_lss rfl rfl) ?_
      refine swl_sub _ (.cons (t := 7) rfl (.cons (t := 8) rfl (.cons (t := 9) rfl (.cons (t := 12) rfl (.cons (t := 188) rfl (.cons (t := 189) rfl (.cons (t := 190) rfl (.cons (t := 191) rfl .nil)))))))) ?_
      refine swl_nil ?_
      refine then_n ?_
      refine swp_seq ?_
      refine swp_cond (b := _) rfl (fun h191 => ?_) (fun h191 => ?_)
      · skip   -- 191 T
        have h191' : i < go.length := by have := of_decide_eq_true h191; omega
        obtain ⟨e, he⟩ : ∃ e, go[i]? = some e := ⟨_, List.getElem?_eq_getElem h191'⟩
        obtain ⟨g1, o1, c1, hv1, hra, _, _⟩ := tree_at r8 he
        have u1 := ub.lookE e.1
        have u2 := uo.lookE e.1
        have u3 := ut.lookE e.1
        have hcle : (go.take (i + 1)).countP (offP o t) = (go.take i).countP (offP o t) + (if offP o t e = true then 1 else 0) := by
          rw [List.take_add_one, he, List.countP_append]; simp [List.countP_cons]
        have hcb : (go.take i).countP (offP o t) ≤ 300 := by
          have := List.countP_le_length (p := offP o t) (l := go.take i)
          rw [List.length_take] at this; omega
        refine swp_skip ?_
        refine then_n ?_
        refine swp_seq ?_
        refine swp_block ?_
        refine swp_seq ?_
        refine swp_region ?_
        refine s_pu (pu_indexAddr (o1 + i * 2) (congrArg some hv1) rfl (by omega) (by omega) (by rw [Int.toNat_natCast])) ?_
        refine s_rd (rd_roA rfl rfl hra) ?_
        refine s_ef (ef_alloc) ?_
        intro b23
        refine s_ef0 (ef_storeA rfl rfl rfl rfl) ?_
        refine swl_sub _ (.cons (t := 7) rfl (.cons (t := 8) rfl (.cons (t := 9) rfl (.cons (t := 12) rfl (.cons (t := 23) rfl (.cons (t := 188) rfl (.cons (t := 189) rfl (.cons (t := 190) rfl .nil)))))))) ?_
        refine swl_nil ?_
        refine then_n ?_
        refine swp_cut (fun env L => ∃ bb, Sub env [(7, v27), (8, v29), (9, v31), (12, .int .i64 n), (188, v8), (189, .int .i64 (go.length : Nat)), (190, .int .i64 (i : Nat)), (227, .bool bb)] ∧ Ent L [ro μ7] ∧ (bb = true → offP o t e = true)) ?_ ?_
        · skip
          refine swp_draw [2, 6, 10, 14, 19, 22, 28, 31] _ [] (by simp only [List.append_nil]; exact Ent.refl _) (by kernel_rfl) ?_
          refine d_pu 0 rfl (pu_move rfl) (by kernel_rfl) (by kernel_rfl) (by kernel_rfl) ?_
          first | refine d_pu 1 rfl (pu_fieldAddr0 rfl) (by kernel_rfl) (by kernel_rfl) (by kernel_rfl) ?_ | refine d_pu 1 rfl (pu_fieldAddr rfl) (by kernel_rfl) (by kernel_rfl) (by kernel_rfl) ?_
          refine d_rd 2 rfl (rd_load rfl rfl) rfl (by kernel_rfl) (by kernel_rfl) (by kernel_rfl) ?_
          refine d_pu 4 rfl (pu_move rfl) (by kernel_rfl) (by kernel_rfl) (by kernel_rfl) ?_
          first | refine d_pu 5 rfl (pu_fieldAddr0 rfl) (by kernel_rfl) (by kernel_rfl) (by kernel_rfl) ?_ | refine d_pu 5 rfl (pu_fieldAddr rfl) (by kernel_rfl) (by kernel_rfl) (by kernel_rfl) ?_
          refine d_rd 6 rfl (rd_load rfl rfl) rfl (by kernel_rfl) (by kernel_rfl) (by kernel_rfl) ?_
          refine d_pu 8 rfl (pu_move rfl) (by kernel_rfl) (by kernel_rfl) (by kernel_rfl) ?_
          first | refine d_pu 9 rfl (pu_fieldAddr0 rfl) (by kernel_rfl) (by kernel_rfl) (by kernel_rfl) ?_ | refine d_pu 9 rfl (pu_fieldAddr rfl) (by kernel_rfl) (by kernel_rfl) (by kernel_rfl) ?_
          refine d_rd 10 rfl (rd_load rfl rfl) rfl (by kernel_rfl) (by kernel_rfl) (by kernel_rfl) ?_
          first | refine d_pu 13 rfl (pu_fieldAddr0 rfl) (by kernel_rfl) (by kernel_rfl) (by kernel_rfl) ?_ | refine d_pu 13 rfl (pu_fieldAddr rfl) (by kernel_rfl) (by kernel_rfl) (by kernel_rfl) ?_
          refine d_rd 14 rfl (rd_load rfl rfl) rfl (by kernel_rfl) (by kernel_rfl) (by kernel_rfl) ?_
          refine d_eft 3 rfl (by kernel_rfl) (ef_fn (rlook_spec μ7 v27 b e.1 rb) rfl rfl (by repeat (first | exact Split.nil | (apply Split.cons; (repeat (first | with_reducible exact Take.here | apply Take.there)))))) ?_
          rintro v197 L1 ⟨rfl, rfl⟩
          refine ⟨_, ent_appC (Split.ent (by repeat (first | exact Split.nil | (apply Split.cons; (repeat (first | with_reducible exact Take.here | apply Take.there)))))), ?_⟩
          refine d_eft 7 rfl (by kernel_rfl) (ef_fn (rlook_spec μ7 v29 o e.1 ro_) rfl rfl (by repeat (first | exact Split.nil | (apply Split.cons; (repeat (first | with_reducible exact Take.here | apply Take.there)))))) ?_
          rintro v201 L1 ⟨rfl, rfl⟩
          refine ⟨_, ent_appC (Split.ent (by repeat (first | exact Split.nil | (apply Split.cons; (repeat (first | with_reducible exact Take.here | apply Take.there)))))), ?_⟩
          refine d_eft 11 rfl (by kernel_rfl) (ef_fn (rlook_spec μ7 v31 t e.1 rt) rfl rfl (by repeat (first | exact Split.nil | (apply Split.cons; (repeat (first | with_reducible exact Take.here | apply Take.there)))))) ?_
          rintro v205 L1 ⟨rfl, rfl⟩
          refine ⟨_, ent_appC (Split.ent (by repeat (first | exact Split.nil | (apply Split.cons; (repeat (first | with_reducible exact Take.here | apply Take.there)))))), ?_⟩
          refine d_eft 12 rfl (by kernel_rfl) (ef_fn (mark_specZ u1 u2 u3) rfl rfl (by repeat (first | exact Split.nil | (apply Split.cons; (repeat (first | with_reducible exact Take.here | apply Take.there)))))) ?_
          rintro v206 L1 ⟨rfl, rfl⟩
          refine ⟨_, ent_appC (Split.ent (by repeat (first | exact Split.nil | (apply Split.cons; (repeat (first | with_reducible exact Take.here | apply Take.there)))))), ?_⟩
          refine d_pu 15 rfl (pu_eql rfl rfl) (by kernel_rfl) (by kernel_rfl) (by kernel_rfl) ?_
          refine d_pu 16 rfl (pu_move rfl) (by kernel_rfl) (by kernel_rfl) (by kernel_rfl) ?_
          refine d_split 210 rfl (fun h210 => ?_) (fun h210 => ?_)
          · skip   -- 210 T
            refine d_pu_on 17 rfl rfl rfl (pu_move rfl) (by kernel_rfl) (by kernel_rfl) (by kernel_rfl) ?_
            first | refine d_pu_on 18 rfl rfl rfl (pu_fieldAddr0 rfl) (by kernel_rfl) (by kernel_rfl) (by kernel_rfl) ?_ | refine d_pu_on 18 rfl rfl rfl (pu_fieldAddr rfl) (by kernel_rfl) (by kernel_rfl) (by kernel_rfl) ?_
            refine d_rd_on 19 rfl rfl rfl (rd_load rfl rfl) rfl (by kernel_rfl) (by kernel_rfl) (by kernel_rfl) ?_
            first | refine d_pu_on 21 rfl rfl rfl (pu_fieldAddr0 rfl) (by kernel_rfl) (by kernel_rfl) (by kernel_rfl) ?_ | refine d_pu_on 21 rfl rfl rfl (pu_fieldAddr rfl) (by kernel_rfl) (by kernel_rfl) (by kernel_rfl) ?_
            refine d_rd_on 22 rfl rfl rfl (rd_load rfl rfl) rfl (by kernel_rfl) (by kernel_rfl) (by kernel_rfl) ?_
            refine d_amb [20] (by kernel_rfl) rfl ?_
            refine dA_ef 20 rfl (GOn.some rfl rfl) (ef_fn (rlook_spec μ7 v29 o e.1 ro_) rfl rfl (by repeat (first | exact Split.nil | (apply Split.cons; (repeat (first | with_reducible exact Take.here | apply Take.there)))))) ?_
            rintro v214 L1 ⟨rfl, rfl⟩
            refine ⟨_, ent_appC (Split.ent (by repeat (first | exact Split.nil | (apply Split.cons; (repeat (first | with_reducible exact Take.here | apply Take.there)))))), ?_⟩
            refine d_pu_on 23 rfl rfl rfl (pu_neq rfl rfl) (by kernel_rfl) (by kernel_rfl) (by kernel_rfl) ?_
            first | refine d_pu 24 rfl (pu_pick_t rfl rfl) (by kernel_rfl) (by kernel_rfl) (by kernel_rfl) ?_ | refine d_pu 24 rfl (pu_pick_f rfl rfl) (by kernel_rfl) (by kernel_rfl) (by kernel_rfl) ?_
            refine d_pu 25 rfl (pu_move rfl) (by kernel_rfl) (by kernel_rfl) (by kernel_rfl) ?_
            refine d_split 219 rfl (fun h219 => ?_) (fun h219 => ?_)
            · skip   -- 219 T
              refine d_pu_on 26 rfl rfl rfl (pu_move rfl) (by kernel_rfl) (by kernel_rfl) (by kernel_rfl) ?_
              first | refine d_pu_on 27 rfl rfl rfl (pu_fieldAddr0 rfl) (by kernel_rfl) (by kernel_rfl) (by kernel_rfl) ?_ | refine d_pu_on 27 rfl rfl rfl (pu_fieldAddr rfl) (by kernel_rfl) (by kernel_rfl) (by kernel_rfl) ?_
              refine d_rd_on 28 rfl rfl rfl (rd_load rfl rfl) rfl (by kernel_rfl) (by kernel_rfl) (by kernel_rfl) ?_
              first | refine d_pu_on 30 rfl rfl rfl (pu_fieldAddr0 rfl) (by kernel_rfl) (by kernel_rfl) (by kernel_rfl) ?_ | refine d_pu_on 30 rfl rfl rfl (pu_fieldAddr rfl) (by kernel_rfl) (by kernel_rfl) (by kernel_rfl) ?_
              refine d_rd_on 31 rfl rfl rfl (rd_load rfl rfl) rfl (by kernel_rfl) (by kernel_rfl) (by kernel_rfl) ?_
              refine d_amb [29] (by kernel_rfl) rfl ?_
              refine dA_ef 29 rfl (GOn.some rfl rfl) (ef_fn (rlook_spec μ7 v31 t e.1 rt) rfl rfl (by repeat (first | exact Split.nil | (apply Split.cons; (repeat (first | with_reducible exact Take.here | apply Take.there)))))) ?_
              rintro v223 L1 ⟨rfl, rfl⟩
              refine ⟨_, ent_appC (Split.ent (by repeat (first | exact Split.nil | (apply Split.cons; (repeat (first | with_reducible exact Take.here | apply Take.there)))))), ?_⟩
              refine d_pu_on 32 rfl rfl rfl (pu_neq rfl rfl) (by kernel_rfl) (by kernel_rfl) (by kernel_rfl) ?_
              first | refine d_pu 33 rfl (pu_pick_t rfl rfl) (by kernel_rfl) (by kernel_rfl) (by kernel_rfl) ?_ | refine d_pu 33 rfl (pu_pick_f rfl rfl) (by kernel_rfl) (by kernel_rfl) (by kernel_rfl) ?_
              refine d_sub _ (.cons (t := 7) rfl (.cons (t := 8) rfl (.cons (t := 9) rfl (.cons (t := 12) rfl (.cons (t := 188) rfl (.cons (t := 189) rfl (.cons (t := 190) rfl (.cons (t := 227) rfl .nil)))))))) ?_
              first | refine d_nilt (by kernel_rfl) ?_ | refine d_nilf (by kernel_rfl) ?_
              refine then_n ⟨_, ⟨rfl, rfl, rfl, rfl, rfl, rfl, rfl, rfl, trivial⟩, Split.ent' (by repeat (first | exact Split.nil | (apply Split.cons; (repeat (first | with_reducible exact Take.here | apply Take.there))))), fun h227 => ?_⟩
              first
                | (cases h227; done)
                | (unfold offP; simp at h219 h227 ⊢; exact ⟨h219, h227⟩)
                | (cases h219; done)
            · skip   -- 219 F
              refine d_off 26 rfl rfl rfl rfl (by kernel_rfl) (by kernel_rfl) (by kernel_rfl) ?_
              refine d_off 27 rfl rfl rfl rfl (by kernel_rfl) (by kernel_rfl) (by kernel_rfl) ?_
              refine d_off 28 rfl rfl rfl rfl (by kernel_rfl) (by kernel_rfl) (by kernel_rfl) ?_
              refine d_off 29 rfl rfl rfl rfl (by kernel_rfl) (by kernel_rfl) (by kernel_rfl) ?_
              refine d_off 30 rfl rfl rfl rfl (by kernel_rfl) (by kernel_rfl) (by kernel_rfl) ?_
              refine d_off 31 rfl rfl rfl rfl (by kernel_rfl) (by kernel_rfl) (by kernel_rfl) ?_
              refine d_off 32 rfl rfl rfl rfl (by kernel_rfl) (by kernel_rfl) (by kernel_rfl) ?_
              first | refine d_pu 33 rfl (pu_pick_t rfl rfl) (by kernel_rfl) (by kernel_rfl) (by kernel_rfl) ?_ | refine d_pu 33 rfl (pu_pick_f rfl rfl) (by kernel_rfl) (by kernel_rfl) (by kernel_rfl) ?_
              refine d_sub _ (.cons (t := 7) rfl (.cons (t := 8) rfl (.cons (t := 9) rfl (.cons (t := 12) rfl (.cons (t := 188) rfl (.cons (t := 189) rfl (.cons (t := 190) rfl (.cons (t := 227) rfl .nil)))))))) ?_
              first | refine d_nilt (by kernel_rfl) ?_ | refine d_nilf (by kernel_rfl) ?_
              refine then_n ⟨_, ⟨rfl, rfl, rfl, rfl, rfl, rfl, rfl, rfl, trivial⟩, Split.ent' (by repeat (first | exact Split.nil | (apply Split.cons; (repeat (first | with_reducible exact Take.here | apply Take.there))))), fun h227 => ?_⟩
              first
                | (cases h227; done)
                | (unfold offP; simp at h219 h227 ⊢; exact ⟨h219, h227⟩)
                | (cases h219; done)
          · skip   -- 210 F
            refine d_off 17 rfl rfl rfl rfl (by kernel_rfl) (by kernel_rfl) (by kernel_rfl) ?_
            refine d_off 18 rfl rfl rfl rfl (by kernel_rfl) (by kernel_rfl) (by kernel_rfl) ?_
            refine d_off 19 rfl rfl rfl rfl (by kernel_rfl) (by kernel_rfl) (by kernel_rfl) ?_
            refine d_off 20 rfl rfl rfl rfl (by kernel_rfl) (by kernel_rfl) (by kernel_rfl) ?_
            refine d_off 21 rfl rfl rfl rfl (by kernel_rfl) (by kernel_rfl) (by kernel_rfl) ?_
            refine d_off 22 rfl rfl rfl rfl (by kernel_rfl) (by kernel_rfl) (by kernel_rfl) ?_
            refine d_off 23 rfl rfl rfl rfl (by kernel_rfl) (by kernel_rfl) (by kernel_rfl) ?_
            first | refine d_pu 24 rfl (pu_pick_t rfl rfl) (by kernel_rfl) (by kernel_rfl) (by kernel_rfl) ?_ | refine d_pu 24 rfl (pu_pick_f rfl rfl) (by kernel_rfl) (by kernel_rfl) (by kernel_rfl) ?_
            refine d_pu 25 rfl (pu_move rfl) (by kernel_rfl) (by kernel_rfl) (by kernel_rfl) ?_
            refine d_split 219 rfl (fun h219 => ?_) (fun h219 => ?_)
            · skip   -- 219 T
              refine d_pu_on 26 rfl rfl rfl (pu_move rfl) (by kernel_rfl) (by kernel_rfl) (by kernel_rfl) ?_
              first | refine d_pu_on 27 rfl rfl rfl (pu_fieldAddr0 rfl) (by kernel_rfl) (by kernel_rfl) (by kernel_rfl) ?_ | refine d_pu_on 27 rfl rfl rfl (pu_fieldAddr rfl) (by kernel_rfl) (by kernel_rfl) (by kernel_rfl) ?_
              refine d_rd_on 28 rfl rfl rfl (rd_load rfl rfl) rfl (by kernel_rfl) (by kernel_rfl) (by kernel_rfl) ?_
              first | refine d_pu_on 30 rfl rfl rfl (pu_fieldAddr0 rfl) (by kernel_rfl) (by kernel_rfl) (by kernel_rfl) ?_ | refine d_pu_on 30 rfl rfl rfl (pu_fieldAddr rfl) (by kernel_rfl) (by kernel_rfl) (by kernel_rfl) ?_
              refine d_rd_on 31 rfl rfl rfl (rd_load rfl rfl) rfl (by kernel_rfl) (by kernel_rfl) (by kernel_rfl) ?_
              refine d_amb [29] (by kernel_rfl) rfl ?_
              refine dA_ef 29 rfl (GOn.some rfl rfl) (ef_fn (rlook_spec μ7 v31 t e.1 rt) rfl rfl (by repeat (first | exact Split.nil | (apply Split.cons; (repeat (first | with_reducible exact Take.here | apply Take.there)))))) ?_
              rintro v223 L1 ⟨rfl, rfl⟩
              refine ⟨_, ent_appC (Split.ent (by repeat (first | exact Split.nil | (apply Split.cons; (repeat (first | with_reducible exact Take.here | apply Take.there)))))), ?_⟩
              refine d_pu_on 32 rfl rfl rfl (pu_neq rfl rfl) (by kernel_rfl) (by kernel_rfl) (by kernel_rfl) ?_
              first | refine d_pu 33 rfl (pu_pick_t rfl rfl) (by kernel_rfl) (by kernel_rfl) (by kernel_rfl) ?_ | refine d_pu 33 rfl (pu_pick_f rfl rfl) (by kernel_rfl) (by kernel_rfl) (by kernel_rfl) ?_
              refine d_sub _ (.cons (t := 7) rfl (.cons (t := 8) rfl (.cons (t := 9) rfl (.cons (t := 12) rfl (.cons (t := 188) rfl (.cons (t := 189) rfl (.cons (t := 190) rfl (.cons (t := 227) rfl .nil)))))))) ?_
              first | refine d_nilt (by kernel_rfl) ?_ | refine d_nilf (by kernel_rfl) ?_
              refine then_n ⟨_, ⟨rfl, rfl, rfl, rfl, rfl, rfl, rfl, rfl, trivial⟩, Split.ent' (by repeat (first | exact Split.nil | (apply Split.cons; (repeat (first | with_reducible exact Take.here | apply Take.there))))), fun h227 => ?_⟩
              first
                | (cases h227; done)
                | (unfold offP; simp at h219 h227 ⊢; exact ⟨h219, h227⟩)
                | (cases h219; done)
            · skip   -- 219 F
              refine d_off 26 rfl rfl rfl rfl (by kernel_rfl) (by kernel_rfl) (by kernel_rfl) ?_
              refine d_off 27 rfl rfl rfl rfl (by kernel_rfl) (by kernel_rfl) (by kernel_rfl) ?_
              refine d_off 28 rfl rfl rfl rfl (by kernel_rfl) (by kernel_rfl) (by kernel_rfl) ?_
              refine d_off 29 rfl rfl rfl rfl (by kernel_rfl) (by kernel_rfl) (by kernel_rfl) ?_
              refine d_off 30 rfl rfl rfl rfl (by kernel_rfl) (by kernel_rfl) (by kernel_rfl) ?_
              refine d_off 31 rfl rfl rfl rfl (by kernel_rfl) (by kernel_rfl) (by kernel_rfl) ?_
              refine d_off 32 rfl rfl rfl rfl (by kernel_rfl) (by kernel_rfl) (by kernel_rfl) ?_
              first | refine d_pu 33 rfl (pu_pick_t rfl rfl) (by kernel_rfl) (by kernel_rfl) (by kernel_rfl) ?_ | refine d_pu 33 rfl (pu_pick_f rfl rfl) (by kernel_rfl) (by kernel_rfl) (by kernel_rfl) ?_
              refine d_sub _ (.cons (t := 7) rfl (.cons (t := 8) rfl (.cons (t := 9) rfl (.cons (t := 12) rfl (.cons (t := 188) rfl (.cons (t := 189) rfl (.cons (t := 190) rfl (.cons (t := 227) rfl .nil)))))))) ?_
              first | refine d_nilt (by kernel_rfl) ?_ | refine d_nilf (by kernel_rfl) ?_
              refine then_n ⟨_, ⟨rfl, rfl, rfl, rfl, rfl, rfl, rfl, rfl, trivial⟩, Split.ent' (by repeat (first | exact Split.nil | (apply Split.cons; (repeat (first | with_reducible exact Take.here | apply Take.there))))), fun h227 => ?_⟩
              first
                | (cases h227; done)
                | (unfold offP; simp at h219 h227 ⊢; exact ⟨h219, h227⟩)
                | (cases h219; done)
        rintro env L ⟨bb, hsub, hE, hbb⟩
        refine swp_sub _ hsub ?_
        refine swp_ent hE ?_
        clear hsub env hE L
        refine swp_cond (b := _) rfl (fun h227 => ?_) (fun h227 => ?_)
        · skip   -- 227 T
          refine swp_region ?_
          refine s_pu (pu_move rfl) ?_
          refine s_pu (pu_sub_in rfl rfl (by omega) (by omega)) ?_
          refine s_pu (pu_assign rfl) ?_
          refine swl_sub _ (.cons (t := 7) rfl (.cons (t := 8) rfl (.cons (t := 9) rfl (.cons (t := 12) rfl (.cons (t := 188) rfl (.cons (t := 189) rfl (.cons (t := 190) rfl .nil))))))) ?_
          refine swl_nil ?_
          refine block_n ?_
          refine then_n ?_
          refine swp_region ?_
          refine s_pu (pu_add_as ((i + 1 : Nat) : Int) rfl rfl (by omega) (by omega) (by omega)) ?_
          refine s_pu (pu_move rfl) ?_
          refine swl_sub _ (.cons (t := 7) rfl (.cons (t := 8) rfl (.cons (t := 9) rfl (.cons (t := 12) rfl (.cons (t := 188) rfl (.cons (t := 189) rfl (.cons (t := 190) rfl .nil))))))) ?_
          refine swl_nil ?_
          refine then_n ⟨(i + 1, n - 1), ⟨⟨rfl, rfl, rfl, rfl, rfl, rfl, rfl, trivial⟩, Split.ent' (by repeat (first | exact Split.nil | (apply Split.cons; (repeat (first | with_reducible exact Take.here | apply Take.there))))), h191', by rw [hcle, if_pos (hbb h227)]; omega, by dsimp only; omega⟩, ?_⟩
          show go.length - (i + 1) < go.length - i; omega
        · skip   -- 227 F
          refine swp_skip ?_
          refine block_n ?_
          refine then_n ?_
          refine swp_region ?_
          refine s_pu (pu_add_as ((i + 1 : Nat) : Int) rfl rfl (by omega) (by omega) (by omega)) ?_
          refine s_pu (pu_move rfl) ?_
          refine swl_sub _ (.cons (t := 7) rfl (.cons (t := 8) rfl (.cons (t := 9) rfl (.cons (t := 12) rfl (.cons (t := 188) rfl (.cons (t := 189) rfl (.cons (t := 190) rfl .nil))))))) ?_
          refine swl_nil ?_
          refine then_n ⟨(i + 1, n), ⟨⟨rfl, rfl, rfl, rfl, rfl, rfl, rfl, trivial⟩, Split.ent' (by repeat (first | exact Split.nil | (apply Split.cons; (repeat (first | with_reducible exact Take.here | apply Take.there))))), h191', by rw [hcle]; split <;> omega, hn2⟩, ?_⟩
          show go.length - (i + 1) < go.length - i; omega
      · skip   -- 191 F
        have h191' := of_decide_eq_false h191
        obtain rfl : i = go.length := by omega
        rw [List.take_length] at hn
        refine swp_exit ?_
        refine then_x ?_
        refine then_x ?_
        refine block_hit rfl ?_
        refine then_n ?_
        refine swp_seq ?_
        refine swp_region ?_
        refine s_pu (pu_move rfl) ?_
        refine s_pu (pu_geq rfl rfl) ?_
        refine s_pu (pu_assign rfl) ?_
        refine swl_sub _ (.cons (t := 6) rfl .nil) ?_
        refine swl_nil ?_
        refine then_n ?_
        refine swp_ret ?_
        refine done_ret [ro μ7] (.tmp rfl .nil) ⟨?_, μ7, [], l0_6.trans l7, rfl⟩ (by repeat (first | exact Split.nil | (apply Split.cons; (repeat (first | with_reducible exact Take.here | apply Take.there)))))
        refine congrArg Value.bool (decide_eq_true ?_)
        omega
end SX
