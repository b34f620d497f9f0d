/- A part of the proof: walks of the program's functions, and the rules by which they go. -/
import Derived.Test.YtieggbckcacihaaDoorBd72cdaf6
import Derived.Test.YtieggbckcacihaaDoorB3b67aa81
import Derived.Test.YtieggbckcacihaaDoorRows
import Derived.Test.YtieggbckcacihaaDoorB90d4f2bb
import Derived.ProofKit
import Derived.LaidMore
import Derived.OpenShut
import Derived.Stop.Joined
namespace SX
open Go Go.Proofs

theorem row_take {μ : PH} {v : Value} {xs : List Int} (hv : Row μ v 1 xs.length (xs.flatMap (icsk .i64))) (k : Nat) (hk : k ≤ xs.length) :
    ∃ v', Row μ v' 1 (xs.take k).length ((xs.take k).flatMap (icsk .i64)) ∧ ∀ (env : Env) (x y : Operand) (ki : IntKind) (hi : Int), evalE env x = some v → evalE env y = some (.int ki hi) → hi = (k : Int) → Pu Tryd.prog env (.slice 31 x none (some y) none) v' := by
  obtain ⟨v', hr, hp⟩ := Row.hi (P := Tryd.prog) (t := 31) hv k hk
  refine ⟨v', ?_, hp⟩
  rw [Nat.mul_one, flat_take (icsk_len .i64)] at hr
  rwa [List.length_take, Nat.min_eq_left hk]
theorem reachA_len (g : List (List Int)) (xs : List Int) : (reachA g xs).length ≤ g.length := by
  unfold reachA
  by_cases h : reachE g xs = 0
  · rw [if_pos h]; exact elsTo_len _ _
  · rw [if_neg h]; exact Nat.zero_le _
theorem onlyA_len (g : List (List Int)) (xs ys : List Int) : (onlyA g xs ys).length ≤ g.length := by
  unfold onlyA
  by_cases h : onlyE g xs ys = 0
  · rw [if_pos h]; exact elsTo_len _ _
  · rw [if_neg h]; exact Nat.zero_le _
theorem cut100 {v : Value} {μ : PH} {xs : List Int} (hv : Row μ v 1 xs.length (xs.flatMap (icsk .i64))) : ∃ (v' : Value) (ys : List Int), ys = xs.take (min xs.length 100) ∧ ys.length ≤ 100 ∧ Row μ v' 1 ys.length (ys.flatMap (icsk .i64)) ∧ ∀ (env : Env) (x y : Operand) (ki : IntKind) (hi : Int), evalE env x = some v → evalE env y = some (.int ki hi) → hi = min (xs.length : Int) 100 → Pu Tryd.prog env (.slice 31 x none (some y) none) v' := by
  obtain ⟨v', h1, h2⟩ := row_take hv (min xs.length 100) (Nat.min_le_left _ _)
  exact ⟨v', _, rfl, by rw [List.length_take]; omega, h1, fun env x y ki hi a b c => h2 env x y ki hi a b (by omega)⟩
set_option maxHeartbeats 4000000 in
theorem walkreaches_spec (μ : PH) (v v1 v2 : Value) (G : List (Value × List Int)) (kn : Int) (xs0 ys0 : List Int) (hT : RowAt μ 0 0 tabV) (hG : Graph μ v G) (hn : G.length ≤ 1048576) (hrows : ∀ x ∈ G, x.2.length ≤ 1048576) (hkn : 0 ≤ kn ∧ kn ≤ 255)
    (hx : Row μ v1 1 xs0.length (xs0.flatMap (icsk .i64))) (hy : Row μ v2 1 ys0.length (ys0.flatMap (icsk .i64))) :
    Spec Tryd.prog 5 [v, .int .u8 kn, .agg #[v1, v2]] [ro μ] (LawOk μ) := by
  obtain ⟨A1, c1, hv1⟩ := hx.sl
  obtain ⟨A2, c2, hv2⟩ := hy.sl
  subst hv1 hv2
  refine Spec.of 133 Tryd.func5 rfl rfl rfl ?_
  refine swp_seq ?_
  refine swp_region ?_
  refine s_ef (ef_box rfl rfl) ?_
  intro b5
  refine s_pu (pu_assign rfl) ?_
  refine swl_sub _ (.cons (t := 0) rfl (.cons (t := 1) rfl (.cons (t := 5) rfl .nil))) ?_
  refine swl_nil ?_
  refine then_n ?_
  refine swp_seq ?_
  refine swp_seq ?_
  refine swp_region ?_
  refine s_ef (ef_fn (walks_spec μ hT) rfl rfl (by repeat (first | exact Split.nil | (apply Split.cons; (repeat (first | with_reducible exact Take.here | apply Take.there)))))) ?_
  rintro v18 L1 ⟨rfl, μ1, h1, rfl⟩
  refine swl_app ?_
  refine s_pu (pu_not rfl) ?_
  refine swl_sub _ (.cons (t := 0) rfl (.cons (t := 1) rfl (.cons (t := 5) rfl (.cons (t := 19) rfl .nil)))) ?_
  refine swl_nil ?_
  refine then_n ?_
  refine swp_cond (b := _) rfl (fun h19 => by cases h19) (fun h19 => ?_)
  refine swp_skip ?_
  refine then_n ?_
  refine swp_seq ?_
  refine swp_region ?_
  refine s_pu (pu_move rfl) ?_
  refine s_pu (pu_move rfl) ?_
  refine s_pu (pu_conv_i64 rfl (by omega) (by omega)) ?_
  refine s_ef (ef_fn (good2_spec μ1 v G 3000 kn (hG.le h1) hn (by decide) hrows) rfl rfl (by repeat (first | exact Split.nil | (apply Split.cons; (repeat (first | with_reducible exact Take.here | apply Take.there)))))) ?_
  rintro v23 L1 ⟨μ2, o, A0, h2, rfl, rfl, hgd⟩
  refine swl_app ?_
  refine s_pu (pu_assign rfl) ?_
  refine swl_sub _ (.cons (t := 5) rfl (.cons (t := 7) rfl .nil)) ?_
  refine swl_nil ?_
  refine then_n ?_
  refine swp_seq ?_
  refine swp_seq ?_
  refine swp_region ?_
  refine s_pu (pu_move rfl) ?_
  refine s_pu (pu_ptr_eq_nil rfl rfl) ?_
  refine swl_sub _ (.cons (t := 5) rfl (.cons (t := 7) rfl (.cons (t := 25) rfl .nil))) ?_
  refine swl_nil ?_
  refine then_n ?_
  refine swp_cond (b := _) rfl (fun h25 => ?_) (fun h25 => ?_)
  · skip   -- 25 T
    refine swp_seq ?_
    refine swp_region ?_
    refine s_pu (pu_assign rfl) ?_
    refine swl_sub _ (.cons (t := 6) rfl .nil) ?_
    refine swl_nil ?_
    refine then_n ?_
    refine swp_ret ?_
    refine then_r ?_
    exact done_ret [ro μ2] (.tmp rfl .nil) ⟨rfl, μ2, [], h1.trans h2, rfl⟩ (by repeat (first | exact Split.nil | (apply Split.cons; (repeat (first | with_reducible exact Take.here | apply Take.there)))))
  · skip   -- 25 F
    obtain ⟨p, v', vn, gs, rfl, hS, rfl⟩ : ∃ p v' vn gs, o = some ⟨p, 0, none⟩ ∧ GS μ2 v' vn (G.take (min G.length 3000)) gs kn.toNat ∧ A0 = gA p v' vn (G.take (min G.length 3000)).length noAsk := by
      rcases hgd with ⟨rfl, _⟩ | h
      · cases h25
      · exact h
    generalize G.take (min G.length 3000) = Gm at *
    have hml := hS.hn
    have hT2 := (hT.le h1).le h2
    obtain ⟨vx, xs, _, hxl, rx, sx⟩ := cut100 ((hx.le h1).le h2)
    obtain ⟨vy, ys, _, hyl, ry, sy⟩ := cut100 ((hy.le h1).le h2)
    refine swp_skip ?_
    refine then_n ?_
    refine swp_seq ?_
    refine swp_draw [1, 3, 8, 10] _ [] (by simp only [List.append_nil]; exact Ent.refl _) (by kernel_rfl) ?_
    refine d_pu 0 rfl (pu_indexAddr_arr _ rfl rfl (by omega) (by omega) rfl) (by kernel_rfl) (by kernel_rfl) (by kernel_rfl) ?_
    refine d_rd 1 rfl (rd_load rfl rfl) rfl (by kernel_rfl) (by kernel_rfl) (by kernel_rfl) ?_
    refine d_pu 2 rfl (pu_indexAddr_arr _ rfl rfl (by omega) (by omega) rfl) (by kernel_rfl) (by kernel_rfl) (by kernel_rfl) ?_
    refine d_rd 3 rfl (rd_load rfl rfl) rfl (by kernel_rfl) (by kernel_rfl) (by kernel_rfl) ?_
    refine d_pu 4 rfl (pu_len_row hx rfl) (by kernel_rfl) (by kernel_rfl) (by kernel_rfl) ?_
    refine d_pu 5 rfl (pu_min2 rfl rfl) (by kernel_rfl) (by kernel_rfl) (by kernel_rfl) ?_
    refine d_pu 6 rfl (sx _ _ _ .i64 _ rfl rfl rfl) (by kernel_rfl) (by kernel_rfl) (by kernel_rfl) ?_
    refine d_pu 7 rfl (pu_indexAddr_arr _ rfl rfl (by omega) (by omega) rfl) (by kernel_rfl) (by kernel_rfl) (by kernel_rfl) ?_
    refine d_rd 8 rfl (rd_load rfl rfl) rfl (by kernel_rfl) (by kernel_rfl) (by kernel_rfl) ?_
    refine d_pu 9 rfl (pu_indexAddr_arr _ rfl rfl (by omega) (by omega) rfl) (by kernel_rfl) (by kernel_rfl) (by kernel_rfl) ?_
    refine d_rd 10 rfl (rd_load rfl rfl) rfl (by kernel_rfl) (by kernel_rfl) (by kernel_rfl) ?_
    refine d_pu 11 rfl (pu_len_row hy rfl) (by kernel_rfl) (by kernel_rfl) (by kernel_rfl) ?_
    refine d_pu 12 rfl (pu_min2 rfl rfl) (by kernel_rfl) (by kernel_rfl) (by kernel_rfl) ?_
    refine d_pu 13 rfl (sy _ _ _ .i64 _ rfl rfl rfl) (by kernel_rfl) (by kernel_rfl) (by kernel_rfl) ?_
    refine d_pu 14 rfl (pu_assign rfl) (by kernel_rfl) (by kernel_rfl) (by kernel_rfl) ?_
    refine d_pu 15 rfl (pu_assign rfl) (by kernel_rfl) (by kernel_rfl) (by kernel_rfl) ?_
    refine d_sub _ (.cons (t := 7) rfl (.cons (t := 8) rfl (.cons (t := 9) rfl .nil))) ?_
    first | refine d_nilt (by kernel_rfl) ?_ | refine d_nilf (by kernel_rfl) ?_
    refine then_n ?_
    refine swp_seq ?_
    refine swp_region ?_
    refine s_pu (pu_move rfl) ?_
    refine s_ef (ef_fn (copied_spec μ2 vx xs rx (by omega)) rfl rfl (by repeat (first | exact Split.nil | (apply Split.cons; (repeat (first | with_reducible exact Take.here | apply Take.there)))))) ?_
    rintro v41 L1 rfl
    refine swl_app ?_
    refine swl_share_own (v := v41) (μ := μ2) (by repeat (first | exact Split.nil | (apply Split.cons; (repeat (first | with_reducible exact Take.here | apply Take.there))))) fun μ3 h3 r41 => ?_
    refine s_pu (pu_move rfl) ?_
    refine s_ef (ef_fn (copied_spec μ3 vy ys (ry.le h3) (by omega)) rfl rfl (by repeat (first | exact Split.nil | (apply Split.cons; (repeat (first | with_reducible exact Take.here | apply Take.there)))))) ?_
    rintro v43 L1 rfl
    refine swl_app ?_
    refine swl_share_own (v := v43) (μ := μ3) (by repeat (first | exact Split.nil | (apply Split.cons; (repeat (first | with_reducible exact Take.here | apply Take.there))))) fun μ4 h4 r43 => ?_
    have hS4 := (hS.le h3).le h4
    refine s_pu (pu_assign rfl) ?_
    refine s_pu (pu_assign rfl) ?_
    refine swl_sub _ (.cons (t := 7) rfl (.cons (t := 8) rfl (.cons (t := 9) rfl (.cons (t := 10) rfl (.cons (t := 11) rfl .nil))))) ?_
    refine swl_nil ?_
    refine then_n ?_
    refine swp_seq ?_
    refine swp_region ?_
    refine s_pu (pu_move rfl) ?_
    refine s_pu (pu_iface rfl) ?_
    refine s_pu (pu_move rfl) ?_
    refine s_ef (ef_fn (g_reach hS4 p noAsk (fun _ => Nat.zero_le _) v41 xs ((hT2.le h3).le h4) (r41.le h4) (by omega)) rfl rfl (by repeat (first | exact Split.nil | (apply Split.cons; (repeat (first | with_reducible exact Take.here | apply Take.there)))))) ?_
    rintro v48 L1 ⟨lv, zs, μ5, hz, h5, rfl, rfl⟩
    refine swl_app ?_
    refine s_pu (pu_move rfl) ?_
    first | refine s_pu (pu_extractL rfl) ?_ | refine s_pu (pu_extract rfl rfl) ?_
    first | refine s_pu (pu_extractL rfl) ?_ | refine s_pu (pu_extract rfl rfl) ?_
    refine s_pu (pu_assign rfl) ?_
    refine s_pu (pu_assign rfl) ?_
    refine swl_sub _ (.cons (t := 7) rfl (.cons (t := 8) rfl (.cons (t := 9) rfl (.cons (t := 10) rfl (.cons (t := 11) rfl (.cons (t := 12) rfl (.cons (t := 13) rfl .nil))))))) ?_
    refine swl_nil ?_
    refine then_n ?_
    refine swp_seq ?_
    refine swp_ent (Split.ent' (K := [gA p v' vn Gm.length (zs.foldl ask1 noAsk), own 3 1 lv (reachA (nums Gm) xs).length ((reachA (nums Gm) xs).flatMap (icsk .i64)), ro μ5]) (by repeat (first | exact Split.nil | (apply Split.cons; (repeat (first | with_reducible exact Take.here | apply Take.there)))))) ?_
    refine swp_ex fun va => ?_
    simp only [List.cons_append, List.nil_append]
    have hS5 := hS4.le h5
    refine swp_region ?_
    refine s_pu (pu_move rfl) ?_
    first | refine s_pu (pu_nilCheck rfl) ?_ | refine s_pu (pu_nilCheck_fn rfl) ?_ | refine s_pu (pu_nilCheck_if rfl) ?_
    first | refine s_pu (pu_fieldAddr0 rfl) ?_ | refine s_pu (pu_fieldAddr rfl) ?_
    refine s_rd (rd_load rfl rfl) ?_
    refine s_pu (pu_move rfl) ?_
    refine s_ef (ef_fn (rreach_spec μ5 v' vx Gm xs hS5.hG (by omega) hS5.good (((rx.le h3).le h4).le h5)) rfl rfl (by repeat (first | exact Split.nil | (apply Split.cons; (repeat (first | with_reducible exact Take.here | apply Take.there)))))) ?_
    rintro v57 L1 ⟨rv, rfl, rfl⟩
    refine swl_app ?_
    refine s_pu (pu_move rfl) ?_
    first | refine s_pu (pu_extractL rfl) ?_ | refine s_pu (pu_extract rfl rfl) ?_
    first | refine s_pu (pu_extractL rfl) ?_ | refine s_pu (pu_extract rfl rfl) ?_
    refine s_pu (pu_assign rfl) ?_
    refine s_pu (pu_assign rfl) ?_
    refine swl_sub _ (.cons (t := 7) rfl (.cons (t := 8) rfl (.cons (t := 9) rfl (.cons (t := 10) rfl (.cons (t := 11) rfl (.cons (t := 12) rfl (.cons (t := 13) rfl (.cons (t := 14) rfl (.cons (t := 15) rfl .nil))))))))) ?_
    refine swl_nil ?_
    refine then_n ?_
    refine swp_seq ?_
    refine swp_seq ?_
    generalize hRA : reachA (nums Gm) xs = RA at *
    refine swp_share_own (v := rv) (μ := μ5) (by repeat (first | exact Split.nil | (apply Split.cons; (repeat (first | with_reducible exact Take.here | apply Take.there))))) fun μ6 h6 rr => ?_
    have hS6 := hS5.le h6
    refine swp_ent (Split.ent' (K := [blk p 33 [v', vn, va], own 3 1 va Gm.length (askV Gm.length (zs.foldl ask1 noAsk)), own 3 1 lv RA.length (RA.flatMap (icsk .i64)), ro μ6]) (by repeat (first | exact Split.nil | (apply Split.cons; (repeat (first | with_reducible exact Take.here | apply Take.there)))))) ?_
    refine swp_ent gA_close ?_
    refine swp_fact (fun m h => own_shape (by repeat (first | with_reducible exact Take.here | apply Take.there)) h) fun hs => ?_
    refine swp_region ?_
    refine s_pu (pu_move rfl) ?_
    refine s_pu (pu_move rfl) ?_
    refine s_pu (pu_neq rfl rfl) ?_
    refine s_pu (pu_move rfl) ?_
    refine s_split 63 rfl (fun h63 => by exfalso; simp at h63) (fun h63 => ?_)
    refine s_on rfl rfl ?_
    refine s_pu (pu_move rfl) ?_
    refine s_on rfl rfl ?_
    refine s_pu (pu_move rfl) ?_
    refine s_on rfl rfl ?_
    refine s_ef (ef_fn (samelist_i lv rv RA RA [gA p v' vn Gm.length (zs.foldl ask1 noAsk), own 3 1 lv RA.length (RA.flatMap (icsk .i64)), ro μ6] (ints_own hs (by repeat (first | with_reducible exact Take.here | apply Take.there))) (Ints.row rr)) rfl rfl (by repeat (first | exact Split.nil | (apply Split.cons; (repeat (first | with_reducible exact Take.here | apply Take.there)))))) ?_
    rintro v66 L1 ⟨rfl, rfl⟩
    refine swl_app ?_
    refine s_on rfl rfl ?_
    refine s_pu (pu_not rfl) ?_
    first | refine s_pu (pu_pick_t rfl rfl) ?_ | refine s_pu (pu_pick_f rfl rfl) ?_
    refine s_pu (pu_move rfl) ?_
    refine s_split 69 rfl (fun h69 => by exfalso; simp at h69) (fun h69 => ?_)
    refine s_on rfl rfl ?_
    refine s_pu (pu_move rfl) ?_
    refine s_on rfl rfl ?_
    refine s_ef (ef_fn (twice_spec p Gm.length v' vn (zs.foldl ask1 noAsk) (by omega)) rfl rfl (by repeat (first | exact Split.nil | (apply Split.cons; (repeat (first | with_reducible exact Take.here | apply Take.there)))))) ?_
    rintro v71 L1 ⟨rfl, rfl⟩
    refine swl_app ?_
    first | refine s_pu (pu_pick_t rfl rfl) ?_ | refine s_pu (pu_pick_f rfl rfl) ?_
    refine swl_sub _ (.cons (t := 7) rfl (.cons (t := 8) rfl (.cons (t := 9) rfl (.cons (t := 10) rfl (.cons (t := 11) rfl (.cons (t := 12) rfl (.cons (t := 72) rfl .nil))))))) ?_
    refine swl_nil ?_
    refine then_n ?_
    refine swp_cond (b := _) rfl (fun h72 => by exfalso; rw [twice_no hz.1] at h72; cases h72) (fun h72 => ?_)
    refine swp_skip ?_
    refine then_n ?_
    refine swp_seq ?_
    have hRl : RA.length ≤ 1048576 := by have := reachA_len (nums Gm) xs; rw [hRA, List.length_map] at this; omega
    refine swp_region ?_
    refine s_pu (pu_move rfl) ?_
    refine s_ef (ef_fn (spoilt_spec lv RA hRl) rfl rfl (by repeat (first | exact Split.nil | (apply Split.cons; (repeat (first | with_reducible exact Take.here | apply Take.there)))))) ?_
    rintro v74 L1 rfl
    refine swl_app ?_
    refine swl_sub _ (.cons (t := 7) rfl (.cons (t := 8) rfl (.cons (t := 9) rfl (.cons (t := 10) rfl (.cons (t := 11) rfl .nil))))) ?_
    refine swl_nil ?_
    refine then_n ?_
    refine swp_seq ?_
    refine swp_region ?_
    refine s_pu (pu_move rfl) ?_
    refine s_ef (ef_fn (forget_spec p Gm.length v' vn (zs.foldl ask1 noAsk) (by omega) hS.hG.1.sl) rfl rfl (by repeat (first | exact Split.nil | (apply Split.cons; (repeat (first | with_reducible exact Take.here | apply Take.there)))))) ?_
    rintro v76 L1 ⟨rfl, rfl⟩
    refine swl_app ?_
    refine swl_sub _ (.cons (t := 7) rfl (.cons (t := 8) rfl (.cons (t := 9) rfl (.cons (t := 10) rfl (.cons (t := 11) rfl .nil))))) ?_
    refine swl_nil ?_
    refine then_n ?_
    refine swp_seq ?_
    refine swp_region ?_
    refine s_pu (pu_move rfl) ?_
    refine s_pu (pu_iface rfl) ?_
    refine s_pu (pu_move rfl) ?_
    refine s_pu (pu_move rfl) ?_
    refine s_ef (ef_fn (g_only hS6 p noAsk (fun _ => Nat.zero_le _) v41 v43 xs ys ((((hT2.le h3).le h4).le h5).le h6) (((r41.le h4).le h5).le h6) ((r43.le h5).le h6) (by omega) (by omega)) rfl rfl (by repeat (first | exact Split.nil | (apply Split.cons; (repeat (first | with_reducible exact Take.here | apply Take.there)))))) ?_
    rintro v82 L1 ⟨lw, zt, μ7, hzt, h7, rfl, rfl⟩
    refine swl_app ?_
    refine s_pu (pu_move rfl) ?_
    first | refine s_pu (pu_extractL rfl) ?_ | refine s_pu (pu_extract rfl rfl) ?_
    first | refine s_pu (pu_extractL rfl) ?_ | refine s_pu (pu_extract rfl rfl) ?_
    refine s_pu (pu_assign rfl) ?_
    refine s_pu (pu_assign rfl) ?_
    refine swl_sub _ (.cons (t := 7) rfl (.cons (t := 8) rfl (.cons (t := 9) rfl (.cons (t := 10) rfl (.cons (t := 11) rfl (.cons (t := 12) rfl (.cons (t := 13) rfl .nil))))))) ?_
    refine swl_nil ?_
    refine then_n ?_
    refine swp_seq ?_
    refine swp_ent (Split.ent' (K := [gA p v' vn Gm.length (zt.foldl ask1 noAsk), own 3 1 lw (onlyA (nums Gm) xs ys).length ((onlyA (nums Gm) xs ys).flatMap (icsk .i64)), ro μ7]) (by repeat (first | exact Split.nil | (apply Split.cons; (repeat (first | with_reducible exact Take.here | apply Take.there)))))) ?_
    refine swp_ex fun vb => ?_
    simp only [List.cons_append, List.nil_append]
    have hS7 := hS6.le h7
    have l27 := h3.trans (h4.trans (h5.trans (h6.trans h7)))
    refine swp_region ?_
    refine s_pu (pu_move rfl) ?_
    first | refine s_pu (pu_nilCheck rfl) ?_ | refine s_pu (pu_nilCheck_fn rfl) ?_ | refine s_pu (pu_nilCheck_if rfl) ?_
    first | refine s_pu (pu_fieldAddr0 rfl) ?_ | refine s_pu (pu_fieldAddr rfl) ?_
    refine s_rd (rd_load rfl rfl) ?_
    refine s_pu (pu_move rfl) ?_
    refine s_pu (pu_move rfl) ?_
    refine s_ef (ef_fn (ronly_spec μ7 v' vx vy Gm xs ys hS7.hG (by omega) hS7.good (rx.le l27) (ry.le l27)) rfl rfl (by repeat (first | exact Split.nil | (apply Split.cons; (repeat (first | with_reducible exact Take.here | apply Take.there)))))) ?_
    rintro v92 L1 ⟨rw1, rfl, rfl⟩
    refine swl_app ?_
    refine s_pu (pu_move rfl) ?_
    first | refine s_pu (pu_extractL rfl) ?_ | refine s_pu (pu_extract rfl rfl) ?_
    first | refine s_pu (pu_extractL rfl) ?_ | refine s_pu (pu_extract rfl rfl) ?_
    refine s_pu (pu_assign rfl) ?_
    refine s_pu (pu_assign rfl) ?_
    refine swl_sub _ (.cons (t := 7) rfl (.cons (t := 8) rfl (.cons (t := 9) rfl (.cons (t := 10) rfl (.cons (t := 11) rfl (.cons (t := 12) rfl (.cons (t := 13) rfl (.cons (t := 14) rfl (.cons (t := 15) rfl .nil))))))))) ?_
    refine swl_nil ?_
    refine then_n ?_
    refine swp_seq ?_
    refine swp_seq ?_
    have hOl := onlyA_len (nums Gm) xs ys
    rw [List.length_map] at hOl
    generalize hOAe : onlyA (nums Gm) xs ys = OA at *
    refine swp_share_own (v := rw1) (μ := μ7) (by repeat (first | exact Split.nil | (apply Split.cons; (repeat (first | with_reducible exact Take.here | apply Take.there))))) fun μ8 h8 rr2 => ?_
    have hS8 := hS7.le h8
    refine swp_ent (Split.ent' (K := [blk p 33 [v', vn, vb], own 3 1 vb Gm.length (askV Gm.length (zt.foldl ask1 noAsk)), own 3 1 lw OA.length (OA.flatMap (icsk .i64)), ro μ8]) (by repeat (first | exact Split.nil | (apply Split.cons; (repeat (first | with_reducible exact Take.here | apply Take.there)))))) ?_
    refine swp_ent gA_close ?_
    refine swp_fact (fun m h => own_shape (by repeat (first | with_reducible exact Take.here | apply Take.there)) h) fun hs2 => ?_
    have l48 := h5.trans (h6.trans (h7.trans h8))
    refine swp_region ?_
    refine s_pu (pu_move rfl) ?_
    refine s_pu (pu_move rfl) ?_
    refine s_pu (pu_neq rfl rfl) ?_
    refine s_pu (pu_move rfl) ?_
    refine s_split 98 rfl (fun h98 => by exfalso; simp at h98) (fun h98 => ?_)
    refine s_on rfl rfl ?_
    refine s_pu (pu_move rfl) ?_
    refine s_on rfl rfl ?_
    refine s_pu (pu_move rfl) ?_
    refine s_on rfl rfl ?_
    refine s_ef (ef_fn (samelist_i lw rw1 OA OA [gA p v' vn Gm.length (zt.foldl ask1 noAsk), own 3 1 lw OA.length (OA.flatMap (icsk .i64)), ro μ8] (ints_own hs2 (by repeat (first | with_reducible exact Take.here | apply Take.there))) (Ints.row rr2)) rfl rfl (by repeat (first | exact Split.nil | (apply Split.cons; (repeat (first | with_reducible exact Take.here | apply Take.there)))))) ?_
    rintro v101 L1 ⟨rfl, rfl⟩
    refine swl_app ?_
    refine s_on rfl rfl ?_
    refine s_pu (pu_not rfl) ?_
    first | refine s_pu (pu_pick_t rfl rfl) ?_ | refine s_pu (pu_pick_f rfl rfl) ?_
    refine s_pu (pu_move rfl) ?_
    refine s_split 104 rfl (fun h104 => by exfalso; simp at h104) (fun h104 => ?_)
    refine s_on rfl rfl ?_
    refine s_pu (pu_move rfl) ?_
    refine s_on rfl rfl ?_
    refine s_ef (ef_fn (twice_spec p Gm.length v' vn (zt.foldl ask1 noAsk) (by omega)) rfl rfl (by repeat (first | exact Split.nil | (apply Split.cons; (repeat (first | with_reducible exact Take.here | apply Take.there)))))) ?_
    rintro v106 L1 ⟨rfl, rfl⟩
    refine swl_app ?_
    first | refine s_pu (pu_pick_t rfl rfl) ?_ | refine s_pu (pu_pick_f rfl rfl) ?_
    refine s_pu (pu_move rfl) ?_
    refine s_split 108 rfl (fun h108 => by exfalso; rw [twice_no hzt.1] at h108; cases h108) (fun h108 => ?_)
    refine s_on rfl rfl ?_
    refine s_pu (pu_move rfl) ?_
    refine s_on rfl rfl ?_
    refine s_pu (pu_move rfl) ?_
    refine s_on rfl rfl ?_
    refine s_ef (ef_fn (samelist_i v41 vx xs xs [ro μ8] (Ints.row ((r41.le h4).le l48)) (Ints.row ((rx.le l27).le h8))) rfl rfl (by repeat (first | exact Split.nil | (apply Split.cons; (repeat (first | with_reducible exact Take.here | apply Take.there)))))) ?_
    rintro v111 L1 ⟨rfl, rfl⟩
    refine swl_app ?_
    refine s_on rfl rfl ?_
    refine s_pu (pu_not rfl) ?_
    first | refine s_pu (pu_pick_t rfl rfl) ?_ | refine s_pu (pu_pick_f rfl rfl) ?_
    refine s_pu (pu_move rfl) ?_
    refine s_split 114 rfl (fun h114 => by exfalso; simp at h114) (fun h114 => ?_)
    refine s_on rfl rfl ?_
    refine s_pu (pu_move rfl) ?_
    refine s_on rfl rfl ?_
    refine s_pu (pu_move rfl) ?_
    refine s_on rfl rfl ?_
    refine s_ef (ef_fn (samelist_i v43 vy ys ys [ro μ8] (Ints.row (r43.le l48)) (Ints.row ((ry.le l27).le h8))) rfl rfl (by repeat (first | exact Split.nil | (apply Split.cons; (repeat (first | with_reducible exact Take.here | apply Take.there)))))) ?_
    rintro v117 L1 ⟨rfl, rfl⟩
    refine swl_app ?_
    refine s_on rfl rfl ?_
    refine s_pu (pu_not rfl) ?_
    first | refine s_pu (pu_pick_t rfl rfl) ?_ | refine s_pu (pu_pick_f rfl rfl) ?_
    refine swl_sub _ (.cons (t := 7) rfl (.cons (t := 10) rfl (.cons (t := 11) rfl (.cons (t := 12) rfl (.cons (t := 14) rfl (.cons (t := 119) rfl .nil)))))) ?_
    refine swl_nil ?_
    refine then_n ?_
    refine swp_cond (b := _) rfl (fun h119 => by exfalso; simp at h119) (fun h119 => ?_)
    refine swp_skip ?_
    refine then_n ?_
    refine swp_seq ?_
    refine swp_region ?_
    refine s_pu (pu_move rfl) ?_
    refine s_ef (ef_fn (spoilt_spec lw OA (by omega)) rfl rfl (by repeat (first | exact Split.nil | (apply Split.cons; (repeat (first | with_reducible exact Take.here | apply Take.there)))))) ?_
    rintro v121 L1 rfl
    refine swl_app ?_
    refine swl_sub _ (.cons (t := 7) rfl (.cons (t := 10) rfl (.cons (t := 11) rfl (.cons (t := 14) rfl .nil)))) ?_
    refine swl_nil ?_
    refine then_n ?_
    refine swp_seq ?_
    refine swp_region ?_
    refine s_pu (pu_move rfl) ?_
    refine s_pu (pu_iface rfl) ?_
    refine s_pu (pu_move rfl) ?_
    refine s_pu (pu_move rfl) ?_
    refine s_ef (ef_fn (g_only hS8 p (zt.foldl ask1 noAsk) (fun c => by have : (zt.foldl ask1 noAsk) c ≤ 0 + 1 := ask_le hzt.1 (Nat.le_refl _); omega) v41 v43 xs ys (((((hT2.le h3).le h4).le h5).le h6).le (h7.trans h8)) ((r41.le h4).le l48) (r43.le l48) (by omega) (by omega)) rfl rfl (by repeat (first | exact Split.nil | (apply Split.cons; (repeat (first | with_reducible exact Take.here | apply Take.there)))))) ?_
    rintro v127 L1 ⟨lx, zu, μ9, hzu, h9, rfl, rfl⟩
    refine swl_app ?_
    rw [hOAe]
    refine s_pu (pu_move rfl) ?_
    first | refine s_pu (pu_extractL rfl) ?_ | refine s_pu (pu_extract rfl rfl) ?_
    first | refine s_pu (pu_extractL rfl) ?_ | refine s_pu (pu_extract rfl rfl) ?_
    refine s_pu (pu_assign rfl) ?_
    refine s_pu (pu_assign rfl) ?_
    refine swl_sub _ (.cons (t := 14) rfl (.cons (t := 16) rfl .nil)) ?_
    refine swl_nil ?_
    refine then_n ?_
    refine swp_seq ?_
    refine swp_fact (fun m h => own_shape (by repeat (first | with_reducible exact Take.here | apply Take.there)) h) fun hs3 => ?_
    refine swp_ent (Split.ent' (K := [own 3 1 lx OA.length (OA.flatMap (icsk .i64)), ro μ9]) (by repeat (first | exact Split.nil | (apply Split.cons; (repeat (first | with_reducible exact Take.here | apply Take.there)))))) ?_
    refine swp_region ?_
    refine s_pu (pu_move rfl) ?_
    refine s_pu (pu_move rfl) ?_
    refine s_ef (ef_fn (samelist_i lx rw1 OA OA [own 3 1 lx OA.length (OA.flatMap (icsk .i64)), ro μ9] (ints_own hs3 .here) (Ints.row (rr2.le h9))) rfl rfl (by repeat (first | exact Split.nil | (apply Split.cons; (repeat (first | with_reducible exact Take.here | apply Take.there)))))) ?_
    rintro v132 L1 ⟨rfl, rfl⟩
    refine swl_app ?_
    refine s_pu (pu_assign rfl) ?_
    refine swl_sub _ (.cons (t := 6) rfl .nil) ?_
    refine swl_nil ?_
    refine then_n ?_
    refine swp_ret ?_
    exact done_ret [ro μ9] (.tmp rfl .nil) ⟨congrArg Value.bool (decide_eq_true rfl), μ9, [], h1.trans (h2.trans (l27.trans (h8.trans h9))), rfl⟩ (by repeat (first | exact Split.nil | (apply Split.cons; (repeat (first | with_reducible exact Take.here | apply Take.there)))))
end SX
namespace SX
open Go Go.Proofs

theorem cutK {v : Value} {μ : PH} {xs : List Int} (m : Nat) (hv : Row μ v 1 xs.length (xs.flatMap (icsk .i64))) : ∃ (v' : Value) (ys : List Int), ys = xs.take (min xs.length m) ∧ ys.length ≤ m ∧ Row μ v' 1 ys.length (ys.flatMap (icsk .i64)) ∧ ∀ (env : Env) (x y : Operand) (ki : IntKind) (hi : Int), evalE env x = some v → evalE env y = some (.int ki hi) → hi = min (xs.length : Int) m → Pu Tryd.prog env (.slice 31 x none (some y) none) v' := by
  obtain ⟨v', h1, h2⟩ := row_take hv (min xs.length m) (Nat.min_le_left _ _)
  exact ⟨v', _, rfl, by rw [List.length_take]; omega, h1, fun env x y ki hi a b c => h2 env x y ki hi a b (by omega)⟩
theorem asked_le {n m : Nat} {zs : List Nat} {a : Nat → Nat} (h : askedIn n zs) (ha : ∀ c, a c ≤ m) : ∀ c, (zs.foldl ask1 a) c ≤ m + 1 := fun c => ask_le h.1 (ha c)
theorem reachE_unk (g : List (List Int)) (xs : List Int) : reachE g xs = if unkB g.length xs = true then 9 else 0 := askedE_one _ _
theorem onlyE_unk (g : List (List Int)) (xs ys : List Int) : onlyE g xs ys = if (unkB g.length xs || unkB g.length ys) = true then 9 else 0 := askedE_two _ _ _
theorem onlyA_self (g : List (List Int)) (xs : List Int) : onlyA g xs xs = [] := by
  unfold onlyA
  split
  · unfold elsTo
    rw [List.filter_eq_nil_iff.2]
    · rfl
    · intro k _; unfold onlyS; cases anyUp g g.length xs k <;> simp
  · rfl
theorem elsTo_mem {n : Nat} {S : Nat → Bool} {c : Int} : c ∈ elsTo n S ↔ ∃ k : Nat, c = k ∧ k < n ∧ S k = true := by
  unfold elsTo numsI
  rw [List.mem_map]
  constructor
  · rintro ⟨k, hk, rfl⟩
    rw [List.mem_filter, List.mem_range] at hk
    exact ⟨k, rfl, hk⟩
  · rintro ⟨k, rfl, h⟩
    exact ⟨k, by rw [List.mem_filter, List.mem_range]; exact h, rfl⟩
theorem elsTo_filter (n : Nat) (S : Nat → Bool) (q : Int → Bool) : (elsTo n S).filter q = elsTo n (fun k => S k && q (k : Nat)) := by
  unfold elsTo numsI
  rw [List.filter_map, List.filter_filter]
  congr 1
  apply List.filter_congr
  intro k _
  rw [Bool.and_comm]; rfl
theorem only_filter {g : List (List Int)} (hg : Good g) {xs ys : List Int} (h : onlyE g xs ys = 0) : onlyA g xs ys = (reachA g xs).filter (fun c => !decide (c ∈ reachA g ys)) ∧ reachE g xs = 0 ∧ reachE g ys = 0 := by
  have hh := onlyE_unk g xs ys
  rw [h] at hh
  have hx : unkB g.length xs = false := by cases hb : unkB g.length xs <;> simp [hb] at hh ⊢
  have hy : unkB g.length ys = false := by cases hb : unkB g.length ys <;> simp [hb] at hh ⊢
  have ex : reachE g xs = 0 := by rw [reachE_unk, hx]; rfl
  have ey : reachE g ys = 0 := by rw [reachE_unk, hy]; rfl
  refine ⟨?_, ex, ey⟩
  rw [reachA_any hg xs, if_pos ex, reachA_any hg ys, if_pos ey, elsTo_filter, onlyA, if_pos h]
  refine elsTo_ext fun k hk => ?_
  unfold onlyS
  rw [decide_eq_true hk, Bool.true_and]
  congr 1
  rw [Bool.eq_iff_iff, Bool.not_eq_true', Bool.not_eq_true', decide_eq_false_iff_not, elsTo_mem]
  constructor
  · rintro h2 ⟨k', e, _, h3⟩
    have : k' = k := by omega
    subst this; rw [h2] at h3; cases h3
  · intro h2
    cases hb : anyUp g g.length ys k with
    | false => rfl
    | true => exact absurd ⟨k, rfl, hk, hb⟩ h2
set_option maxHeartbeats 4000000 in
theorem walksplit_spec (μ : PH) (v v1 v2 : Value) (G : List (Value × List Int)) (xs0 ys0 : List Int) (hT : RowAt μ 0 0 tabV) (hG : Graph μ v G) (hn : G.length ≤ 1048576) (hrows : ∀ x ∈ G, x.2.length ≤ 1048576)
    (hx : Row μ v1 1 xs0.length (xs0.flatMap (icsk .i64))) (hy : Row μ v2 1 ys0.length (ys0.flatMap (icsk .i64))) :
    Spec Tryd.prog 7 [v, v1, v2] [ro μ] (LawOk μ) := by
  obtain ⟨A1, c1, hv1⟩ := hx.sl
  obtain ⟨A2, c2, hv2⟩ := hy.sl
  subst hv1 hv2
  refine Spec.of 165 Tryd.func7 rfl rfl rfl ?_
  refine swp_seq ?_
  refine swp_region ?_
  refine s_pu (pu_assign rfl) ?_
  refine swl_sub _ (.cons (t := 0) rfl (.cons (t := 1) rfl (.cons (t := 2) rfl .nil))) ?_
  refine swl_nil ?_
  refine then_n ?_
  refine swp_seq ?_
  refine swp_seq ?_
  refine swp_region ?_
  refine s_ef (ef_fn (walks_spec μ hT) rfl rfl (by repeat (first | exact Split.nil | (apply Split.cons; (repeat (first | with_reducible exact Take.here | apply Take.there)))))) ?_
  rintro v23 L1 ⟨rfl, μ1, h1, rfl⟩
  refine swl_app ?_
  refine s_pu (pu_not rfl) ?_
  refine swl_sub _ (.cons (t := 0) rfl (.cons (t := 1) rfl (.cons (t := 2) rfl (.cons (t := 24) rfl .nil)))) ?_
  refine swl_nil ?_
  refine then_n ?_
  refine swp_cond (b := _) rfl (fun h24 => by cases h24) (fun h24 => ?_)
  refine swp_skip ?_
  refine then_n ?_
  refine swp_seq ?_
  refine swp_region ?_
  refine s_pu (pu_move rfl) ?_
  refine s_ef (ef_fn (good2_spec μ1 v G 500 500 (hG.le h1) hn (by decide) hrows) rfl rfl (by repeat (first | exact Split.nil | (apply Split.cons; (repeat (first | with_reducible exact Take.here | apply Take.there)))))) ?_
  rintro v26 L1 ⟨μ2, o, A0, h2, rfl, rfl, hgd⟩
  refine swl_app ?_
  refine s_pu (pu_assign rfl) ?_
  refine swl_sub _ (.cons (t := 1) rfl (.cons (t := 2) rfl (.cons (t := 7) rfl .nil))) ?_
  refine swl_nil ?_
  refine then_n ?_
  refine swp_seq ?_
  refine swp_seq ?_
  refine swp_region ?_
  refine s_pu (pu_move rfl) ?_
  refine s_pu (pu_ptr_eq_nil rfl rfl) ?_
  refine swl_sub _ (.cons (t := 1) rfl (.cons (t := 2) rfl (.cons (t := 7) rfl (.cons (t := 28) rfl .nil)))) ?_
  refine swl_nil ?_
  refine then_n ?_
  refine swp_cond (b := _) rfl (fun h28 => ?_) (fun h28 => ?_)
  · skip   -- 28 T
    refine swp_seq ?_
    refine swp_region ?_
    refine s_pu (pu_assign rfl) ?_
    refine swl_sub _ (.cons (t := 6) rfl .nil) ?_
    refine swl_nil ?_
    refine then_n ?_
    refine swp_ret ?_
    refine then_r ?_
    exact done_ret [ro μ2] (.tmp rfl .nil) ⟨rfl, μ2, [], h1.trans h2, rfl⟩ (by repeat (first | exact Split.nil | (apply Split.cons; (repeat (first | with_reducible exact Take.here | apply Take.there)))))
  · skip   -- 28 F
    obtain ⟨p, v', vn, gs, rfl, hS, rfl⟩ : ∃ p v' vn gs, o = some ⟨p, 0, none⟩ ∧ GS μ2 v' vn (G.take (min G.length 500)) gs (500 : Int).toNat ∧ A0 = gA p v' vn (G.take (min G.length 500)).length noAsk := by
      rcases hgd with ⟨rfl, _⟩ | h
      · cases h28
      · exact h
    generalize G.take (min G.length 500) = Gm at *
    have hml := hS.hn
    have hT2 := (hT.le h1).le h2
    obtain ⟨vx, xs, _, hxl, rx, sx⟩ := cutK 20 ((hx.le h1).le h2)
    obtain ⟨vy, ys, _, hyl, ry, sy⟩ := cutK 20 ((hy.le h1).le h2)
    refine swp_skip ?_
    refine then_n ?_
    refine swp_seq ?_
    refine swp_draw [] _ [] (by simp only [List.append_nil]; exact Ent.refl _) (by kernel_rfl) ?_
    refine d_pu 0 rfl (pu_move rfl) (by kernel_rfl) (by kernel_rfl) (by kernel_rfl) ?_
    refine d_pu 1 rfl (pu_move rfl) (by kernel_rfl) (by kernel_rfl) (by kernel_rfl) ?_
    refine d_pu 2 rfl (pu_len_row hx rfl) (by kernel_rfl) (by kernel_rfl) (by kernel_rfl) ?_
    refine d_pu 3 rfl (pu_min2 rfl rfl) (by kernel_rfl) (by kernel_rfl) (by kernel_rfl) ?_
    refine d_pu 4 rfl (sx _ _ _ .i64 _ rfl rfl rfl) (by kernel_rfl) (by kernel_rfl) (by kernel_rfl) ?_
    refine d_pu 5 rfl (pu_move rfl) (by kernel_rfl) (by kernel_rfl) (by kernel_rfl) ?_
    refine d_pu 6 rfl (pu_move rfl) (by kernel_rfl) (by kernel_rfl) (by kernel_rfl) ?_
    refine d_pu 7 rfl (pu_len_row hy rfl) (by kernel_rfl) (by kernel_rfl) (by kernel_rfl) ?_
    refine d_pu 8 rfl (pu_min2 rfl rfl) (by kernel_rfl) (by kernel_rfl) (by kernel_rfl) ?_
    refine d_pu 9 rfl (sy _ _ _ .i64 _ rfl rfl rfl) (by kernel_rfl) (by kernel_rfl) (by kernel_rfl) ?_
    refine d_pu 10 rfl (pu_assign rfl) (by kernel_rfl) (by kernel_rfl) (by kernel_rfl) ?_
    refine d_pu 11 rfl (pu_assign rfl) (by kernel_rfl) (by kernel_rfl) (by kernel_rfl) ?_
    refine d_sub _ (.cons (t := 1) rfl (.cons (t := 2) rfl (.cons (t := 7) rfl .nil))) ?_
    first | refine d_nilt (by kernel_rfl) ?_ | refine d_nilf (by kernel_rfl) ?_
    refine then_n ?_
    refine swp_seq ?_
    refine swp_region ?_
    refine s_pu (pu_move rfl) ?_
    refine s_pu (pu_iface rfl) ?_
    refine s_pu (pu_move rfl) ?_
    refine s_ef (ef_fn (g_reach hS p noAsk (fun _ => Nat.zero_le _) vx xs hT2 rx (by omega)) rfl rfl (by repeat (first | exact Split.nil | (apply Split.cons; (repeat (first | with_reducible exact Take.here | apply Take.there)))))) ?_
    rintro v43 L1 ⟨la, z1, μ3, hz1, h3, rfl, rfl⟩
    refine swl_app ?_
    have a1 := asked_le hz1 (a := noAsk) (m := 0) (fun _ => Nat.le_refl _)
    generalize z1.foldl ask1 noAsk = A1' at *
    refine swl_share_own (v := la) (μ := μ3) (by repeat (first | exact Split.nil | (apply Split.cons; (repeat (first | with_reducible exact Take.here | apply Take.there))))) fun μ4 h4 ra => ?_
    have l24 := h3.trans h4
    refine s_pu (pu_move rfl) ?_
    first | refine s_pu (pu_extractL rfl) ?_ | refine s_pu (pu_extract rfl rfl) ?_
    first | refine s_pu (pu_extractL rfl) ?_ | refine s_pu (pu_extract rfl rfl) ?_
    refine s_pu (pu_assign rfl) ?_
    refine s_pu (pu_assign rfl) ?_
    refine swl_sub _ (.cons (t := 1) rfl (.cons (t := 2) rfl (.cons (t := 7) rfl (.cons (t := 8) rfl (.cons (t := 9) rfl .nil))))) ?_
    refine swl_nil ?_
    refine then_n ?_
    refine swp_seq ?_
    refine swp_region ?_
    refine s_pu (pu_move rfl) ?_
    refine s_pu (pu_iface rfl) ?_
    refine s_pu (pu_move rfl) ?_
    refine s_ef (ef_fn (g_reach (hS.le l24) p A1' (fun c => by have := a1 c; omega) vy ys (hT2.le l24) (ry.le l24) (by omega)) rfl rfl (by repeat (first | exact Split.nil | (apply Split.cons; (repeat (first | with_reducible exact Take.here | apply Take.there)))))) ?_
    rintro v50 L1 ⟨lb, z2, μ5, hz2, h5, rfl, rfl⟩
    refine swl_app ?_
    have a2 := asked_le hz2 a1
    generalize z2.foldl ask1 A1' = A2' at *
    refine swl_share_own (v := lb) (μ := μ5) (by repeat (first | exact Split.nil | (apply Split.cons; (repeat (first | with_reducible exact Take.here | apply Take.there))))) fun μ6 h6 rb => ?_
    have l26 := l24.trans (h5.trans h6)
    refine s_pu (pu_move rfl) ?_
    first | refine s_pu (pu_extractL rfl) ?_ | refine s_pu (pu_extract rfl rfl) ?_
    first | refine s_pu (pu_extractL rfl) ?_ | refine s_pu (pu_extract rfl rfl) ?_
    refine s_pu (pu_assign rfl) ?_
    refine s_pu (pu_assign rfl) ?_
    refine swl_sub _ (.cons (t := 1) rfl (.cons (t := 2) rfl (.cons (t := 7) rfl (.cons (t := 8) rfl (.cons (t := 9) rfl (.cons (t := 10) rfl (.cons (t := 11) rfl .nil))))))) ?_
    refine swl_nil ?_
    refine then_n ?_
    refine swp_seq ?_
    refine swp_region ?_
    refine s_pu (pu_move rfl) ?_
    refine s_pu (pu_iface rfl) ?_
    refine s_pu (pu_move rfl) ?_
    refine s_pu (pu_move rfl) ?_
    refine s_ef (ef_fn (g_only (hS.le l26) p A2' (fun c => by have := a2 c; omega) vx vy xs ys (hT2.le l26) (rx.le l26) (ry.le l26) (by omega) (by omega)) rfl rfl (by repeat (first | exact Split.nil | (apply Split.cons; (repeat (first | with_reducible exact Take.here | apply Take.there)))))) ?_
    rintro v58 L1 ⟨lc, z3, μ7, hz3, h7, rfl, rfl⟩
    refine swl_app ?_
    have a3 := asked_le hz3 a2
    generalize z3.foldl ask1 A2' = A3' at *
    refine swl_share_own (v := lc) (μ := μ7) (by repeat (first | exact Split.nil | (apply Split.cons; (repeat (first | with_reducible exact Take.here | apply Take.there))))) fun μ8 h8 rc => ?_
    have l28 := l26.trans (h7.trans h8)
    refine s_pu (pu_move rfl) ?_
    first | refine s_pu (pu_extractL rfl) ?_ | refine s_pu (pu_extract rfl rfl) ?_
    first | refine s_pu (pu_extractL rfl) ?_ | refine s_pu (pu_extract rfl rfl) ?_
    refine s_pu (pu_assign rfl) ?_
    refine s_pu (pu_assign rfl) ?_
    refine swl_sub _ (.cons (t := 1) rfl (.cons (t := 2) rfl (.cons (t := 7) rfl (.cons (t := 8) rfl (.cons (t := 9) rfl (.cons (t := 10) rfl (.cons (t := 11) rfl (.cons (t := 12) rfl (.cons (t := 13) rfl .nil))))))))) ?_
    refine swl_nil ?_
    refine then_n ?_
    refine swp_seq ?_
    refine swp_region ?_
    refine s_pu (pu_move rfl) ?_
    refine s_pu (pu_iface rfl) ?_
    refine s_pu (pu_move rfl) ?_
    refine s_pu (pu_move rfl) ?_
    refine s_ef (ef_fn (g_only (hS.le l28) p A3' (fun c => by have := a3 c; omega) vx vx xs xs (hT2.le l28) (rx.le l28) (rx.le l28) (by omega) (by omega)) rfl rfl (by repeat (first | exact Split.nil | (apply Split.cons; (repeat (first | with_reducible exact Take.here | apply Take.there)))))) ?_
    rintro v66 L1 ⟨ld, z4, μ9, hz4, h9, rfl, rfl⟩
    refine swl_app ?_
    generalize z4.foldl ask1 A3' = A4' at *
    rw [onlyA_self]
    refine swl_share_own (v := ld) (μ := μ9) (by repeat (first | exact Split.nil | (apply Split.cons; (repeat (first | with_reducible exact Take.here | apply Take.there))))) fun μ10 h10 rd => ?_
    have l210 := l28.trans (h9.trans h10)
    refine s_pu (pu_move rfl) ?_
    first | refine s_pu (pu_extractL rfl) ?_ | refine s_pu (pu_extract rfl rfl) ?_
    first | refine s_pu (pu_extractL rfl) ?_ | refine s_pu (pu_extract rfl rfl) ?_
    refine s_pu (pu_assign rfl) ?_
    refine s_pu (pu_assign rfl) ?_
    refine swl_sub _ (.cons (t := 1) rfl (.cons (t := 2) rfl (.cons (t := 7) rfl (.cons (t := 8) rfl (.cons (t := 9) rfl (.cons (t := 10) rfl (.cons (t := 11) rfl (.cons (t := 12) rfl (.cons (t := 13) rfl (.cons (t := 14) rfl (.cons (t := 15) rfl .nil))))))))))) ?_
    refine swl_nil ?_
    refine then_n ?_
    refine swp_seq ?_
    refine swp_ent (Split.ent' (K := [gA p v' vn Gm.length A4', ro μ10]) (by repeat (first | exact Split.nil | (apply Split.cons; (repeat (first | with_reducible exact Take.here | apply Take.there)))))) ?_
    refine swp_ex fun va => ?_
    simp only [List.cons_append, List.nil_append]
    have hln : (nums Gm).length = Gm.length := List.length_map _
    have eE : reachE (nums Gm) xs = if unkB Gm.length xs = true then 9 else 0 := by rw [reachE_unk, hln]
    have fE : reachE (nums Gm) ys = if unkB Gm.length ys = true then 9 else 0 := by rw [reachE_unk, hln]
    have hE : onlyE (nums Gm) xs ys = if (unkB Gm.length xs || unkB Gm.length ys) = true then 9 else 0 := by rw [onlyE_unk, hln]
    have iE : onlyE (nums Gm) xs xs = reachE (nums Gm) xs := by rw [onlyE_unk, reachE_unk, Bool.or_self]
    refine swp_region ?_
    refine s_pu (pu_move rfl) ?_
    first | refine s_pu (pu_nilCheck rfl) ?_ | refine s_pu (pu_nilCheck_fn rfl) ?_ | refine s_pu (pu_nilCheck_if rfl) ?_
    first | refine s_pu (pu_fieldAddr0 rfl) ?_ | refine s_pu (pu_fieldAddr rfl) ?_
    refine s_rd (rd_load rfl rfl) ?_
    refine s_pu (pu_move rfl) ?_
    refine s_ef (ef_fn (unknown_spec v' vx Gm.length xs [ro μ10] hS.hG.1.sl (Ints.row (rx.le l210))) rfl rfl (by repeat (first | exact Split.nil | (apply Split.cons; (repeat (first | with_reducible exact Take.here | apply Take.there)))))) ?_
    rintro v74 L1 ⟨rfl, rfl⟩
    refine swl_app ?_
    refine s_pu (pu_assign rfl) ?_
    refine swl_sub _ (.cons (t := 2) rfl (.cons (t := 7) rfl (.cons (t := 8) rfl (.cons (t := 9) rfl (.cons (t := 10) rfl (.cons (t := 11) rfl (.cons (t := 12) rfl (.cons (t := 13) rfl (.cons (t := 14) rfl (.cons (t := 15) rfl (.cons (t := 16) rfl .nil))))))))))) ?_
    refine swl_nil ?_
    refine then_n ?_
    refine swp_seq ?_
    refine swp_seq ?_
    refine swp_ent (Split.ent' (K := [blk p 33 [v', vn, va], ro μ10]) (by repeat (first | exact Split.nil | (apply Split.cons; (repeat (first | with_reducible exact Take.here | apply Take.there)))))) ?_
    rw [iE]
    refine swp_region ?_
    refine s_pu (pu_move rfl) ?_
    refine s_pu (pu_neq rfl rfl) ?_
    refine s_pu (pu_move rfl) ?_
    refine s_pu (pu_bool_ne rfl rfl) ?_
    refine s_pu (pu_move rfl) ?_
    refine s_split 79 rfl (fun h79 => by exfalso; rw [eE] at h79; cases hu : unkB Gm.length xs <;> simp [hu] at h79) (fun h79 => ?_)
    refine s_on rfl rfl ?_
    refine s_pu (pu_move rfl) ?_
    refine s_on rfl rfl ?_
    refine s_pu (pu_neq rfl rfl) ?_
    refine s_on rfl rfl ?_
    refine s_pu (pu_move rfl) ?_
    refine s_on rfl rfl ?_
    refine s_pu (pu_move rfl) ?_
    refine s_split 83 rfl (fun h83 => ?_) (fun h83 => ?_)
    · skip   -- 83 T
      refine s_off rfl rfl rfl ?_
      refine s_off rfl rfl rfl ?_
      refine s_off rfl rfl rfl ?_
      refine s_off rfl rfl rfl ?_
      refine s_off rfl rfl rfl ?_
      refine s_off rfl rfl rfl ?_
      refine s_on rfl rfl ?_
      first | refine s_pu (pu_pick_t rfl rfl) ?_ | refine s_pu (pu_pick_f rfl rfl) ?_
      refine s_on rfl rfl ?_
      refine s_pu (pu_bool_ne rfl rfl) ?_
      first | refine s_pu (pu_pick_t rfl rfl) ?_ | refine s_pu (pu_pick_f rfl rfl) ?_
      refine s_pu (pu_move rfl) ?_
      refine s_split 93 rfl (fun h93 => by exfalso; rw [hE, h83] at h93; simp at h93) (fun h93 => ?_)
      refine s_on rfl rfl ?_
      refine s_pu (pu_move rfl) ?_
      refine s_on rfl rfl ?_
      refine s_pu (pu_eql rfl rfl) ?_
      refine s_on rfl rfl ?_
      refine s_pu (pu_move rfl) ?_
      refine s_on rfl rfl ?_
      first | refine s_pu (pu_nilCheck rfl) ?_ | refine s_pu (pu_nilCheck_fn rfl) ?_ | refine s_pu (pu_nilCheck_if rfl) ?_
      refine s_on rfl rfl ?_
      first | refine s_pu (pu_fieldAddr0 rfl) ?_ | refine s_pu (pu_fieldAddr rfl) ?_
      refine s_on rfl rfl ?_
      refine s_rd (rd_load rfl rfl) ?_
      refine s_on rfl rfl ?_
      refine s_pu (pu_move rfl) ?_
      refine s_on rfl rfl ?_
      refine s_ef (ef_fn (unknown_spec v' vy Gm.length ys [ro μ10] hS.hG.1.sl (Ints.row (ry.le l210))) rfl rfl (by repeat (first | exact Split.nil | (apply Split.cons; (repeat (first | with_reducible exact Take.here | apply Take.there)))))) ?_
      rintro v101 L1 ⟨rfl, rfl⟩
      refine swl_app ?_
      refine s_on rfl rfl ?_
      refine s_pu (pu_bool_eq rfl rfl) ?_
      first | refine s_pu (pu_pick_t rfl rfl) ?_ | refine s_pu (pu_pick_f rfl rfl) ?_
      refine s_pu (pu_move rfl) ?_
      refine s_split 104 rfl (fun h104 => by exfalso; rw [fE] at h104; cases hu : unkB Gm.length ys <;> simp [hu] at h104) (fun h104 => ?_)
      refine s_on rfl rfl ?_
      refine s_pu (pu_move rfl) ?_
      refine s_on rfl rfl ?_
      refine s_pu (pu_move rfl) ?_
      refine s_on rfl rfl ?_
      refine s_pu (pu_neq rfl rfl) ?_
      first | refine s_pu (pu_pick_t rfl rfl) ?_ | refine s_pu (pu_pick_f rfl rfl) ?_
      refine s_pu (pu_move rfl) ?_
      refine s_split 109 rfl (fun h109 => by exfalso; simp at h109) (fun h109 => ?_)
      refine s_on rfl rfl ?_
      refine s_pu (pu_move rfl) ?_
      refine s_on rfl rfl ?_
      refine s_pu (pu_len_row rd rfl) ?_
      refine s_on rfl rfl ?_
      refine s_pu (pu_neq rfl rfl) ?_
      first | refine s_pu (pu_pick_t rfl rfl) ?_ | refine s_pu (pu_pick_f rfl rfl) ?_
      refine swl_sub _ (.cons (t := 7) rfl (.cons (t := 8) rfl (.cons (t := 10) rfl (.cons (t := 12) rfl (.cons (t := 13) rfl (.cons (t := 113) rfl .nil)))))) ?_
      refine swl_nil ?_
      refine then_n ?_
      refine swp_cond (b := _) rfl (fun h113 => by exfalso; simp at h113) (fun h113 => ?_)
      refine swp_skip ?_
      refine then_n ?_
      refine swp_seq ?_
      refine swp_seq ?_
      refine swp_region ?_
      refine s_pu (pu_move rfl) ?_
      refine s_pu (pu_neq rfl rfl) ?_
      refine swl_sub _ (.cons (t := 7) rfl (.cons (t := 8) rfl (.cons (t := 10) rfl (.cons (t := 12) rfl (.cons (t := 115) rfl .nil))))) ?_
      refine swl_nil ?_
      refine then_n ?_
      refine swp_cond (b := _) rfl (fun h115 => ?_) (fun h115 => by exfalso; rw [hE, h83] at h115; simp at h115)
      have hz : onlyA (nums Gm) xs ys = [] := by
        unfold onlyA
        rw [if_neg]
        intro e; rw [e] at h115; simp at h115
      refine swp_seq ?_
      refine swp_region ?_
      refine s_pu (pu_move rfl) ?_
      refine s_pu (pu_len_row rc rfl) ?_
      refine s_pu (pu_eql rfl rfl) ?_
      refine s_pu (pu_assign rfl) ?_
      refine swl_sub _ (.cons (t := 6) rfl .nil) ?_
      refine swl_nil ?_
      refine then_n ?_
      refine swp_ret ?_
      refine then_r ?_
      exact done_ret [ro μ10] (.tmp rfl .nil) ⟨by rw [hz]; rfl, μ10, [], h1.trans (h2.trans l210), rfl⟩ (by repeat (first | exact Split.nil | (apply Split.cons; (repeat (first | with_reducible exact Take.here | apply Take.there)))))
    · skip   -- 83 F
      refine s_on rfl rfl ?_
      refine s_pu (pu_move rfl) ?_
      refine s_on rfl rfl ?_
      first | refine s_pu (pu_nilCheck rfl) ?_ | refine s_pu (pu_nilCheck_fn rfl) ?_ | refine s_pu (pu_nilCheck_if rfl) ?_
      refine s_on rfl rfl ?_
      first | refine s_pu (pu_fieldAddr0 rfl) ?_ | refine s_pu (pu_fieldAddr rfl) ?_
      refine s_on rfl rfl ?_
      refine s_rd (rd_load rfl rfl) ?_
      refine s_on rfl rfl ?_
      refine s_pu (pu_move rfl) ?_
      refine s_on rfl rfl ?_
      refine s_ef (ef_fn (unknown_spec v' vy Gm.length ys [ro μ10] hS.hG.1.sl (Ints.row (ry.le l210))) rfl rfl (by repeat (first | exact Split.nil | (apply Split.cons; (repeat (first | with_reducible exact Take.here | apply Take.there)))))) ?_
      rintro v89 L1 ⟨rfl, rfl⟩
      refine swl_app ?_
      refine s_on rfl rfl ?_
      first | refine s_pu (pu_pick_t rfl rfl) ?_ | refine s_pu (pu_pick_f rfl rfl) ?_
      refine s_on rfl rfl ?_
      refine s_pu (pu_bool_ne rfl rfl) ?_
      first | refine s_pu (pu_pick_t rfl rfl) ?_ | refine s_pu (pu_pick_f rfl rfl) ?_
      refine s_pu (pu_move rfl) ?_
      refine s_split 93 rfl (fun h93 => by exfalso; rw [hE, h83] at h93; cases hu : unkB Gm.length ys <;> simp [hu] at h93) (fun h93 => ?_)
      refine s_on rfl rfl ?_
      refine s_pu (pu_move rfl) ?_
      refine s_on rfl rfl ?_
      refine s_pu (pu_eql rfl rfl) ?_
      refine s_on rfl rfl ?_
      refine s_pu (pu_move rfl) ?_
      refine s_on rfl rfl ?_
      first | refine s_pu (pu_nilCheck rfl) ?_ | refine s_pu (pu_nilCheck_fn rfl) ?_ | refine s_pu (pu_nilCheck_if rfl) ?_
      refine s_on rfl rfl ?_
      first | refine s_pu (pu_fieldAddr0 rfl) ?_ | refine s_pu (pu_fieldAddr rfl) ?_
      refine s_on rfl rfl ?_
      refine s_rd (rd_load rfl rfl) ?_
      refine s_on rfl rfl ?_
      refine s_pu (pu_move rfl) ?_
      refine s_on rfl rfl ?_
      refine s_ef (ef_fn (unknown_spec v' vy Gm.length ys [ro μ10] hS.hG.1.sl (Ints.row (ry.le l210))) rfl rfl (by repeat (first | exact Split.nil | (apply Split.cons; (repeat (first | with_reducible exact Take.here | apply Take.there)))))) ?_
      rintro v101 L1 ⟨rfl, rfl⟩
      refine swl_app ?_
      refine s_on rfl rfl ?_
      refine s_pu (pu_bool_eq rfl rfl) ?_
      first | refine s_pu (pu_pick_t rfl rfl) ?_ | refine s_pu (pu_pick_f rfl rfl) ?_
      refine s_pu (pu_move rfl) ?_
      refine s_split 104 rfl (fun h104 => by exfalso; rw [fE] at h104; cases hu : unkB Gm.length ys <;> simp [hu] at h104) (fun h104 => ?_)
      refine s_on rfl rfl ?_
      refine s_pu (pu_move rfl) ?_
      refine s_on rfl rfl ?_
      refine s_pu (pu_move rfl) ?_
      refine s_on rfl rfl ?_
      refine s_pu (pu_neq rfl rfl) ?_
      first | refine s_pu (pu_pick_t rfl rfl) ?_ | refine s_pu (pu_pick_f rfl rfl) ?_
      refine s_pu (pu_move rfl) ?_
      refine s_split 109 rfl (fun h109 => by exfalso; simp at h109) (fun h109 => ?_)
      refine s_on rfl rfl ?_
      refine s_pu (pu_move rfl) ?_
      refine s_on rfl rfl ?_
      refine s_pu (pu_len_row rd rfl) ?_
      refine s_on rfl rfl ?_
      refine s_pu (pu_neq rfl rfl) ?_
      first | refine s_pu (pu_pick_t rfl rfl) ?_ | refine s_pu (pu_pick_f rfl rfl) ?_
      refine swl_sub _ (.cons (t := 7) rfl (.cons (t := 8) rfl (.cons (t := 10) rfl (.cons (t := 12) rfl (.cons (t := 13) rfl (.cons (t := 113) rfl .nil)))))) ?_
      refine swl_nil ?_
      refine then_n ?_
      refine swp_cond (b := _) rfl (fun h113 => by exfalso; simp at h113) (fun h113 => ?_)
      refine swp_skip ?_
      refine then_n ?_
      refine swp_seq ?_
      refine swp_seq ?_
      refine swp_region ?_
      refine s_pu (pu_move rfl) ?_
      refine s_pu (pu_neq rfl rfl) ?_
      refine swl_sub _ (.cons (t := 7) rfl (.cons (t := 8) rfl (.cons (t := 10) rfl (.cons (t := 12) rfl (.cons (t := 115) rfl .nil))))) ?_
      refine swl_nil ?_
      refine then_n ?_
      refine swp_cond (b := _) rfl (fun h115 => ?_) (fun h115 => ?_)
      · skip   -- 115 T
        have hz : onlyA (nums Gm) xs ys = [] := by
          unfold onlyA
          rw [if_neg]
          intro e; rw [e] at h115; simp at h115
        refine swp_seq ?_
        refine swp_region ?_
        refine s_pu (pu_move rfl) ?_
        refine s_pu (pu_len_row rc rfl) ?_
        refine s_pu (pu_eql rfl rfl) ?_
        refine s_pu (pu_assign rfl) ?_
        refine swl_sub _ (.cons (t := 6) rfl .nil) ?_
        refine swl_nil ?_
        refine then_n ?_
        refine swp_ret ?_
        refine then_r ?_
        exact done_ret [ro μ10] (.tmp rfl .nil) ⟨by rw [hz]; rfl, μ10, [], h1.trans (h2.trans l210), rfl⟩ (by repeat (first | exact Split.nil | (apply Split.cons; (repeat (first | with_reducible exact Take.here | apply Take.there)))))
      · skip   -- 115 F
        have hz : onlyE (nums Gm) xs ys = 0 := by simpa using h115
        obtain ⟨hO, hrx, hry⟩ := only_filter hS.good hz
        have hOl := onlyA_len (nums Gm) xs ys
        have hRl := reachA_len (nums Gm) xs
        have hBl := reachA_len (nums Gm) ys
        have hRin : ∀ c ∈ reachA (nums Gm) xs, 0 ≤ c ∧ c < Gm.length := fun c hc => by
          rw [reachA, if_pos hrx] at hc
          obtain ⟨k, rfl, hk, _⟩ := elsTo_mem.1 hc
          rw [hln] at hk; omega
        have hBin : ∀ c ∈ reachA (nums Gm) ys, 0 ≤ c ∧ c < Gm.length := fun c hc => by
          rw [reachA, if_pos hry] at hc
          obtain ⟨k, rfl, hk, _⟩ := elsTo_mem.1 hc
          rw [hln] at hk; omega
        have qa := ra.le (h5.trans (h6.trans (h7.trans (h8.trans (h9.trans h10)))))
        have qb := rb.le (h7.trans (h8.trans (h9.trans h10)))
        have qc := rc.le (h9.trans h10)
        rw [hln] at hOl hRl hBl
        rw [hO] at hOl qc
        clear hO
        generalize reachA (nums Gm) xs = RA at *
        generalize reachA (nums Gm) ys = RB at *
        obtain ⟨q, hq⟩ : ∃ q : Int → Bool, q = fun c => !decide (c ∈ RB) := ⟨_, rfl⟩
        rw [← hq] at hOl qc
        refine swp_skip ?_
        refine then_n ?_
        refine swp_seq ?_
        refine swp_region ?_
        refine s_pu (pu_move rfl) ?_
        first | refine s_pu (pu_nilCheck rfl) ?_ | refine s_pu (pu_nilCheck_fn rfl) ?_ | refine s_pu (pu_nilCheck_if rfl) ?_
        first | refine s_pu (pu_fieldAddr0 rfl) ?_ | refine s_pu (pu_fieldAddr rfl) ?_
        refine s_rd (rd_load rfl rfl) ?_
        refine s_pu (pu_len_row hS.hG.1 rfl) ?_
        refine s_ef (ef_make1 Gm.length rfl rfl rfl (by omega) (by simp only [maxLen]; omega)) ?_
        rintro b124
        skip
        refine s_pu (pu_assign rfl) ?_
        refine swl_sub _ (.cons (t := 8) rfl (.cons (t := 10) rfl (.cons (t := 12) rfl (.cons (t := 17) rfl .nil)))) ?_
        refine swl_nil ?_
        refine then_n ?_
        refine swp_seq ?_
        refine swp_seq ?_
        refine swp_region ?_
        refine s_pu (pu_move rfl) ?_
        refine s_pu (pu_len_row qb rfl) ?_
        refine s_pu (pu_move rfl) ?_
        refine swl_sub _ (.cons (t := 8) rfl (.cons (t := 12) rfl (.cons (t := 17) rfl (.cons (t := 125) rfl (.cons (t := 126) rfl (.cons (t := 127) rfl .nil)))))) ?_
        refine swl_nil ?_
        refine then_n ?_
        refine swp_block ?_
        refine swp_ent (Split.ent' (K := [blk b124 4 (List.replicate Gm.length (.bool false)), ro μ10]) (by repeat (first | exact Split.nil | (apply Split.cons; (repeat (first | with_reducible exact Take.here | apply Take.there)))))) ?_
        rw [show List.replicate Gm.length (Value.bool false) = rbs Gm.length (fun j => decide ((j : Int) ∈ RB.take 0)) by rw [rbs_false]; exact rbs_ext fun j _ => by simp]
        refine swp_sub _ (.cons (t := 8) rfl (.cons (t := 12) rfl (.cons (t := 17) rfl (.cons (t := 125) rfl (.cons (t := 126) rfl (.cons (t := 127) rfl .nil)))))) ?_
        refine swp_loop (ι := Nat) (fun i env L => env = [(8, la), (12, lc), (17, .slice (some ⟨b124, 0, none⟩) Gm.length Gm.length), (125, lb), (126, .int .i64 (RB.length : Nat)), (127, .int .i64 (i : Nat))] ∧ L = [blk b124 4 (rbs Gm.length (fun j => decide ((j : Int) ∈ RB.take i))), ro μ10] ∧ i ≤ RB.length) (fun i => RB.length - i) 0 ⟨rfl, rfl, Nat.zero_le _⟩ ?_
        rintro i env L ⟨rfl, rfl, hi⟩
        refine swp_seq ?_
        refine swp_region ?_
        refine s_pu (pu_lss rfl rfl) ?_
        refine swl_sub _ (.cons (t := 8) rfl (.cons (t := 12) rfl (.cons (t := 17) rfl (.cons (t := 125) rfl (.cons (t := 126) rfl (.cons (t := 127) rfl (.cons (t := 128) rfl .nil))))))) ?_
        refine swl_nil ?_
        refine then_n ?_
        refine swp_seq ?_
        refine swp_cond (b := _) rfl (fun h128 => ?_) (fun h128 => ?_)
        · skip   -- 128 T
          have h128' : i < RB.length := by have := of_decide_eq_true h128; omega
          obtain ⟨c, hc⟩ : ∃ c, RB[i]? = some c := ⟨_, List.getElem?_eq_getElem h128'⟩
          obtain ⟨pb, po, pc, hpv, hpc⟩ := qb.at_ hc
          have hcr := hBin c (List.mem_of_getElem? hc)
          obtain ⟨c, rfl⟩ : ∃ k : Nat, c = k := ⟨c.toNat, by omega⟩
          refine swp_skip ?_
          refine then_n ?_
          refine swp_seq ?_
          refine swp_block ?_
          refine swp_seq ?_
          refine swp_region ?_
          refine s_pu (pu_indexAddr (po + i * 1) (congrArg some hpv) rfl (by omega) (by omega) (by rw [Int.toNat_natCast])) ?_
          refine s_rd (rd_ro rfl hpc) ?_
          refine s_pu (pu_assign rfl) ?_
          refine swl_sub _ (.cons (t := 8) rfl (.cons (t := 12) rfl (.cons (t := 17) rfl (.cons (t := 19) rfl (.cons (t := 125) rfl (.cons (t := 126) rfl (.cons (t := 127) rfl .nil))))))) ?_
          refine swl_nil ?_
          refine then_n ?_
          refine swp_region ?_
          refine s_pu (pu_move rfl) ?_
          refine s_pu (pu_move rfl) ?_
          refine s_pu (pu_indexAddr c rfl rfl (by omega) (by omega) (by omega)) ?_
          refine s_ef0 (ef_storeP rfl rfl rfl (by rw [rbs_len]; omega)) ?_
          refine swl_sub _ (.cons (t := 8) rfl (.cons (t := 12) rfl (.cons (t := 17) rfl (.cons (t := 125) rfl (.cons (t := 126) rfl (.cons (t := 127) rfl .nil)))))) ?_
          rw [rbs_set (T := fun j => decide ((j : Int) ∈ RB.take (i + 1))) (fun y hy => by
            rw [List.take_add_one, hc]
            by_cases e : y = c
            · subst e; simp
            · have : (y : Int) ≠ c := by omega
              simp [e, this])]
          refine swl_nil ?_
          refine block_n ?_
          refine then_n ?_
          refine swp_region ?_
          refine s_pu (pu_add_as ((i + 1 : Nat) : Int) rfl rfl (by omega) (by omega) (by omega)) ?_
          refine s_pu (pu_move rfl) ?_
          refine swl_sub _ (.cons (t := 8) rfl (.cons (t := 12) rfl (.cons (t := 17) rfl (.cons (t := 125) rfl (.cons (t := 126) rfl (.cons (t := 127) rfl .nil)))))) ?_
          refine swl_nil ?_
          exact then_n ⟨i + 1, ⟨rfl, rfl, h128'⟩, by omega⟩
        · skip   -- 128 F
          have h128' := of_decide_eq_false h128
          obtain rfl : i = RB.length := by omega
          rw [List.take_length]
          refine swp_exit ?_
          refine then_x ?_
          refine then_x ?_
          refine block_hit rfl ?_
          refine then_n ?_
          refine swp_seq ?_
          refine swp_region ?_
          refine s_pu (pu_assign rfl) ?_
          refine swl_sub _ (.cons (t := 8) rfl (.cons (t := 12) rfl (.cons (t := 17) rfl (.cons (t := 20) rfl .nil)))) ?_
          refine swl_nil ?_
          refine then_n ?_
          refine swp_seq ?_
          refine swp_seq ?_
          refine swp_region ?_
          refine s_pu (pu_move rfl) ?_
          refine s_pu (pu_len_row qa rfl) ?_
          refine s_pu (pu_move rfl) ?_
          refine swl_sub _ (.cons (t := 12) rfl (.cons (t := 17) rfl (.cons (t := 20) rfl (.cons (t := 135) rfl (.cons (t := 136) rfl (.cons (t := 137) rfl .nil)))))) ?_
          refine swl_nil ?_
          refine then_n ?_
          refine swp_block ?_
          refine swp_sub _ (.cons (t := 12) rfl (.cons (t := 17) rfl (.cons (t := 20) rfl (.cons (t := 135) rfl (.cons (t := 136) rfl (.cons (t := 137) rfl .nil)))))) ?_
          refine swp_loop (ι := Nat) (fun i env L => env = [(12, lc), (17, .slice (some ⟨b124, 0, none⟩) Gm.length Gm.length), (20, .int .i64 (((RA.take i).filter q).length : Nat)), (135, la), (136, .int .i64 (RA.length : Nat)), (137, .int .i64 (i : Nat))] ∧ L = [blk b124 4 (rbs Gm.length (fun j => decide ((j : Int) ∈ RB))), ro μ10] ∧ i ≤ RA.length) (fun i => RA.length - i) 0 ⟨rfl, rfl, Nat.zero_le _⟩ ?_
          rintro i env L ⟨rfl, rfl, hi⟩
          refine swp_seq ?_
          refine swp_region ?_
          refine s_pu (pu_lss rfl rfl) ?_
          refine swl_sub _ (.cons (t := 12) rfl (.cons (t := 17) rfl (.cons (t := 20) rfl (.cons (t := 135) rfl (.cons (t := 136) rfl (.cons (t := 137) rfl (.cons (t := 138) rfl .nil))))))) ?_
          refine swl_nil ?_
          refine then_n ?_
          refine swp_seq ?_
          refine swp_cond (b := _) rfl (fun h138 => ?_) (fun h138 => ?_)
          · skip   -- 138 T
            have h138' : i < RA.length := by have := of_decide_eq_true h138; omega
            obtain ⟨c, hc⟩ : ∃ c, RA[i]? = some c := ⟨_, List.getElem?_eq_getElem h138'⟩
            obtain ⟨pb, po, pc, hpv, hpc⟩ := qa.at_ hc
            have hcr := hRin c (List.mem_of_getElem? hc)
            obtain ⟨c, rfl⟩ : ∃ k : Nat, c = k := ⟨c.toNat, by omega⟩
            refine swp_skip ?_
            refine then_n ?_
            refine swp_seq ?_
            refine swp_block ?_
            refine swp_seq ?_
            refine swp_region ?_
            refine s_pu (pu_indexAddr (po + i * 1) (congrArg some hpv) rfl (by omega) (by omega) (by rw [Int.toNat_natCast])) ?_
            refine s_rd (rd_ro rfl hpc) ?_
            refine s_pu (pu_assign rfl) ?_
            refine swl_sub _ (.cons (t := 12) rfl (.cons (t := 17) rfl (.cons (t := 20) rfl (.cons (t := 22) rfl (.cons (t := 135) rfl (.cons (t := 136) rfl (.cons (t := 137) rfl .nil))))))) ?_
            refine swl_nil ?_
            refine then_n ?_
            refine swp_seq ?_
            refine swp_region ?_
            refine s_pu (pu_move rfl) ?_
            refine s_pu (pu_move rfl) ?_
            refine s_pu (pu_indexAddr c rfl rfl (by omega) (by omega) (by omega)) ?_
            refine s_rd (rd_load rfl (rbs_get _ (by omega))) ?_
            refine s_pu (pu_not rfl) ?_
            refine swl_sub _ (.cons (t := 12) rfl (.cons (t := 17) rfl (.cons (t := 20) rfl (.cons (t := 22) rfl (.cons (t := 135) rfl (.cons (t := 136) rfl (.cons (t := 137) rfl (.cons (t := 145) rfl .nil)))))))) ?_
            refine swl_nil ?_
            refine then_n ?_
            refine swp_cond (b := _) rfl (fun h145 => ?_) (fun h145 => ?_)
            · skip   -- 145 T
              have hqc : q (c : Nat) = true := by rw [hq]; exact h145
              obtain ⟨f1, f2⟩ := filt_at hc hqc
              have f3 := (List.getElem?_eq_some_iff.1 f1).1
              obtain ⟨ob, oo, oc, hov, hoc⟩ := qc.at_ f1
              refine swp_seq ?_
              refine swp_seq ?_
              refine swp_region ?_
              refine s_pu (pu_move rfl) ?_
              refine s_pu (pu_move rfl) ?_
              refine s_pu (pu_len_row qc rfl) ?_
              refine s_pu (pu_geq rfl rfl) ?_
              refine s_pu (pu_move rfl) ?_
              refine s_split 150 rfl (fun h150 => by exfalso; have := of_decide_eq_true h150; omega) (fun h150 => ?_)
              refine s_on rfl rfl ?_
              refine s_pu (pu_move rfl) ?_
              refine s_on rfl rfl ?_
              refine s_pu (pu_move rfl) ?_
              refine s_on rfl rfl ?_
              refine s_pu (pu_indexAddr (oo + ((RA.take i).filter q).length * 1) (congrArg some hov) rfl (by omega) (by omega) (by rw [Int.toNat_natCast])) ?_
              refine s_on rfl rfl ?_
              refine s_rd (rd_ro rfl hoc) ?_
              refine s_on rfl rfl ?_
              refine s_pu (pu_move rfl) ?_
              refine s_on rfl rfl ?_
              refine s_pu (pu_neq rfl rfl) ?_
              first | refine s_pu (pu_pick_t rfl rfl) ?_ | refine s_pu (pu_pick_f rfl rfl) ?_
              refine swl_sub _ (.cons (t := 12) rfl (.cons (t := 17) rfl (.cons (t := 20) rfl (.cons (t := 135) rfl (.cons (t := 136) rfl (.cons (t := 137) rfl (.cons (t := 157) rfl .nil))))))) ?_
              refine swl_nil ?_
              refine then_n ?_
              refine swp_cond (b := _) rfl (fun h157 => by exfalso; simp at h157) (fun h157 => ?_)
              refine swp_skip ?_
              refine then_n ?_
              refine swp_region ?_
              refine s_pu (pu_move rfl) ?_
              refine s_pu (pu_add_as (((RA.take (i + 1)).filter q).length : Nat) rfl rfl (by omega) (by omega) (by omega)) ?_
              refine s_pu (pu_assign rfl) ?_
              refine swl_sub _ (.cons (t := 12) rfl (.cons (t := 17) rfl (.cons (t := 20) rfl (.cons (t := 135) rfl (.cons (t := 136) rfl (.cons (t := 137) rfl .nil)))))) ?_
              refine swl_nil ?_
              refine block_n ?_
              refine then_n ?_
              refine swp_region ?_
              refine s_pu (pu_add_as ((i + 1 : Nat) : Int) rfl rfl (by omega) (by omega) (by omega)) ?_
              refine s_pu (pu_move rfl) ?_
              refine swl_sub _ (.cons (t := 12) rfl (.cons (t := 17) rfl (.cons (t := 20) rfl (.cons (t := 135) rfl (.cons (t := 136) rfl (.cons (t := 137) rfl .nil)))))) ?_
              refine swl_nil ?_
              exact then_n ⟨i + 1, ⟨rfl, rfl, h138'⟩, by omega⟩
            · skip   -- 145 F
              have hqc : q (c : Nat) = false := by rw [hq]; exact h145
              have f2 := filt_no hc hqc
              refine swp_skip ?_
              refine block_n ?_
              refine then_n ?_
              refine swp_region ?_
              refine s_pu (pu_add_as ((i + 1 : Nat) : Int) rfl rfl (by omega) (by omega) (by omega)) ?_
              refine s_pu (pu_move rfl) ?_
              refine swl_sub _ (.cons (t := 12) rfl (.cons (t := 17) rfl (.cons (t := 20) rfl (.cons (t := 135) rfl (.cons (t := 136) rfl (.cons (t := 137) rfl .nil)))))) ?_
              refine swl_nil ?_
              exact then_n ⟨i + 1, ⟨by rw [f2], rfl, h138'⟩, by omega⟩
          · skip   -- 138 F
            have h138' := of_decide_eq_false h138
            obtain rfl : i = RA.length := by omega
            refine swp_exit ?_
            refine then_x ?_
            refine then_x ?_
            refine block_hit rfl ?_
            refine then_n ?_
            refine swp_seq ?_
            refine swp_region ?_
            refine s_pu (pu_move rfl) ?_
            refine s_pu (pu_move rfl) ?_
            refine s_pu (pu_len_row qc rfl) ?_
            refine s_pu (pu_eql rfl rfl) ?_
            refine s_pu (pu_assign rfl) ?_
            refine swl_sub _ (.cons (t := 6) rfl .nil) ?_
            refine swl_nil ?_
            refine then_n ?_
            refine swp_ret ?_
            exact done_ret [ro μ10] (.tmp rfl .nil) ⟨by rw [List.take_length]; exact congrArg Value.bool (decide_eq_true rfl), μ10, [], h1.trans (h2.trans l210), rfl⟩ (by repeat (first | exact Split.nil | (apply Split.cons; (repeat (first | with_reducible exact Take.here | apply Take.there)))))
end SX
namespace SX
open Go Go.Proofs

theorem anyUp_one {g : List (List Int)} (hg : Good g) {b : Nat} (hb : b < g.length) (j : Nat) : anyUp g g.length [(b : Int)] j = up g b j := by
  rw [Bool.eq_iff_iff, anyUp_iff hg (fun p hp => by obtain rfl := List.mem_singleton.1 hp; omega), up_iff hg]
  constructor
  · rintro ⟨q, hq, hr⟩
    obtain rfl : q = b := by have := List.mem_singleton.1 hq; omega
    exact hr
  · exact fun h => ⟨b, List.mem_singleton.2 rfl, h⟩
theorem reachE_one {g : List (List Int)} {b : Nat} (hb : b < g.length) : reachE g [(b : Int)] = 0 := by
  unfold reachE askedE inR
  simp [hb]
theorem reachA_one {g : List (List Int)} (hg : Good g) {b : Nat} (hb : b < g.length) {j : Nat} (hj : j < g.length) : decide ((j : Int) ∈ reachA g [(b : Int)]) = up g b j := by
  rw [reachA_any hg, if_pos (reachE_one hb), Bool.eq_iff_iff, decide_eq_true_eq, elsTo_mem]
  constructor
  · rintro ⟨k, e, _, h⟩
    obtain rfl : k = j := by omega
    rwa [anyUp_one hg hb] at h
  · exact fun h => ⟨j, rfl, hj, by rwa [anyUp_one hg hb]⟩
theorem reachA_le {g : List (List Int)} (hg : Good g) {b : Nat} (hb : b < g.length) {c : Int} (hc : c ∈ reachA g [(b : Int)]) : 0 ≤ c ∧ c ≤ b := by
  rw [reachA_any hg, if_pos (reachE_one hb)] at hc
  obtain ⟨k, rfl, _, h⟩ := elsTo_mem.1 hc
  rw [anyUp_one hg hb] at h
  have := up_le hg h
  omega
theorem askedE_pair {n a b : Nat} (ha : a < n) (hb : b < n) : askedE n [[(a : Int), (b : Int)]] = 0 := by
  unfold askedE inR
  simp [ha, hb]
theorem isAnc_in {g : List (List Int)} {a b : Nat} (ha : a < g.length) (hb : b < g.length) : isAnc g (a : Nat) (b : Nat) = up g b a := by
  unfold isAnc
  rw [askedE_pair ha hb, Int.toNat_natCast, Int.toNat_natCast]; rfl
/-- a bound for how often it was asked -/
@[irreducible] def cA : Nat := 1100000
@[irreducible] def cB : Nat := 20000000
theorem cA_eq : cA = 1100000 := by unfold cA; rfl
theorem cB_eq : cB = 20000000 := by unfold cB; rfl
def wpK (b a i : Nat) : Nat := b * cB + a * cA + i
theorem wpK_i {x b a i : Nat} (h : x ≤ wpK b a (i + 2) + 1) : x ≤ wpK b a (i + 1 + 2) := by
  unfold wpK at *
  generalize b * cB + a * cA = z at *
  omega
theorem wpK_a {x b a l : Nat} (h : x ≤ wpK b a (l + 2)) (hl : l ≤ 1048576) : x ≤ wpK b (a + 1) 1 := by
  unfold wpK at *
  rw [Nat.succ_mul]
  have := cA_eq
  generalize b * cB = z at *
  generalize a * cA = y at *
  omega
theorem wpK_b {x b a : Nat} (h : x ≤ wpK b a 1) (ha : a ≤ 14) : x ≤ wpK (b + 1) 0 0 := by
  unfold wpK at *
  rw [Nat.succ_mul]
  have h1 := cA_eq
  have h2 := cB_eq
  have h3 : a * cA ≤ 14 * cA := Nat.mul_le_mul_right _ ha
  generalize b * cB = z at *
  generalize a * cA = y at *
  omega
theorem wpK_top {x b a i : Nat} (h : x ≤ wpK b a i) (hb : b ≤ 14) (ha : a ≤ 14) (hi : i ≤ 1048580) : x ≤ 4000000000 := by
  unfold wpK at *
  have h1 := cA_eq
  have h2 := cB_eq
  have h3 : a * cA ≤ 14 * cA := Nat.mul_le_mul_right _ ha
  have h4 : b * cB ≤ 14 * cB := Nat.mul_le_mul_right _ hb
  generalize b * cB = z at *
  generalize a * cA = y at *
  omega
set_option maxHeartbeats 4000000 in
theorem walkpairs_spec (μ : PH) (v : Value) (G : List (Value × List Int)) (kn : Int) (hT : RowAt μ 0 0 tabV) (hG : Graph μ v G) (hn : G.length ≤ 1048576) (hrows : ∀ x ∈ G, x.2.length ≤ 1048576) (hkn : 0 ≤ kn ∧ kn ≤ 255) :
    Spec Tryd.prog 6 [v, .int .u8 kn] [ro μ] (LawOk μ) := by
  refine Spec.of 130 Tryd.func6 rfl rfl rfl ?_
  refine swp_seq ?_
  refine swp_region ?_
  refine s_pu (pu_assign rfl) ?_
  refine swl_sub _ (.cons (t := 0) rfl (.cons (t := 1) rfl .nil)) ?_
  refine swl_nil ?_
  refine then_n ?_
  refine swp_seq ?_
  refine swp_seq ?_
  refine swp_region ?_
  refine s_ef (ef_fn (walks_spec μ hT) rfl rfl (by repeat (first | exact Split.nil | (apply Split.cons; (repeat (first | with_reducible exact Take.here | apply Take.there)))))) ?_
  rintro v20 L1 ⟨rfl, μ1, h1, rfl⟩
  refine swl_app ?_
  refine s_pu (pu_not rfl) ?_
  refine swl_sub _ (.cons (t := 0) rfl (.cons (t := 1) rfl (.cons (t := 21) rfl .nil))) ?_
  refine swl_nil ?_
  refine then_n ?_
  refine swp_cond (b := _) rfl (fun h21 => by cases h21) (fun h21 => ?_)
  refine swp_skip ?_
  refine then_n ?_
  refine swp_seq ?_
  refine swp_region ?_
  refine s_pu (pu_move rfl) ?_
  refine s_pu (pu_move rfl) ?_
  refine s_pu (pu_conv_i64 rfl (by omega) (by omega)) ?_
  refine s_ef (ef_fn (good2_spec μ1 v G 14 kn (hG.le h1) hn (by decide) hrows) rfl rfl (by repeat (first | exact Split.nil | (apply Split.cons; (repeat (first | with_reducible exact Take.here | apply Take.there)))))) ?_
  rintro v25 L1 ⟨μ2, o, A0, h2, rfl, rfl, hgd⟩
  refine swl_app ?_
  refine s_pu (pu_assign rfl) ?_
  refine swl_sub _ (.cons (t := 5) rfl .nil) ?_
  refine swl_nil ?_
  refine then_n ?_
  refine swp_seq ?_
  refine swp_seq ?_
  refine swp_region ?_
  refine s_pu (pu_move rfl) ?_
  refine s_pu (pu_ptr_eq_nil rfl rfl) ?_
  refine swl_sub _ (.cons (t := 5) rfl (.cons (t := 27) rfl .nil)) ?_
  refine swl_nil ?_
  refine then_n ?_
  refine swp_cond (b := _) rfl (fun h27 => ?_) (fun h27 => ?_)
  · skip   -- 27 T
    refine swp_seq ?_
    refine swp_region ?_
    refine s_pu (pu_assign rfl) ?_
    refine swl_sub _ (.cons (t := 4) rfl .nil) ?_
    refine swl_nil ?_
    refine then_n ?_
    refine swp_ret ?_
    refine then_r ?_
    exact done_ret [ro μ2] (.tmp rfl .nil) ⟨rfl, μ2, [], h1.trans h2, rfl⟩ (by repeat (first | exact Split.nil | (apply Split.cons; (repeat (first | with_reducible exact Take.here | apply Take.there)))))
  · skip   -- 27 F
    obtain ⟨p, v', vn, gs, rfl, hS, hm, rfl⟩ : ∃ p v' vn gs, o = some ⟨p, 0, none⟩ ∧ GS μ2 v' vn (G.take (min G.length 14)) gs kn.toNat ∧ (G.take (min G.length 14)).length ≤ 14 ∧ A0 = gA p v' vn (G.take (min G.length 14)).length noAsk := by
      rcases hgd with ⟨rfl, _⟩ | ⟨p, v', vn, gs, k1, k2, k3⟩
      · cases h27
      · exact ⟨p, v', vn, gs, k1, k2, by rw [List.length_take]; omega, k3⟩
    have hrm : ∀ x ∈ G.take (min G.length 14), x.2.length ≤ 1048576 := fun x hx => hrows x (List.mem_of_mem_take hx)
    generalize G.take (min G.length 14) = Gm at *
    have hT2 := (hT.le h1).le h2
    have hln : (nums Gm).length = Gm.length := List.length_map _
    have hgood := hS.good
    refine swp_ent (Split.ent' (K := [gA p v' vn Gm.length noAsk, ro μ2]) (by repeat (first | exact Split.nil | (apply Split.cons; (repeat (first | with_reducible exact Take.here | apply Take.there)))))) ?_
    refine swp_ex fun va0 => ?_
    simp only [List.cons_append, List.nil_append]
    refine swp_skip ?_
    refine then_n ?_
    refine swp_seq ?_
    refine swp_seq ?_
    refine swp_region ?_
    refine s_pu (pu_move rfl) ?_
    first | refine s_pu (pu_nilCheck rfl) ?_ | refine s_pu (pu_nilCheck_fn rfl) ?_ | refine s_pu (pu_nilCheck_if rfl) ?_
    first | refine s_pu (pu_fieldAddr0 rfl) ?_ | refine s_pu (pu_fieldAddr rfl) ?_
    refine s_rd (rd_load rfl rfl) ?_
    refine s_pu (pu_len_row hS.hG.1 rfl) ?_
    refine s_pu (pu_move rfl) ?_
    refine swl_sub _ (.cons (t := 5) rfl (.cons (t := 32) rfl (.cons (t := 33) rfl .nil))) ?_
    refine swl_nil ?_
    refine then_n ?_
    refine swp_block ?_
    refine swp_ent gA_close ?_
    refine swp_sub _ (.cons (t := 5) rfl (.cons (t := 32) rfl (.cons (t := 33) rfl .nil))) ?_
    refine swp_loop (ι := Nat × PH × (Nat → Nat)) (fun k env L => env = [(5, .pointer (some ⟨p, 0, none⟩)), (32, .int .i64 (Gm.length : Nat)), (33, .int .i64 (k.1 : Nat))] ∧ L = [gA p v' vn Gm.length k.2.2, ro k.2.1] ∧ k.1 ≤ Gm.length ∧ Le μ2 k.2.1 ∧ ∀ c, k.2.2 c ≤ wpK k.1 0 0) (fun k => Gm.length - k.1) (0, μ2, noAsk) ⟨rfl, rfl, Nat.zero_le _, Le.refl _, fun c => Nat.zero_le _⟩ ?_
    rintro ⟨b, μb, ab⟩ env L ⟨rfl, rfl, hb, hlb, hab⟩
    dsimp only at hb hlb hab ⊢
    refine swp_seq ?_
    refine swp_region ?_
    refine s_pu (pu_lss rfl rfl) ?_
    refine swl_sub _ (.cons (t := 5) rfl (.cons (t := 32) rfl (.cons (t := 33) rfl (.cons (t := 34) rfl .nil)))) ?_
    refine swl_nil ?_
    refine then_n ?_
    refine swp_seq ?_
    refine swp_cond (b := _) rfl (fun h34 => ?_) (fun h34 => ?_)
    · skip   -- 34 T
      have h34' : b < Gm.length := by have := of_decide_eq_true h34; omega
      have hbn : b < (nums Gm).length := by omega
      refine swp_skip ?_
      refine then_n ?_
      refine swp_seq ?_
      refine swp_block ?_
      refine swp_seq ?_
      refine swp_region ?_
      refine s_pu (pu_move rfl) ?_
      refine s_pu (pu_assign rfl) ?_
      refine swl_sub _ (.cons (t := 5) rfl (.cons (t := 6) rfl (.cons (t := 32) rfl (.cons (t := 33) rfl .nil)))) ?_
      refine swl_nil ?_
      refine then_n ?_
      refine swp_seq ?_
      refine swp_region ?_
      refine s_pu (pu_move rfl) ?_
      refine s_pu (pu_iface rfl) ?_
      refine s_pu (pu_move rfl) ?_
      refine s_ef (ef_bldS (qs := [(0, _)]) rfl rfl rfl) ?_
      intro b40
      refine swl_share (b := b40) (μ := μb) (by repeat (first | exact Split.nil | (apply Split.cons; (repeat (first | with_reducible exact Take.here | apply Take.there))))) fun μ3 h3 k3 => ?_
      have r3 := row_of_blk (n := 1) (l := 1) (cs := [(b : Int)].flatMap (icsk .i64)) k3 (by rfl) (by decide)
      have l23 := hlb.trans h3
      refine s_ef (ef_fn (g_reach (hS.le l23) p ab (fun c => by have := wpK_top (hab c) (by omega) (by omega) (by omega); omega) _ [(b : Int)] (hT2.le l23) r3 (by simp)) rfl rfl (by repeat (first | exact Split.nil | (apply Split.cons; (repeat (first | with_reducible exact Take.here | apply Take.there)))))) ?_
      rintro v41 L1 ⟨la, z1, μ4, hz1, h4, rfl, rfl⟩
      refine swl_app ?_
      rw [reachE_one hbn]
      have a1 := asked_le hz1 hab
      generalize z1.foldl ask1 ab = A1 at *
      have hRle : ∀ c ∈ reachA (nums Gm) [(b : Int)], 0 ≤ c ∧ c ≤ b := fun c hc => reachA_le hgood hbn hc
      have hRup : ∀ j, j < Gm.length → decide ((j : Int) ∈ reachA (nums Gm) [(b : Int)]) = up (nums Gm) b j := fun j hj => reachA_one hgood hbn (by omega)
      have hRl := reachA_len (nums Gm) [(b : Int)]
      generalize reachA (nums Gm) [(b : Int)] = RA at *
      refine swl_share_own (v := la) (μ := μ4) (by repeat (first | exact Split.nil | (apply Split.cons; (repeat (first | with_reducible exact Take.here | apply Take.there))))) fun μ5 h5 ra => ?_
      have l25 := l23.trans (h4.trans h5)
      refine s_pu (pu_move rfl) ?_
      first | refine s_pu (pu_extractL rfl) ?_ | refine s_pu (pu_extract rfl rfl) ?_
      first | refine s_pu (pu_extractL rfl) ?_ | refine s_pu (pu_extract rfl rfl) ?_
      refine s_pu (pu_assign rfl) ?_
      refine s_pu (pu_assign rfl) ?_
      refine swl_sub _ (.cons (t := 5) rfl (.cons (t := 6) rfl (.cons (t := 7) rfl (.cons (t := 8) rfl (.cons (t := 32) rfl (.cons (t := 33) rfl .nil)))))) ?_
      refine swl_nil ?_
      refine then_n ?_
      refine swp_seq ?_
      refine swp_seq ?_
      refine swp_region ?_
      refine s_pu (pu_move rfl) ?_
      refine s_pu (pu_neq rfl rfl) ?_
      refine swl_sub _ (.cons (t := 5) rfl (.cons (t := 6) rfl (.cons (t := 7) rfl (.cons (t := 32) rfl (.cons (t := 33) rfl (.cons (t := 45) rfl .nil)))))) ?_
      refine swl_nil ?_
      refine then_n ?_
      refine swp_cond (b := _) rfl (fun h45 => by exfalso; simp at h45) (fun h45 => ?_)
      refine swp_skip ?_
      refine then_n ?_
      refine swp_seq ?_
      refine swp_ent (Split.ent' (K := [gA p v' vn Gm.length A1, ro μ5]) (by repeat (first | exact Split.nil | (apply Split.cons; (repeat (first | with_reducible exact Take.here | apply Take.there)))))) ?_
      refine swp_ex fun va1 => ?_
      simp only [List.cons_append, List.nil_append]
      refine swp_region ?_
      refine s_pu (pu_move rfl) ?_
      first | refine s_pu (pu_nilCheck rfl) ?_ | refine s_pu (pu_nilCheck_fn rfl) ?_ | refine s_pu (pu_nilCheck_if rfl) ?_
      first | refine s_pu (pu_fieldAddr0 rfl) ?_ | refine s_pu (pu_fieldAddr rfl) ?_
      refine s_rd (rd_load rfl rfl) ?_
      refine s_pu (pu_len_row hS.hG.1 rfl) ?_
      refine s_ef (ef_make1 Gm.length rfl rfl rfl (by omega) (by simp only [maxLen]; omega)) ?_
      rintro b51
      skip
      refine s_pu (pu_assign rfl) ?_
      refine swl_sub _ (.cons (t := 5) rfl (.cons (t := 6) rfl (.cons (t := 7) rfl (.cons (t := 9) rfl (.cons (t := 32) rfl (.cons (t := 33) rfl .nil)))))) ?_
      refine swl_nil ?_
      refine then_n ?_
      refine swp_seq ?_
      refine swp_seq ?_
      refine swp_region ?_
      refine s_pu (pu_move rfl) ?_
      refine s_pu (pu_len_row ra rfl) ?_
      refine s_pu (pu_move rfl) ?_
      refine swl_sub _ (.cons (t := 5) rfl (.cons (t := 6) rfl (.cons (t := 9) rfl (.cons (t := 32) rfl (.cons (t := 33) rfl (.cons (t := 52) rfl (.cons (t := 53) rfl (.cons (t := 54) rfl .nil)))))))) ?_
      refine swl_nil ?_
      refine then_n ?_
      refine swp_block ?_
      refine swp_ent (Split.ent' (K := [blk p 33 [v', vn, va1], own 3 1 va1 Gm.length (askV Gm.length A1), blk b51 4 (List.replicate Gm.length (.bool false)), ro μ5]) (by repeat (first | exact Split.nil | (apply Split.cons; (repeat (first | with_reducible exact Take.here | apply Take.there)))))) ?_
      refine swp_ent gA_close ?_
      rw [show List.replicate Gm.length (Value.bool false) = rbs Gm.length (fun j => decide ((j : Int) ∈ RA.take 0)) by rw [rbs_false]; exact rbs_ext fun j _ => by simp]
      refine swp_sub _ (.cons (t := 5) rfl (.cons (t := 6) rfl (.cons (t := 9) rfl (.cons (t := 32) rfl (.cons (t := 33) rfl (.cons (t := 52) rfl (.cons (t := 53) rfl (.cons (t := 54) rfl .nil)))))))) ?_
      refine swp_loop (ι := Nat) (fun i env L => env = [(5, .pointer (some ⟨p, 0, none⟩)), (6, .int .i64 (b : Nat)), (9, .slice (some ⟨b51, 0, none⟩) Gm.length Gm.length), (32, .int .i64 (Gm.length : Nat)), (33, .int .i64 (b : Nat)), (52, la), (53, .int .i64 (RA.length : Nat)), (54, .int .i64 (i : Nat))] ∧ L = [gA p v' vn Gm.length A1, blk b51 4 (rbs Gm.length (fun j => decide ((j : Int) ∈ RA.take i))), ro μ5] ∧ i ≤ RA.length) (fun i => RA.length - i) 0 ⟨rfl, rfl, Nat.zero_le _⟩ ?_
      rintro i env L ⟨rfl, rfl, hi⟩
      refine swp_seq ?_
      refine swp_region ?_
      refine s_pu (pu_lss rfl rfl) ?_
      refine swl_sub _ (.cons (t := 5) rfl (.cons (t := 6) rfl (.cons (t := 9) rfl (.cons (t := 32) rfl (.cons (t := 33) rfl (.cons (t := 52) rfl (.cons (t := 53) rfl (.cons (t := 54) rfl (.cons (t := 55) rfl .nil))))))))) ?_
      refine swl_nil ?_
      refine then_n ?_
      refine swp_seq ?_
      refine swp_cond (b := _) rfl (fun h55 => ?_) (fun h55 => ?_)
      · skip   -- 55 T
        have h55' : i < RA.length := by have := of_decide_eq_true h55; omega
        obtain ⟨c, hc⟩ : ∃ c, RA[i]? = some c := ⟨_, List.getElem?_eq_getElem h55'⟩
        obtain ⟨pb, po, pc, hpv, hpc⟩ := ra.at_ hc
        have hcr := hRle c (List.mem_of_getElem? hc)
        obtain ⟨c, rfl⟩ : ∃ k : Nat, c = k := ⟨c.toNat, by omega⟩
        refine swp_skip ?_
        refine then_n ?_
        refine swp_seq ?_
        refine swp_block ?_
        refine swp_seq ?_
        refine swp_region ?_
        refine s_pu (pu_indexAddr (po + i * 1) (congrArg some hpv) rfl (by omega) (by omega) (by rw [Int.toNat_natCast])) ?_
        refine s_rd (rd_ro rfl hpc) ?_
        refine s_pu (pu_assign rfl) ?_
        refine swl_sub _ (.cons (t := 5) rfl (.cons (t := 6) rfl (.cons (t := 9) rfl (.cons (t := 11) rfl (.cons (t := 32) rfl (.cons (t := 33) rfl (.cons (t := 52) rfl (.cons (t := 53) rfl (.cons (t := 54) rfl .nil))))))))) ?_
        refine swl_nil ?_
        refine then_n ?_
        refine swp_seq ?_
        refine swp_seq ?_
        refine swp_region ?_
        refine s_pu (pu_move rfl) ?_
        refine s_pu (pu_lss rfl rfl) ?_
        refine s_pu (pu_move rfl) ?_
        refine s_split 60 rfl (fun h60 => by exfalso; have := of_decide_eq_true h60; omega) (fun h60 => ?_)
        refine s_on rfl rfl ?_
        refine s_pu (pu_move rfl) ?_
        refine s_on rfl rfl ?_
        refine s_pu (pu_move rfl) ?_
        refine s_on rfl rfl ?_
        refine s_pu (pu_gtr rfl rfl) ?_
        first | refine s_pu (pu_pick_t rfl rfl) ?_ | refine s_pu (pu_pick_f rfl rfl) ?_
        refine swl_sub _ (.cons (t := 5) rfl (.cons (t := 6) rfl (.cons (t := 9) rfl (.cons (t := 11) rfl (.cons (t := 32) rfl (.cons (t := 33) rfl (.cons (t := 52) rfl (.cons (t := 53) rfl (.cons (t := 54) rfl (.cons (t := 64) rfl .nil)))))))))) ?_
        refine swl_nil ?_
        refine then_n ?_
        refine swp_cond (b := _) rfl (fun h64 => by exfalso; have := of_decide_eq_true h64; omega) (fun h64 => ?_)
        refine swp_skip ?_
        refine then_n ?_
        refine swp_region ?_
        refine s_pu (pu_move rfl) ?_
        refine s_pu (pu_move rfl) ?_
        refine s_pu (pu_indexAddr c rfl rfl (by omega) (by omega) (by omega)) ?_
        refine s_ef0 (ef_storeP rfl rfl rfl (by rw [rbs_len]; omega)) ?_
        refine swl_sub _ (.cons (t := 5) rfl (.cons (t := 6) rfl (.cons (t := 9) rfl (.cons (t := 32) rfl (.cons (t := 33) rfl (.cons (t := 52) rfl (.cons (t := 53) rfl (.cons (t := 54) rfl .nil)))))))) ?_
        rw [rbs_set (T := fun j => decide ((j : Int) ∈ RA.take (i + 1))) (fun y hy => by
          rw [List.take_add_one, hc]
          by_cases e : y = c
          · subst e; simp
          · have : (y : Int) ≠ c := by omega
            simp [e, this])]
        refine swl_nil ?_
        refine block_n ?_
        refine then_n ?_
        refine swp_region ?_
        refine s_pu (pu_add_as ((i + 1 : Nat) : Int) rfl rfl (by omega) (by omega) (by omega)) ?_
        refine s_pu (pu_move rfl) ?_
        refine swl_sub _ (.cons (t := 5) rfl (.cons (t := 6) rfl (.cons (t := 9) rfl (.cons (t := 32) rfl (.cons (t := 33) rfl (.cons (t := 52) rfl (.cons (t := 53) rfl (.cons (t := 54) rfl .nil)))))))) ?_
        refine swl_nil ?_
        exact then_n ⟨i + 1, ⟨rfl, rfl, h55'⟩, by omega⟩
      · skip   -- 55 F
        have h55' := of_decide_eq_false h55
        obtain rfl : i = RA.length := by omega
        rw [List.take_length, rbs_ext hRup]
        refine swp_exit ?_
        refine then_x ?_
        refine then_x ?_
        refine block_hit rfl ?_
        refine then_n ?_
        refine swp_seq ?_
        refine swp_ent (Split.ent' (K := [gA p v' vn Gm.length A1, blk b51 4 (rbs Gm.length (up (nums Gm) b)), ro μ5]) (by repeat (first | exact Split.nil | (apply Split.cons; (repeat (first | with_reducible exact Take.here | apply Take.there)))))) ?_
        refine swp_ex fun va2 => ?_
        simp only [List.cons_append, List.nil_append]
        refine swp_region ?_
        refine s_pu (pu_move rfl) ?_
        first | refine s_pu (pu_nilCheck rfl) ?_ | refine s_pu (pu_nilCheck_fn rfl) ?_ | refine s_pu (pu_nilCheck_if rfl) ?_
        first | refine s_pu (pu_fieldAddr0 rfl) ?_ | refine s_pu (pu_fieldAddr rfl) ?_
        refine s_rd (rd_load rfl rfl) ?_
        refine s_pu (pu_len_row hS.hG.1 rfl) ?_
        refine s_pu (pu_move rfl) ?_
        refine swl_sub _ (.cons (t := 5) rfl (.cons (t := 6) rfl (.cons (t := 9) rfl (.cons (t := 32) rfl (.cons (t := 33) rfl (.cons (t := 73) rfl (.cons (t := 74) rfl .nil))))))) ?_
        refine swl_nil ?_
        refine then_n ?_
        refine swp_block ?_
        refine swp_ent gA_close ?_
        refine swp_sub _ (.cons (t := 5) rfl (.cons (t := 6) rfl (.cons (t := 9) rfl (.cons (t := 32) rfl (.cons (t := 33) rfl (.cons (t := 73) rfl (.cons (t := 74) rfl .nil))))))) ?_
        refine swp_loop (ι := Nat × PH × (Nat → Nat)) (fun k env L => env = [(5, .pointer (some ⟨p, 0, none⟩)), (6, .int .i64 (b : Nat)), (9, .slice (some ⟨b51, 0, none⟩) Gm.length Gm.length), (32, .int .i64 (Gm.length : Nat)), (33, .int .i64 (b : Nat)), (73, .int .i64 (Gm.length : Nat)), (74, .int .i64 (k.1 : Nat))] ∧ L = [gA p v' vn Gm.length k.2.2, blk b51 4 (rbs Gm.length (up (nums Gm) b)), ro k.2.1] ∧ k.1 ≤ Gm.length ∧ Le μ2 k.2.1 ∧ ∀ c, k.2.2 c ≤ wpK b k.1 1) (fun k => Gm.length - k.1) (0, μ5, A1) ⟨rfl, rfl, Nat.zero_le _, l25, fun c => a1 c⟩ ?_
        rintro ⟨a, μa, aa⟩ env L ⟨rfl, rfl, ha, hla, haa⟩
        dsimp only at ha hla haa ⊢
        refine swp_seq ?_
        refine swp_region ?_
        refine s_pu (pu_lss rfl rfl) ?_
        refine swl_sub _ (.cons (t := 5) rfl (.cons (t := 6) rfl (.cons (t := 9) rfl (.cons (t := 32) rfl (.cons (t := 33) rfl (.cons (t := 73) rfl (.cons (t := 74) rfl (.cons (t := 75) rfl .nil)))))))) ?_
        refine swl_nil ?_
        refine then_n ?_
        refine swp_seq ?_
        refine swp_cond (b := _) rfl (fun h75 => ?_) (fun h75 => ?_)
        · skip   -- 75 T
          have h75' : a < Gm.length := by have := of_decide_eq_true h75; omega
          have han : a < (nums Gm).length := by omega
          refine swp_skip ?_
          refine then_n ?_
          refine swp_seq ?_
          refine swp_block ?_
          refine swp_seq ?_
          refine swp_region ?_
          refine s_pu (pu_move rfl) ?_
          refine s_pu (pu_assign rfl) ?_
          refine swl_sub _ (.cons (t := 5) rfl (.cons (t := 6) rfl (.cons (t := 9) rfl (.cons (t := 12) rfl (.cons (t := 32) rfl (.cons (t := 33) rfl (.cons (t := 73) rfl (.cons (t := 74) rfl .nil)))))))) ?_
          refine swl_nil ?_
          refine then_n ?_
          refine swp_seq ?_
          refine swp_region ?_
          refine s_pu (pu_move rfl) ?_
          refine s_pu (pu_iface rfl) ?_
          refine s_pu (pu_move rfl) ?_
          refine s_pu (pu_move rfl) ?_
          refine s_ef (ef_fn (g_isanc (hS.le hla) p aa (fun c => by have := wpK_top (haa c) (by omega) (by omega) (by omega); omega) a b) rfl rfl (by repeat (first | exact Split.nil | (apply Split.cons; (repeat (first | with_reducible exact Take.here | apply Take.there)))))) ?_
          rintro v82 L1 ⟨z2, μ6, hz2, h6, rfl, rfl⟩
          refine swl_app ?_
          rw [isAnc_in han hbn, askedE_pair han hbn]
          have a2 : ∀ c, (z2.foldl ask1 aa) c ≤ _ := fun c => ask_le hz2.1 (haa c)
          generalize z2.foldl ask1 aa = A2 at *
          have l26 := hla.trans h6
          refine s_pu (pu_move rfl) ?_
          first | refine s_pu (pu_extractL rfl) ?_ | refine s_pu (pu_extract rfl rfl) ?_
          first | refine s_pu (pu_extractL rfl) ?_ | refine s_pu (pu_extract rfl rfl) ?_
          refine s_pu (pu_assign rfl) ?_
          refine s_pu (pu_assign rfl) ?_
          refine swl_sub _ (.cons (t := 5) rfl (.cons (t := 6) rfl (.cons (t := 9) rfl (.cons (t := 12) rfl (.cons (t := 13) rfl (.cons (t := 14) rfl (.cons (t := 32) rfl (.cons (t := 33) rfl (.cons (t := 73) rfl (.cons (t := 74) rfl .nil)))))))))) ?_
          refine swl_nil ?_
          refine then_n ?_
          refine swp_seq ?_
          refine swp_region ?_
          refine s_pu (pu_move rfl) ?_
          refine s_pu (pu_move rfl) ?_
          refine s_pu (pu_eql rfl rfl) ?_
          refine s_pu (pu_assign rfl) ?_
          refine swl_sub _ (.cons (t := 5) rfl (.cons (t := 6) rfl (.cons (t := 9) rfl (.cons (t := 12) rfl (.cons (t := 13) rfl (.cons (t := 14) rfl (.cons (t := 15) rfl (.cons (t := 32) rfl (.cons (t := 33) rfl (.cons (t := 73) rfl (.cons (t := 74) rfl .nil))))))))))) ?_
          refine swl_nil ?_
          refine then_n ?_
          refine swp_seq ?_
          refine swp_seq ?_
          refine swp_ent (Split.ent' (K := [gA p v' vn Gm.length A2, blk b51 4 (rbs Gm.length (up (nums Gm) b)), ro μ6]) (by repeat (first | exact Split.nil | (apply Split.cons; (repeat (first | with_reducible exact Take.here | apply Take.there)))))) ?_
          refine swp_ex fun va3 => ?_
          simp only [List.cons_append, List.nil_append]
          obtain ⟨gb, off, cap, x, hgv, hx, hxc, hxr, hnx⟩ := row_at (hS.le l26).hG h34'
          have hxl := hrm x (List.mem_of_getElem? hx)
          have hxo := rowOf_at hnx
          have hxg := hgood b _ hnx
          refine swp_region ?_
          refine s_pu (pu_move rfl) ?_
          first | refine s_pu (pu_nilCheck rfl) ?_ | refine s_pu (pu_nilCheck_fn rfl) ?_ | refine s_pu (pu_nilCheck_if rfl) ?_
          first | refine s_pu (pu_fieldAddr0 rfl) ?_ | refine s_pu (pu_fieldAddr rfl) ?_
          refine s_rd (rd_load rfl rfl) ?_
          refine s_pu (pu_move rfl) ?_
          refine s_pu (pu_indexAddr (off + b * 1) (congrArg some hgv) rfl (by omega) (by omega) (by rw [Int.toNat_natCast])) ?_
          refine s_rd (rd_ro rfl hxc) ?_
          refine s_pu (pu_len_row hxr rfl) ?_
          refine s_pu (pu_move rfl) ?_
          refine swl_sub _ (.cons (t := 5) rfl (.cons (t := 6) rfl (.cons (t := 9) rfl (.cons (t := 12) rfl (.cons (t := 13) rfl (.cons (t := 14) rfl (.cons (t := 15) rfl (.cons (t := 32) rfl (.cons (t := 33) rfl (.cons (t := 73) rfl (.cons (t := 74) rfl (.cons (t := 94) rfl (.cons (t := 95) rfl (.cons (t := 96) rfl .nil)))))))))))))) ?_
          refine swl_nil ?_
          refine then_n ?_
          refine swp_block ?_
          refine swp_ent (Split.ent' (K := [blk p 33 [v', vn, va3], own 3 1 va3 Gm.length (askV Gm.length A2), blk b51 4 (rbs Gm.length (up (nums Gm) b)), ro μ6]) (by repeat (first | exact Split.nil | (apply Split.cons; (repeat (first | with_reducible exact Take.here | apply Take.there)))))) ?_
          refine swp_ent gA_close ?_
          refine swp_sub _ (.cons (t := 5) rfl (.cons (t := 6) rfl (.cons (t := 9) rfl (.cons (t := 12) rfl (.cons (t := 13) rfl (.cons (t := 14) rfl (.cons (t := 15) rfl (.cons (t := 32) rfl (.cons (t := 33) rfl (.cons (t := 73) rfl (.cons (t := 74) rfl (.cons (t := 94) rfl (.cons (t := 95) rfl (.cons (t := 96) rfl .nil)))))))))))))) ?_
          refine swp_loop (ι := Nat × PH × (Nat → Nat)) (fun k env L => env = [(5, .pointer (some ⟨p, 0, none⟩)), (6, .int .i64 (b : Nat)), (9, .slice (some ⟨b51, 0, none⟩) Gm.length Gm.length), (12, .int .i64 (a : Nat)), (13, .bool (up (nums Gm) b a)), (14, .int .i64 0), (15, .bool (decide ((a : Int) = b) || (x.2.take k.1).any fun q => up (nums Gm) q.toNat a)), (32, .int .i64 (Gm.length : Nat)), (33, .int .i64 (b : Nat)), (73, .int .i64 (Gm.length : Nat)), (74, .int .i64 (a : Nat)), (94, x.1), (95, .int .i64 (x.2.length : Nat)), (96, .int .i64 (k.1 : Nat))] ∧ L = [gA p v' vn Gm.length k.2.2, blk b51 4 (rbs Gm.length (up (nums Gm) b)), ro k.2.1] ∧ k.1 ≤ x.2.length ∧ Le μ6 k.2.1 ∧ ∀ c, k.2.2 c ≤ wpK b a (k.1 + 2)) (fun k => x.2.length - k.1) (0, μ6, A2) ⟨by simp, rfl, Nat.zero_le _, Le.refl _, fun c => a2 c⟩ ?_
          rintro ⟨i, μi, ai⟩ env L ⟨rfl, rfl, hi, hli, hai⟩
          dsimp only at hi hli hai ⊢
          refine swp_seq ?_
          refine swp_region ?_
          refine s_pu (pu_lss rfl rfl) ?_
          refine swl_sub _ (.cons (t := 5) rfl (.cons (t := 6) rfl (.cons (t := 9) rfl (.cons (t := 12) rfl (.cons (t := 13) rfl (.cons (t := 14) rfl (.cons (t := 15) rfl (.cons (t := 32) rfl (.cons (t := 33) rfl (.cons (t := 73) rfl (.cons (t := 74) rfl (.cons (t := 94) rfl (.cons (t := 95) rfl (.cons (t := 96) rfl (.cons (t := 97) rfl .nil))))))))))))))) ?_
          refine swl_nil ?_
          refine then_n ?_
          refine swp_seq ?_
          refine swp_cond (b := _) rfl (fun h97 => ?_) (fun h97 => ?_)
          · skip   -- 97 T
            have h97' : i < x.2.length := by have := of_decide_eq_true h97; omega
            obtain ⟨c, hc⟩ : ∃ c, x.2[i]? = some c := ⟨_, List.getElem?_eq_getElem h97'⟩
            obtain ⟨pb, po, pc, hpv, hpc⟩ := hxr.at_ hc
            have hcr := hxg c (List.mem_of_getElem? hc)
            obtain ⟨c, rfl⟩ : ∃ k : Nat, c = k := ⟨c.toNat, by omega⟩
            have hcn : c < (nums Gm).length := by omega
            have hany : (x.2.take (i + 1)).any (fun q => up (nums Gm) q.toNat a) = ((x.2.take i).any (fun q => up (nums Gm) q.toNat a) || up (nums Gm) c a) := by
              rw [List.take_add_one, hc, List.any_append]; simp
            refine swp_skip ?_
            refine then_n ?_
            refine swp_seq ?_
            refine swp_block ?_
            refine swp_seq ?_
            refine swp_region ?_
            refine s_pu (pu_indexAddr (po + i * 1) (congrArg some hpv) rfl (by omega) (by omega) (by rw [Int.toNat_natCast])) ?_
            refine s_rd (rd_ro rfl (hpc.le hli)) ?_
            refine s_pu (pu_assign rfl) ?_
            refine swl_sub _ (.cons (t := 5) rfl (.cons (t := 6) rfl (.cons (t := 9) rfl (.cons (t := 12) rfl (.cons (t := 13) rfl (.cons (t := 14) rfl (.cons (t := 15) rfl (.cons (t := 17) rfl (.cons (t := 32) rfl (.cons (t := 33) rfl (.cons (t := 73) rfl (.cons (t := 74) rfl (.cons (t := 94) rfl (.cons (t := 95) rfl (.cons (t := 96) rfl .nil))))))))))))))) ?_
            refine swl_nil ?_
            refine then_n ?_
            refine swp_seq ?_
            refine swp_region ?_
            refine s_pu (pu_move rfl) ?_
            refine s_pu (pu_iface rfl) ?_
            refine s_pu (pu_move rfl) ?_
            refine s_pu (pu_move rfl) ?_
            refine s_ef (ef_fn (g_isanc (hS.le (l26.trans hli)) p ai (fun c => by have := wpK_top (hai c) (by omega) (by omega) (by omega); omega) a c) rfl rfl (by repeat (first | exact Split.nil | (apply Split.cons; (repeat (first | with_reducible exact Take.here | apply Take.there)))))) ?_
            rintro v105 L1 ⟨z3, μ7, hz3, h7, rfl, rfl⟩
            refine swl_app ?_
            rw [isAnc_in han hcn, askedE_pair han hcn]
            have a3 : ∀ c, (z3.foldl ask1 ai) c ≤ _ := fun c => ask_le hz3.1 (hai c)
            generalize z3.foldl ask1 ai = A3 at *
            refine s_pu (pu_move rfl) ?_
            first | refine s_pu (pu_extractL rfl) ?_ | refine s_pu (pu_extract rfl rfl) ?_
            first | refine s_pu (pu_extractL rfl) ?_ | refine s_pu (pu_extract rfl rfl) ?_
            refine s_pu (pu_assign rfl) ?_
            refine s_pu (pu_assign rfl) ?_
            refine swl_sub _ (.cons (t := 5) rfl (.cons (t := 6) rfl (.cons (t := 9) rfl (.cons (t := 12) rfl (.cons (t := 13) rfl (.cons (t := 14) rfl (.cons (t := 15) rfl (.cons (t := 18) rfl (.cons (t := 32) rfl (.cons (t := 33) rfl (.cons (t := 73) rfl (.cons (t := 74) rfl (.cons (t := 94) rfl (.cons (t := 95) rfl (.cons (t := 96) rfl .nil))))))))))))))) ?_
            refine swl_nil ?_
            refine then_n ?_
            refine swp_region ?_
            refine s_pu (pu_move rfl) ?_
            refine s_pu (pu_move rfl) ?_
            refine s_split 109 rfl (fun h109 => ?_) (fun h109 => ?_)
            · skip   -- 109 T
              refine s_off rfl rfl rfl ?_
              first | refine s_pu (pu_pick_t rfl rfl) ?_ | refine s_pu (pu_pick_f rfl rfl) ?_
              refine s_pu (pu_assign rfl) ?_
              refine swl_sub _ (.cons (t := 5) rfl (.cons (t := 6) rfl (.cons (t := 9) rfl (.cons (t := 12) rfl (.cons (t := 13) rfl (.cons (t := 14) rfl (.cons (t := 15) rfl (.cons (t := 32) rfl (.cons (t := 33) rfl (.cons (t := 73) rfl (.cons (t := 74) rfl (.cons (t := 94) rfl (.cons (t := 95) rfl (.cons (t := 96) rfl .nil)))))))))))))) ?_
              refine swl_nil ?_
              refine block_n ?_
              refine then_n ?_
              refine swp_region ?_
              refine swl_ent (Split.ent' (K := [gA p v' vn Gm.length A3, blk b51 4 (rbs Gm.length (up (nums Gm) b)), ro μ7]) (by repeat (first | exact Split.nil | (apply Split.cons; (repeat (first | with_reducible exact Take.here | apply Take.there)))))) ?_
              refine s_pu (pu_add_as ((i + 1 : Nat) : Int) rfl rfl (by omega) (by omega) (by omega)) ?_
              refine s_pu (pu_move rfl) ?_
              refine swl_sub _ (.cons (t := 5) rfl (.cons (t := 6) rfl (.cons (t := 9) rfl (.cons (t := 12) rfl (.cons (t := 13) rfl (.cons (t := 14) rfl (.cons (t := 15) rfl (.cons (t := 32) rfl (.cons (t := 33) rfl (.cons (t := 73) rfl (.cons (t := 74) rfl (.cons (t := 94) rfl (.cons (t := 95) rfl (.cons (t := 96) rfl .nil)))))))))))))) ?_
              refine swl_nil ?_
              have hk : ∀ c, A3 c ≤ wpK b a (i + 1 + 2) := fun c => wpK_i (a3 c)
              exact then_n ⟨(i + 1, μ7, A3), ⟨by rw [hany, ← Bool.or_assoc, h109]; rfl, rfl, h97', hli.trans h7, hk⟩, by show x.2.length - (i + 1) < x.2.length - i; omega⟩
            · skip   -- 109 F
              refine s_on rfl rfl ?_
              refine s_pu (pu_move rfl) ?_
              first | refine s_pu (pu_pick_t rfl rfl) ?_ | refine s_pu (pu_pick_f rfl rfl) ?_
              refine s_pu (pu_assign rfl) ?_
              refine swl_sub _ (.cons (t := 5) rfl (.cons (t := 6) rfl (.cons (t := 9) rfl (.cons (t := 12) rfl (.cons (t := 13) rfl (.cons (t := 14) rfl (.cons (t := 15) rfl (.cons (t := 32) rfl (.cons (t := 33) rfl (.cons (t := 73) rfl (.cons (t := 74) rfl (.cons (t := 94) rfl (.cons (t := 95) rfl (.cons (t := 96) rfl .nil)))))))))))))) ?_
              refine swl_nil ?_
              refine block_n ?_
              refine then_n ?_
              refine swp_region ?_
              refine swl_ent (Split.ent' (K := [gA p v' vn Gm.length A3, blk b51 4 (rbs Gm.length (up (nums Gm) b)), ro μ7]) (by repeat (first | exact Split.nil | (apply Split.cons; (repeat (first | with_reducible exact Take.here | apply Take.there)))))) ?_
              refine s_pu (pu_add_as ((i + 1 : Nat) : Int) rfl rfl (by omega) (by omega) (by omega)) ?_
              refine s_pu (pu_move rfl) ?_
              refine swl_sub _ (.cons (t := 5) rfl (.cons (t := 6) rfl (.cons (t := 9) rfl (.cons (t := 12) rfl (.cons (t := 13) rfl (.cons (t := 14) rfl (.cons (t := 15) rfl (.cons (t := 32) rfl (.cons (t := 33) rfl (.cons (t := 73) rfl (.cons (t := 74) rfl (.cons (t := 94) rfl (.cons (t := 95) rfl (.cons (t := 96) rfl .nil)))))))))))))) ?_
              refine swl_nil ?_
              have hk : ∀ c, A3 c ≤ wpK b a (i + 1 + 2) := fun c => wpK_i (a3 c)
              exact then_n ⟨(i + 1, μ7, A3), ⟨by rw [hany, ← Bool.or_assoc, h109]; rfl, rfl, h97', hli.trans h7, hk⟩, by show x.2.length - (i + 1) < x.2.length - i; omega⟩
          · skip   -- 97 F
            have h97' := of_decide_eq_false h97
            obtain rfl : i = x.2.length := by omega
            rw [List.take_length, show (decide ((a : Int) = b) || x.2.any fun q => up (nums Gm) q.toNat a) = up (nums Gm) b a by
              rw [up_through hgood b a, hxo, show decide ((a : Int) = b) = decide (b = a) by rw [Bool.eq_iff_iff, decide_eq_true_eq, decide_eq_true_eq]; omega]]
            refine swp_exit ?_
            refine then_x ?_
            refine then_x ?_
            refine block_hit rfl ?_
            refine then_n ?_
            refine swp_seq ?_
            refine swp_region ?_
            refine s_pu (pu_move rfl) ?_
            refine s_pu (pu_neq rfl rfl) ?_
            refine s_pu (pu_move rfl) ?_
            refine s_split 115 rfl (fun h115 => by exfalso; simp at h115) (fun h115 => ?_)
            refine s_on rfl rfl ?_
            refine s_pu (pu_move rfl) ?_
            refine s_on rfl rfl ?_
            refine s_pu (pu_move rfl) ?_
            refine s_on rfl rfl ?_
            refine s_pu (pu_bool_ne rfl rfl) ?_
            first | refine s_pu (pu_pick_t rfl rfl) ?_ | refine s_pu (pu_pick_f rfl rfl) ?_
            refine s_pu (pu_move rfl) ?_
            refine s_split 120 rfl (fun h120 => by exfalso; simp at h120) (fun h120 => ?_)
            refine s_on rfl rfl ?_
            refine s_pu (pu_move rfl) ?_
            refine s_on rfl rfl ?_
            refine s_pu (pu_move rfl) ?_
            refine s_on rfl rfl ?_
            refine s_pu (pu_move rfl) ?_
            refine s_on rfl rfl ?_
            refine s_pu (pu_indexAddr a rfl rfl (by omega) (by omega) (by omega)) ?_
            refine s_on rfl rfl ?_
            refine s_rd (rd_load rfl (rbs_get _ (by omega))) ?_
            refine s_on rfl rfl ?_
            refine s_pu (pu_bool_ne rfl rfl) ?_
            first | refine s_pu (pu_pick_t rfl rfl) ?_ | refine s_pu (pu_pick_f rfl rfl) ?_
            refine swl_sub _ (.cons (t := 5) rfl (.cons (t := 6) rfl (.cons (t := 9) rfl (.cons (t := 32) rfl (.cons (t := 33) rfl (.cons (t := 73) rfl (.cons (t := 74) rfl (.cons (t := 127) rfl .nil)))))))) ?_
            refine swl_nil ?_
            refine then_n ?_
            refine swp_cond (b := _) rfl (fun h127 => by exfalso; simp at h127) (fun h127 => ?_)
            refine swp_skip ?_
            refine block_n ?_
            refine then_n ?_
            refine swp_region ?_
            refine swl_ent (Split.ent' (K := [gA p v' vn Gm.length ai, blk b51 4 (rbs Gm.length (up (nums Gm) b)), ro μi]) (by repeat (first | exact Split.nil | (apply Split.cons; (repeat (first | with_reducible exact Take.here | apply Take.there)))))) ?_
            refine s_pu (pu_add_as ((a + 1 : Nat) : Int) rfl rfl (by omega) (by omega) (by omega)) ?_
            refine s_pu (pu_move rfl) ?_
            refine swl_sub _ (.cons (t := 5) rfl (.cons (t := 6) rfl (.cons (t := 9) rfl (.cons (t := 32) rfl (.cons (t := 33) rfl (.cons (t := 73) rfl (.cons (t := 74) rfl .nil))))))) ?_
            refine swl_nil ?_
            have hk : ∀ c, ai c ≤ wpK b (a + 1) 1 := fun c => wpK_a (hai c) hxl
            exact then_n ⟨(a + 1, μi, ai), ⟨rfl, rfl, h75', l26.trans hli, hk⟩, by show Gm.length - (a + 1) < Gm.length - a; omega⟩
        · skip   -- 75 F
          have h75' := of_decide_eq_false h75
          refine swp_exit ?_
          refine then_x ?_
          refine then_x ?_
          refine block_hit rfl ?_
          refine block_n ?_
          refine then_n ?_
          refine swp_region ?_
          refine swl_ent (Split.ent' (K := [gA p v' vn Gm.length aa, ro μa]) (by repeat (first | exact Split.nil | (apply Split.cons; (repeat (first | with_reducible exact Take.here | apply Take.there)))))) ?_
          refine s_pu (pu_add_as ((b + 1 : Nat) : Int) rfl rfl (by omega) (by omega) (by omega)) ?_
          refine s_pu (pu_move rfl) ?_
          refine swl_sub _ (.cons (t := 5) rfl (.cons (t := 32) rfl (.cons (t := 33) rfl .nil))) ?_
          refine swl_nil ?_
          have hk : ∀ c, aa c ≤ wpK (b + 1) 0 0 := fun c => wpK_b (haa c) (by omega)
          exact then_n ⟨(b + 1, μa, aa), ⟨rfl, rfl, h34', hla, hk⟩, by show Gm.length - (b + 1) < Gm.length - b; omega⟩
    · skip   -- 34 F
      refine swp_exit ?_
      refine then_x ?_
      refine then_x ?_
      refine block_hit rfl ?_
      refine then_n ?_
      refine swp_seq ?_
      refine swp_region ?_
      refine s_pu (pu_assign rfl) ?_
      refine swl_sub _ (.cons (t := 4) rfl .nil) ?_
      refine swl_nil ?_
      refine then_n ?_
      refine swp_ret ?_
      exact done_ret [ro μb] (.tmp rfl .nil) ⟨rfl, μb, [], h1.trans (h2.trans hlb), rfl⟩ (by repeat (first | exact Split.nil | (apply Split.cons; (repeat (first | with_reducible exact Take.here | apply Take.there)))))
end SX
namespace SX
open Go Go.Proofs

theorem falls_els {n : Nat} {D : List Nat} (h : Falls D) (hn : ∀ j ∈ D, j < n) : elsTo n (fun j => decide (j ∈ D)) = numsI D.reverse := by
  unfold elsTo
  congr 1
  have key : ((List.range n).filter fun j => decide (j ∈ D)).reverse = D := by
    refine falls_ext ?_ h fun j => ?_
    · unfold Falls
      rw [List.pairwise_reverse]
      exact List.pairwise_lt_range.filter _
    · rw [List.mem_reverse, List.mem_filter, List.mem_range, decide_eq_true_eq]
      exact ⟨fun h => h.2, fun h => ⟨hn j h, h⟩⟩
  rw [← key, List.reverse_reverse, key]
theorem numsI_len (l : List Nat) : (numsI l).length = l.length := by unfold numsI; rw [List.length_map]
theorem numsI_rev {pre post : List Nat} {x : Nat} : (numsI (pre ++ x :: post).reverse)[post.length]? = some (x : Int) := by
  rw [List.reverse_append, List.reverse_cons]
  unfold numsI
  rw [List.map_append, List.map_append, List.append_assoc, List.getElem?_append_right (by simp)]
  simp
theorem downL_in (g : List (List Int)) (xs : List Int) : downL g (inRng g.length xs) = downL g xs := by
  unfold downL
  rw [← addAll_rng]
theorem inRng_all (n : Nat) (xs : List Int) : askedE n [inRng n xs] = 0 := by
  unfold askedE
  rw [if_pos]
  simp only [List.all_cons, List.all_nil, Bool.and_true, List.all_eq_true]
  intro p hp
  have := (inRng_mem.1 hp).2
  unfold inR
  rw [decide_eq_true this.1, decide_eq_true this.2]; rfl
theorem inRng_len (n : Nat) (xs : List Int) : (inRng n xs).length ≤ xs.length := List.length_filter_le ..
theorem inRng_take {n : Nat} {xs : List Int} {i : Nat} {c : Int} (h : xs[i]? = some c) : inRng n (xs.take (i + 1)) = inRng n (xs.take i) ++ if (decide (0 ≤ c) && decide (c < n)) = true then [c] else [] := by
  unfold inRng
  rw [List.take_add_one, h, List.filter_append]
  congr 1
  show List.filter _ [c] = _
  rw [List.filter_cons]
  split <;> rfl
/-- the last that came, or the number of commits -/
def lastOf (n : Nat) (l : List Nat) : Nat := l.getLast?.getD n
theorem lastOf_snoc (n : Nat) (l : List Nat) (x : Nat) : lastOf n (l ++ [x]) = x := by unfold lastOf; simp
theorem falls_last {n : Nat} {l : List Nat} (h : Falls l) : ∀ c ∈ l, lastOf n l ≤ c := by
  intro c hc
  rcases List.eq_nil_or_concat l with rfl | ⟨l', x, rfl⟩
  · cases hc
  · rw [List.concat_eq_append] at *
    rw [lastOf_snoc]
    unfold Falls at h
    rw [List.pairwise_append] at h
    rcases List.mem_append.1 hc with hc | hc
    · exact Nat.le_of_lt (h.2.2 c hc x (by simp))
    · rw [List.mem_singleton.1 hc]; exact Nat.le_refl _
theorem lastOf_le {n : Nat} {l : List Nat} (h : ∀ j ∈ l, j < n) : lastOf n l ≤ n := by
  rcases List.eq_nil_or_concat l with rfl | ⟨l', x, rfl⟩
  · exact Nat.le_refl _
  · rw [List.concat_eq_append] at *
    rw [lastOf_snoc]
    exact Nat.le_of_lt (h x (by simp))
theorem ent_open {α : Type} {F : α → List Assn} {L L' : List Assn} (h : ∀ x, Ent (F x ++ L) L') : Ent (exA F :: L) L' := fun m hm => by
  obtain ⟨x, hx⟩ := exA_open hm
  exact h x m hx
/-- what a break leaves -/
def brk (k : Nat) (W : Assn) : Nat → Assn := fun i => if i = k then W else (fun _ => False : Assn)
theorem brk_hit (k : Nat) (W : Assn) : brk k W k = W := if_pos rfl
theorem brk_miss {k i : Nat} (W : Assn) (h : ¬ i = k) {m : PH} (hm : brk k W i m) : False := by
  have e : brk k W i = (fun _ => False : Assn) := if_neg h
  rw [e] at hm; exact hm
abbrev wdP (n : Nat) (μ : PH) : Type := {k : Nat × List Nat × PH // k.1 ≤ n ∧ (∀ c, c < k.1 → c ∉ k.2.1) ∧ Le μ k.2.2}
def wdE (p b6 b17 : Nat) (v' vn : Value) (n : Nat) (μ : PH) : Assn := exA fun k : wdP n μ => [gA p v' vn n (k.1.2.1.foldl ask1 noAsk), blk b17 3 [.int .i64 (k.1.1 : Nat)], blk b6 4 [.bool false], ro k.1.2.2]
theorem wdE_close {p b6 b17 : Nat} {v' vn : Value} {n : Nat} {μ : PH} (l : Nat) (ys : List Nat) (m : PH) (h1 : l ≤ n) (h2 : ∀ c, c < l → c ∉ ys) (h3 : Le μ m) :
    Ent [gA p v' vn n (ys.foldl ask1 noAsk), blk b17 3 [.int .i64 (l : Nat)], blk b6 4 [.bool false], ro m] [wdE p b6 b17 v' vn n μ] :=
  ent_ex1 (F := fun k : wdP n μ => [gA p v' vn n (k.1.2.1.foldl ask1 noAsk), blk b17 3 [.int .i64 (k.1.1 : Nat)], blk b6 4 [.bool false], ro k.1.2.2]) ⟨(l, ys, m), h1, h2, h3⟩
theorem ask_zero {c : Nat} {ys : List Nat} (h : c ∉ ys) : (ys.foldl ask1 noAsk) c = 0 := ask_no h
def GS.src {μ : PH} {vg vn : Value} {G : List (Value × List Int)} {gs : List Int} {k : Nat} (h : GS μ vg vn G gs k) (p : Nat) : Src := gSrc p vg vn G μ h.hG h.good h.hn h.hr
theorem g_down {μ : PH} {vg vn : Value} {G : List (Value × List Int)} {gs : List Int} {k : Nat} (h : GS μ vg vn G gs k) (p b1 b2 : Nat) (μ' : PH) (h0 : Le μ μ') (v : Value) (xs : List Int) (h1 : CellAt μ' b1 0 (gV p)) (h2 : CellAt μ' b2 0 v) (hv : Row μ' v 1 xs.length (xs.flatMap (icsk .i64))) :
    IterG Tryd.prog 52 [.pointer (some ⟨b1, 0, none⟩), .pointer (some ⟨b2, 0, none⟩)] (fun x : Nat => [.int .i64 (x : Nat)]) (fun pre x => ∃ post, downL (nums G) xs = pre ++ x :: post) (fun ys => ys = downL (nums G) xs)
      [gA p vg vn G.length noAsk, ro μ'] (fun pre _ => (h.src p).at_ noAsk μ' pre) (fun pre _ => (h.src p).at_ noAsk μ' pre) (fun ys => (h.src p).at_ noAsk μ' ys) :=
  down_iter (h.src p) noAsk μ' b1 b2 v xs h1 h2 hv h0 ((gSrc_fine (fun _ => Nat.zero_le _)).down xs)
theorem g_at {μ : PH} {vg vn : Value} {G : List (Value × List Int)} {gs : List Int} {k : Nat} (h : GS μ vg vn G gs k) (p : Nat) (μ' : PH) (ys : List Nat) :
    (h.src p).at_ noAsk μ' ys = exA fun m : {m : PH // Le μ' m} => [gA p vg vn G.length (ys.foldl ask1 noAsk), ro m.1] := rfl
set_option maxHeartbeats 8000000 in
theorem walkdown_spec (μ : PH) (v v1 : Value) (G : List (Value × List Int)) (xs0 : List Int) (kn : Int) (hT : RowAt μ 0 0 tabV) (hG : Graph μ v G) (hn : G.length ≤ 1048576) (hrows : ∀ x ∈ G, x.2.length ≤ 1048576)
    (hx : Row μ v1 1 xs0.length (xs0.flatMap (icsk .i64))) (hkn : 0 ≤ kn ∧ kn ≤ 255) :
    Spec Tryd.prog 4 [v, v1, .int .u8 kn] [ro μ] (LawOk μ) := by
  obtain ⟨A1, c1, hv1⟩ := hx.sl
  subst hv1
  refine Spec.of 134 Tryd.func4 rfl rfl rfl ?_
  refine swp_seq ?_
  refine swp_region ?_
  refine s_ef (ef_box rfl rfl) ?_
  intro b5
  refine s_ef (ef_alloc) ?_
  intro b6
  refine swl_sub _ (.cons (t := 0) rfl (.cons (t := 1) rfl (.cons (t := 5) rfl (.cons (t := 6) rfl .nil)))) ?_
  refine swl_nil ?_
  refine then_n ?_
  refine swp_seq ?_
  refine swp_seq ?_
  refine swp_region ?_
  refine s_ef (ef_fn (walks_spec μ hT) rfl rfl (by repeat (first | exact Split.nil | (apply Split.cons; (repeat (first | with_reducible exact Take.here | apply Take.there)))))) ?_
  rintro v20 L1 ⟨rfl, μ1, h1, rfl⟩
  refine swl_app ?_
  refine s_pu (pu_not rfl) ?_
  refine swl_sub _ (.cons (t := 0) rfl (.cons (t := 1) rfl (.cons (t := 5) rfl (.cons (t := 6) rfl (.cons (t := 21) rfl .nil))))) ?_
  refine swl_nil ?_
  refine then_n ?_
  refine swp_cond (b := _) rfl (fun h21 => by cases h21) (fun h21 => ?_)
  refine swp_skip ?_
  refine then_n ?_
  refine swp_seq ?_
  refine swp_region ?_
  refine s_pu (pu_move rfl) ?_
  refine s_rd (rd_load rfl rfl) ?_
  refine s_pu (pu_conv_i64 rfl (by omega) (by omega)) ?_
  refine s_ef (ef_fn (good2_spec μ1 v G 3000 kn (hG.le h1) hn (by decide) hrows) rfl rfl (by repeat (first | exact Split.nil | (apply Split.cons; (repeat (first | with_reducible exact Take.here | apply Take.there)))))) ?_
  rintro v25 L1 ⟨μ2, o, A0, h2, rfl, rfl, hgd⟩
  refine swl_app ?_
  refine s_pu (pu_assign rfl) ?_
  refine swl_sub _ (.cons (t := 1) rfl (.cons (t := 5) rfl (.cons (t := 6) rfl (.cons (t := 7) rfl .nil)))) ?_
  refine swl_nil ?_
  refine then_n ?_
  refine swp_seq ?_
  refine swp_seq ?_
  refine swp_region ?_
  refine s_pu (pu_move rfl) ?_
  refine s_pu (pu_ptr_eq_nil rfl rfl) ?_
  refine swl_sub _ (.cons (t := 1) rfl (.cons (t := 5) rfl (.cons (t := 6) rfl (.cons (t := 7) rfl (.cons (t := 27) rfl .nil))))) ?_
  refine swl_nil ?_
  refine then_n ?_
  refine swp_cond (b := _) rfl (fun h27 => ?_) (fun h27 => ?_)
  · skip   -- 27 T
    refine swp_seq ?_
    refine swp_region ?_
    refine s_ef0 (ef_store rfl rfl rfl) ?_
    refine swl_sub _ (.cons (t := 6) rfl .nil) ?_
    refine swl_nil ?_
    refine then_n ?_
    refine swp_ret ?_
    refine then_r ?_
    exact done_ret [ro μ2] (.cell rfl (ld_one rfl) .nil) ⟨rfl, μ2, [], h1.trans h2, rfl⟩ (by repeat (first | exact Split.nil | (apply Split.cons; (repeat (first | with_reducible exact Take.here | apply Take.there)))))
  · skip   -- 27 F
    obtain ⟨p, v', vn, gs, rfl, hS, rfl⟩ : ∃ p v' vn gs, o = some ⟨p, 0, none⟩ ∧ GS μ2 v' vn (G.take (min G.length 3000)) gs kn.toNat ∧ A0 = gA p v' vn (G.take (min G.length 3000)).length noAsk := by
      rcases hgd with ⟨rfl, _⟩ | h
      · cases h27
      · exact h
    generalize G.take (min G.length 3000) = Gm at *
    have hml := hS.hn
    have hT2 := (hT.le h1).le h2
    have hln : (nums Gm).length = Gm.length := List.length_map _
    have hgood := hS.good
    obtain ⟨vx, xs, _, hxl, rx, sx⟩ := cutK 100 ((hx.le h1).le h2)
    obtain ⟨Ax, cx, hvx⟩ := rx.sl
    subst hvx
    refine swp_skip ?_
    refine then_n ?_
    refine swp_seq ?_
    refine swp_region ?_
    refine s_pu (pu_assign rfl) ?_
    refine swl_sub _ (.cons (t := 1) rfl (.cons (t := 5) rfl (.cons (t := 6) rfl (.cons (t := 7) rfl (.cons (t := 8) rfl .nil))))) ?_
    refine swl_nil ?_
    refine then_n ?_
    refine swp_seq ?_
    refine swp_seq ?_
    refine swp_region ?_
    refine s_pu (pu_move rfl) ?_
    refine s_pu (pu_move rfl) ?_
    refine s_pu (pu_len_row hx rfl) ?_
    refine s_pu (pu_min2 rfl rfl) ?_
    refine s_pu (sx _ _ _ .i64 _ rfl rfl rfl) ?_
    refine s_pu (pu_len_row rx rfl) ?_
    refine s_pu (pu_move rfl) ?_
    refine swl_sub _ (.cons (t := 1) rfl (.cons (t := 5) rfl (.cons (t := 6) rfl (.cons (t := 7) rfl (.cons (t := 8) rfl (.cons (t := 32) rfl (.cons (t := 33) rfl (.cons (t := 34) rfl .nil)))))))) ?_
    refine swl_nil ?_
    refine then_n ?_
    refine swp_block ?_
    refine swp_ent (own_nil_ent (e := 3) (n := 1)) ?_
    refine swp_sub _ (.cons (t := 1) rfl (.cons (t := 5) rfl (.cons (t := 6) rfl (.cons (t := 7) rfl (.cons (t := 8) rfl (.cons (t := 32) rfl (.cons (t := 33) rfl (.cons (t := 34) rfl .nil)))))))) ?_
    refine swp_loop (ι := Nat × Value) (fun k env L => env = [(1, .slice A1 xs0.length c1), (5, .pointer (some ⟨b5, 0, none⟩)), (6, .pointer (some ⟨b6, 0, none⟩)), (7, .pointer (some ⟨p, 0, none⟩)), (8, k.2), (32, .slice Ax xs.length cx), (33, .int .i64 (xs.length : Nat)), (34, .int .i64 (k.1 : Nat))]
      ∧ Ent L [own 3 1 k.2 (inRng Gm.length (xs.take k.1)).length ((inRng Gm.length (xs.take k.1)).flatMap (icsk .i64)), gA p v' vn Gm.length noAsk, blk b5 5 [.int .u8 kn], blk b6 4 [.bool false], ro μ2] ∧ k.1 ≤ xs.length) (fun k => xs.length - k.1) (0, .slice none 0 0) ⟨rfl, by
      show Ent _ [own 3 1 (.slice none 0 0) 0 [], gA p v' vn Gm.length noAsk, blk b5 5 [.int .u8 kn], blk b6 4 [.bool false], ro μ2]
      exact Split.ent' (by repeat (first | exact Split.nil | (apply Split.cons; (repeat (first | with_reducible exact Take.here | apply Take.there))))), Nat.zero_le _⟩ ?_
    rintro ⟨i, lv⟩ env L ⟨rfl, hL, hi⟩
    dsimp only at hL hi ⊢
    refine swp_ent hL ?_
    refine swp_seq ?_
    refine swp_region ?_
    refine s_pu (pu_lss rfl rfl) ?_
    refine swl_sub _ (.cons (t := 1) rfl (.cons (t := 5) rfl (.cons (t := 6) rfl (.cons (t := 7) rfl (.cons (t := 8) rfl (.cons (t := 32) rfl (.cons (t := 33) rfl (.cons (t := 34) rfl (.cons (t := 35) rfl .nil))))))))) ?_
    refine swl_nil ?_
    refine then_n ?_
    refine swp_seq ?_
    refine swp_cond (b := _) rfl (fun h35 => ?_) (fun h35 => ?_)
    · skip   -- 35 T
      have h35' : i < xs.length := by have := of_decide_eq_true h35; omega
      obtain ⟨c, hc⟩ : ∃ c, xs[i]? = some c := ⟨_, List.getElem?_eq_getElem h35'⟩
      obtain ⟨pb, po, pc, hpv, hpc⟩ := rx.at_ hc
      have hkl := inRng_len Gm.length (xs.take i)
      rw [List.length_take] at hkl
      have hsu := inRng_take (n := Gm.length) hc
      refine swp_skip ?_
      refine then_n ?_
      refine swp_seq ?_
      refine swp_block ?_
      refine swp_seq ?_
      refine swp_region ?_
      refine s_pu (pu_indexAddr (po + i * 1) (congrArg some hpv) rfl (by omega) (by omega) (by rw [Int.toNat_natCast])) ?_
      refine s_rd (rd_ro rfl hpc) ?_
      refine s_pu (pu_assign rfl) ?_
      refine swl_sub _ (.cons (t := 1) rfl (.cons (t := 5) rfl (.cons (t := 6) rfl (.cons (t := 7) rfl (.cons (t := 8) rfl (.cons (t := 10) rfl (.cons (t := 32) rfl (.cons (t := 33) rfl (.cons (t := 34) rfl .nil))))))))) ?_
      refine swl_nil ?_
      refine then_n ?_
      refine swp_seq ?_
      refine swp_ent (Split.ent' (K := [gA p v' vn Gm.length noAsk, own 3 1 lv (inRng Gm.length (xs.take i)).length ((inRng Gm.length (xs.take i)).flatMap (icsk .i64)), blk b5 5 [.int .u8 kn], blk b6 4 [.bool false], ro μ2]) (by repeat (first | exact Split.nil | (apply Split.cons; (repeat (first | with_reducible exact Take.here | apply Take.there)))))) ?_
      refine swp_ex fun va0 => ?_
      simp only [List.cons_append, List.nil_append]
      refine swp_region ?_
      refine s_pu (pu_move rfl) ?_
      refine s_pu (pu_geq rfl rfl) ?_
      refine s_pu (pu_move rfl) ?_
      refine s_split 40 rfl (fun h40 => ?_) (fun h40 => ?_)
      · skip   -- 40 T
        refine s_on rfl rfl ?_
        refine s_pu (pu_move rfl) ?_
        refine s_on rfl rfl ?_
        refine s_pu (pu_move rfl) ?_
        refine s_on rfl rfl ?_
        first | refine s_pu (pu_nilCheck rfl) ?_ | refine s_pu (pu_nilCheck_fn rfl) ?_ | refine s_pu (pu_nilCheck_if rfl) ?_
        refine s_on rfl rfl ?_
        first | refine s_pu (pu_fieldAddr0 rfl) ?_ | refine s_pu (pu_fieldAddr rfl) ?_
        refine s_on rfl rfl ?_
        refine s_rd (rd_load rfl rfl) ?_
        refine s_on rfl rfl ?_
        refine s_pu (pu_len_row hS.hG.1 rfl) ?_
        refine s_on rfl rfl ?_
        refine s_pu (pu_lss rfl rfl) ?_
        first | refine s_pu (pu_pick_t rfl rfl) ?_ | refine s_pu (pu_pick_f rfl rfl) ?_
        refine swl_sub _ (.cons (t := 1) rfl (.cons (t := 5) rfl (.cons (t := 6) rfl (.cons (t := 7) rfl (.cons (t := 8) rfl (.cons (t := 10) rfl (.cons (t := 32) rfl (.cons (t := 33) rfl (.cons (t := 34) rfl (.cons (t := 48) rfl .nil)))))))))) ?_
        refine swl_nil ?_
        refine then_n ?_
        refine swp_cond (b := _) rfl (fun h48 => ?_) (fun h48 => ?_)
        · skip   -- 48 T
          have hin : (decide (0 ≤ c) && decide (c < Gm.length)) = true := by simpa [h40] using h48
          rw [if_pos hin] at hsu
          refine swp_region ?_
          refine s_pu (pu_move rfl) ?_
          refine s_pu (pu_move rfl) ?_
          refine s_ef (ef_bldS (qs := [(0, _)]) rfl rfl rfl) ?_
          intro b51
          refine s_ef (ef_append_lit (l := (inRng Gm.length (xs.take i)).length) (m := 1) rfl rfl (by repeat (first | exact Split.nil | (apply Split.cons; (repeat (first | with_reducible exact Take.here | apply Take.there))))) (by simp only [maxLen]; omega) (by omega)) ?_
          rintro lw hlw
          skip
          refine s_pu (pu_assign rfl) ?_
          refine swl_sub _ (.cons (t := 1) rfl (.cons (t := 5) rfl (.cons (t := 6) rfl (.cons (t := 7) rfl (.cons (t := 8) rfl (.cons (t := 32) rfl (.cons (t := 33) rfl (.cons (t := 34) rfl .nil)))))))) ?_
          refine swl_nil ?_
          refine block_n ?_
          refine then_n ?_
          refine swp_region ?_
          refine s_pu (pu_add_as ((i + 1 : Nat) : Int) rfl rfl (by omega) (by omega) (by omega)) ?_
          refine s_pu (pu_move rfl) ?_
          refine swl_sub _ (.cons (t := 1) rfl (.cons (t := 5) rfl (.cons (t := 6) rfl (.cons (t := 7) rfl (.cons (t := 8) rfl (.cons (t := 32) rfl (.cons (t := 33) rfl (.cons (t := 34) rfl .nil)))))))) ?_
          refine swl_nil ?_
          refine then_n ⟨(i + 1, lw), ⟨rfl, ?_, h35'⟩, by show xs.length - (i + 1) < xs.length - i; omega⟩
          dsimp only
          rw [hsu, List.flatMap_append, List.length_append, show [c].length = 1 from rfl, show [c].flatMap (icsk .i64) = [.int .i64 c] from rfl]
          refine Ent.trans ?_ ((Ent.perm (.swap _ _ _)))
          refine Ent.trans ?_ (gA_close (va := va0))
          exact Split.ent' (by repeat (first | exact Split.nil | (apply Split.cons; (repeat (first | with_reducible exact Take.here | apply Take.there)))))
        · skip   -- 48 F
          have hin : (decide (0 ≤ c) && decide (c < Gm.length)) = false := by rw [h48, Bool.and_false]
          rw [if_neg (by rw [hin]; exact Bool.false_ne_true), List.append_nil] at hsu
          refine swp_skip ?_
          refine block_n ?_
          refine then_n ?_
          refine swp_region ?_
          refine s_pu (pu_add_as ((i + 1 : Nat) : Int) rfl rfl (by omega) (by omega) (by omega)) ?_
          refine s_pu (pu_move rfl) ?_
          refine swl_sub _ (.cons (t := 1) rfl (.cons (t := 5) rfl (.cons (t := 6) rfl (.cons (t := 7) rfl (.cons (t := 8) rfl (.cons (t := 32) rfl (.cons (t := 33) rfl (.cons (t := 34) rfl .nil)))))))) ?_
          refine swl_nil ?_
          refine then_n ⟨(i + 1, lv), ⟨rfl, ?_, h35'⟩, by show xs.length - (i + 1) < xs.length - i; omega⟩
          dsimp only
          rw [hsu]
          refine Ent.trans ?_ ((Ent.perm (.swap _ _ _)))
          refine Ent.trans ?_ (gA_close (va := va0))
          exact Split.ent' (by repeat (first | exact Split.nil | (apply Split.cons; (repeat (first | with_reducible exact Take.here | apply Take.there)))))
      · skip   -- 40 F
        have hin : (decide (0 ≤ c) && decide (c < Gm.length)) = false := by
          have h40' := of_decide_eq_false h40
          rw [decide_eq_false (by omega)]; rfl
        rw [if_neg (by rw [hin]; exact Bool.false_ne_true), List.append_nil] at hsu
        refine s_off rfl rfl rfl ?_
        refine s_off rfl rfl rfl ?_
        refine s_off rfl rfl rfl ?_
        refine s_off rfl rfl rfl ?_
        refine s_off rfl rfl rfl ?_
        refine s_off rfl rfl rfl ?_
        refine s_off rfl rfl rfl ?_
        first | refine s_pu (pu_pick_t rfl rfl) ?_ | refine s_pu (pu_pick_f rfl rfl) ?_
        refine swl_sub _ (.cons (t := 1) rfl (.cons (t := 5) rfl (.cons (t := 6) rfl (.cons (t := 7) rfl (.cons (t := 8) rfl (.cons (t := 10) rfl (.cons (t := 32) rfl (.cons (t := 33) rfl (.cons (t := 34) rfl (.cons (t := 48) rfl .nil)))))))))) ?_
        refine swl_nil ?_
        refine then_n ?_
        refine swp_cond (b := _) rfl (fun h48 => by cases h48) (fun h48 => ?_)
        refine swp_skip ?_
        refine block_n ?_
        refine then_n ?_
        refine swp_region ?_
        refine s_pu (pu_add_as ((i + 1 : Nat) : Int) rfl rfl (by omega) (by omega) (by omega)) ?_
        refine s_pu (pu_move rfl) ?_
        refine swl_sub _ (.cons (t := 1) rfl (.cons (t := 5) rfl (.cons (t := 6) rfl (.cons (t := 7) rfl (.cons (t := 8) rfl (.cons (t := 32) rfl (.cons (t := 33) rfl (.cons (t := 34) rfl .nil)))))))) ?_
        refine swl_nil ?_
        refine then_n ⟨(i + 1, lv), ⟨rfl, ?_, h35'⟩, by show xs.length - (i + 1) < xs.length - i; omega⟩
        dsimp only
        rw [hsu]
        refine Ent.trans ?_ ((Ent.perm (.swap _ _ _)))
        refine Ent.trans ?_ (gA_close (va := va0))
        exact Split.ent' (by repeat (first | exact Split.nil | (apply Split.cons; (repeat (first | with_reducible exact Take.here | apply Take.there)))))
    · skip   -- 35 F
      have h35' := of_decide_eq_false h35
      obtain rfl : i = xs.length := by omega
      rw [List.take_length]
      obtain ⟨known, hkn'⟩ : ∃ known, known = inRng Gm.length xs := ⟨_, rfl⟩
      rw [← hkn']
      have hkE : reachE (nums Gm) known = 0 := by rw [hkn', reachE, hln]; exact inRng_all _ _
      have hkD : downL (nums Gm) known = downL (nums Gm) xs := by rw [hkn', ← hln]; exact downL_in _ _
      have hkl : known.length ≤ 100 := by have := inRng_len Gm.length xs; rw [hkn']; omega
      obtain ⟨d1, d2, _⟩ := downL_spec hgood xs
      rw [hln] at d2
      have hW : reachA (nums Gm) known = numsI (downL (nums Gm) xs).reverse := by
        rw [reachA, if_pos hkE, hkD, hln]; exact falls_els d1 d2
      refine swp_share_own (v := lv) (μ := μ2) (by repeat (first | exact Split.nil | (apply Split.cons; (repeat (first | with_reducible exact Take.here | apply Take.there))))) fun μ3 h3 rk => ?_
      refine swp_exit ?_
      refine then_x ?_
      refine then_x ?_
      refine block_hit rfl ?_
      refine then_n ?_
      refine swp_seq ?_
      refine swp_ent (Split.ent' (K := [gA p v' vn Gm.length noAsk, blk b5 5 [.int .u8 kn], blk b6 4 [.bool false], ro μ3]) (by repeat (first | exact Split.nil | (apply Split.cons; (repeat (first | with_reducible exact Take.here | apply Take.there)))))) ?_
      refine swp_ex fun va1 => ?_
      simp only [List.cons_append, List.nil_append]
      refine swp_region ?_
      refine s_pu (pu_move rfl) ?_
      first | refine s_pu (pu_nilCheck rfl) ?_ | refine s_pu (pu_nilCheck_fn rfl) ?_ | refine s_pu (pu_nilCheck_if rfl) ?_
      first | refine s_pu (pu_fieldAddr0 rfl) ?_ | refine s_pu (pu_fieldAddr rfl) ?_
      refine s_rd (rd_load rfl rfl) ?_
      refine s_pu (pu_move rfl) ?_
      refine s_ef (ef_fn (rreach_spec μ3 v' lv Gm known (hS.le h3).hG (by omega) hgood rk) rfl rfl (by repeat (first | exact Split.nil | (apply Split.cons; (repeat (first | with_reducible exact Take.here | apply Take.there)))))) ?_
      rintro v60 L1 ⟨wv, rfl, rfl⟩
      refine swl_app ?_
      refine swl_fact (fun m h => own_form h) fun ⟨Aw, cw, hwf⟩ => ?_
      have hw1 : wv.oneCell' = true := by rw [hwf]; rfl
      refine s_pu (pu_move rfl) ?_
      first | refine s_pu (pu_extractL rfl) ?_ | refine s_pu (pu_extract rfl rfl) ?_
      first | refine s_pu (pu_extractL rfl) ?_ | refine s_pu (pu_extract rfl rfl) ?_
      refine s_ef (ef_alloc) ?_
      intro b11
      refine s_ef0 (ef_store rfl rfl hw1) ?_
      refine s_pu (pu_assign rfl) ?_
      refine swl_sub _ (.cons (t := 1) rfl (.cons (t := 5) rfl (.cons (t := 6) rfl (.cons (t := 7) rfl (.cons (t := 11) rfl .nil))))) ?_
      refine swl_nil ?_
      refine then_n ?_
      refine swp_seq ?_
      rw [hW]
      generalize hDe : downL (nums Gm) xs = D at *
      have hWl : (numsI D.reverse).length = D.length := by rw [numsI_len, List.length_reverse]
      have hDl : D.length ≤ Gm.length := by rw [← hWl, ← hW, ← hln]; exact reachA_len _ _
      refine swp_share_own (v := wv) (μ := μ3) (by repeat (first | exact Split.nil | (apply Split.cons; (repeat (first | with_reducible exact Take.here | apply Take.there))))) fun μ4 h4 rw4 => ?_
      have l24 := h3.trans h4
      refine swp_ent (Split.ent' (K := [blk p 33 [v', vn, va1], own 3 1 va1 Gm.length (askV Gm.length noAsk), blk b5 5 [.int .u8 kn], blk b6 4 [.bool false], blk b11 31 [wv], ro μ4]) (by repeat (first | exact Split.nil | (apply Split.cons; (repeat (first | with_reducible exact Take.here | apply Take.there)))))) ?_
      refine swp_ent gA_close ?_
      refine swp_region ?_
      refine s_pu (pu_move rfl) ?_
      refine s_pu (pu_iface rfl) ?_
      refine s_pu (pu_move rfl) ?_
      refine s_pu (pu_move rfl) ?_
      refine s_pu (pu_len_row hx rfl) ?_
      refine s_pu (pu_min2 rfl rfl) ?_
      refine s_pu (sx _ _ _ .i64 _ rfl rfl rfl) ?_
      refine s_ef (ef_fn (down_spec (gV p) μ4 _ xs (rx.le l24) (by omega) _ _ rfl) rfl rfl (by repeat (first | exact Split.nil | (apply Split.cons; (repeat (first | with_reducible exact Take.here | apply Take.there)))))) ?_
      rintro v70 L1 ⟨μ5, c1', c2', vd, rfl, h5, hc1, hc2, hrd, rfl⟩
      refine swl_app ?_
      refine s_pu (pu_assign rfl) ?_
      refine swl_sub _ (.cons (t := 5) rfl (.cons (t := 6) rfl (.cons (t := 7) rfl (.cons (t := 11) rfl (.cons (t := 13) rfl .nil))))) ?_
      refine swl_nil ?_
      refine then_n ?_
      refine swp_seq ?_
      refine swp_seq ?_
      refine swp_region ?_
      refine s_pu (pu_move rfl) ?_
      refine s_pu (pu_fn_eq_nil rfl rfl) ?_
      refine swl_sub _ (.cons (t := 5) rfl (.cons (t := 6) rfl (.cons (t := 7) rfl (.cons (t := 11) rfl (.cons (t := 13) rfl (.cons (t := 72) rfl .nil)))))) ?_
      refine swl_nil ?_
      refine then_n ?_
      refine swp_cond (b := _) rfl (fun h72 => by cases h72) (fun h72 => ?_)
      refine swp_skip ?_
      refine then_n ?_
      refine swp_seq ?_
      refine swp_seq ?_
      have l25 := l24.trans h5
      refine swp_region ?_
      refine s_pu (pu_move rfl) ?_
      refine swl_sub _ (.cons (t := 5) rfl (.cons (t := 6) rfl (.cons (t := 7) rfl (.cons (t := 11) rfl (.cons (t := 13) rfl (.cons (t := 73) rfl .nil)))))) ?_
      refine swl_nil ?_
      refine then_n ?_
      refine swp_block ?_
      refine swp_sub _ (.cons (t := 5) rfl (.cons (t := 6) rfl (.cons (t := 7) rfl (.cons (t := 11) rfl (.cons (t := 13) rfl (.cons (t := 73) rfl .nil)))))) ?_
      refine swp_loop (ι := Nat × PH × (Nat → Nat)) (fun k env L => env = [(5, .pointer (some ⟨b5, 0, none⟩)), (6, .pointer (some ⟨b6, 0, none⟩)), (7, .pointer (some ⟨p, 0, none⟩)), (11, .pointer (some ⟨b11, 0, none⟩)), (13, .func (.func 52) #[] #[.pointer (some ⟨c1', 0, none⟩), .pointer (some ⟨c2', 0, none⟩)]), (73, .int .i64 (k.1 : Nat))]
        ∧ Ent L [gA p v' vn Gm.length k.2.2, blk b5 5 [.int .u8 kn], blk b6 4 [.bool false], blk b11 31 [wv], ro k.2.1] ∧ k.1 ≤ 2 ∧ Le μ5 k.2.1) (fun k => 2 - k.1) (0, μ5, noAsk) ⟨rfl, by
        show Ent _ [gA p v' vn Gm.length noAsk, blk b5 5 [.int .u8 kn], blk b6 4 [.bool false], blk b11 31 [wv], ro μ5]
        exact Split.ent' (by repeat (first | exact Split.nil | (apply Split.cons; (repeat (first | with_reducible exact Take.here | apply Take.there))))), Nat.zero_le _, Le.refl _⟩ ?_
      rintro ⟨i, μi, ai⟩ env L ⟨rfl, hL, hi, hli⟩
      dsimp only at hL hi hli ⊢
      refine swp_ent hL ?_
      refine swp_seq ?_
      refine swp_region ?_
      refine s_pu (pu_lss rfl rfl) ?_
      refine swl_sub _ (.cons (t := 5) rfl (.cons (t := 6) rfl (.cons (t := 7) rfl (.cons (t := 11) rfl (.cons (t := 13) rfl (.cons (t := 73) rfl (.cons (t := 74) rfl .nil))))))) ?_
      refine swl_nil ?_
      refine then_n ?_
      refine swp_seq ?_
      refine swp_cond (b := _) rfl (fun h74 => ?_) (fun h74 => ?_)
      · skip   -- 74 T
        have h74' : i < 2 := by have := of_decide_eq_true h74; omega
        refine swp_skip ?_
        refine then_n ?_
        refine swp_seq ?_
        refine swp_block ?_
        refine swp_seq ?_
        refine swp_region ?_
        refine s_pu (pu_move rfl) ?_
        refine s_ef (ef_fn (forget_spec p Gm.length v' vn ai (by omega) hS.hG.1.sl) rfl rfl (by repeat (first | exact Split.nil | (apply Split.cons; (repeat (first | with_reducible exact Take.here | apply Take.there)))))) ?_
        rintro v76 L1 ⟨rfl, rfl⟩
        refine swl_app ?_
        refine swl_sub _ (.cons (t := 5) rfl (.cons (t := 6) rfl (.cons (t := 7) rfl (.cons (t := 11) rfl (.cons (t := 13) rfl (.cons (t := 73) rfl .nil)))))) ?_
        refine swl_nil ?_
        refine then_n ?_
        refine swp_seq ?_
        refine swp_region ?_
        refine s_rd (rd_load rfl rfl) ?_
        refine s_pu (pu_len_row (rw4.le (h5.trans hli)) rfl) ?_
        refine s_ef (ef_alloc) ?_
        intro b14
        refine s_ef0 (ef_store rfl rfl rfl) ?_
        refine swl_sub _ (.cons (t := 5) rfl (.cons (t := 6) rfl (.cons (t := 7) rfl (.cons (t := 11) rfl (.cons (t := 13) rfl (.cons (t := 14) rfl (.cons (t := 73) rfl .nil))))))) ?_
        refine swl_nil ?_
        refine then_n ?_
        refine swp_seq ?_
        refine swp_seq ?_
        refine swp_region ?_
        refine s_pu (pu_move rfl) ?_
        refine swl_sub _ (.cons (t := 5) rfl (.cons (t := 6) rfl (.cons (t := 7) rfl (.cons (t := 11) rfl (.cons (t := 13) rfl (.cons (t := 14) rfl (.cons (t := 73) rfl (.cons (t := 79) rfl .nil)))))))) ?_
        refine swl_nil ?_
        refine then_n ?_
        refine swp_block ?_
        rw [hWl]
        refine swp_ent (Split.ent' (K := [gA p v' vn Gm.length noAsk, ro μi, blk b5 5 [.int .u8 kn], blk b6 4 [.bool false], blk b11 31 [wv], blk b14 3 [.int .i64 (D.length : Int)]]) (by repeat (first | exact Split.nil | (apply Split.cons; (repeat (first | with_reducible exact Take.here | apply Take.there)))))) ?_
        refine swp_rangeG (g_down hS p c1' c2' μi (l25.trans hli) vd xs (hc1.le hli) (hc2.le hli) (hrd.le hli)) (B := [blk b5 5 [.int .u8 kn], blk b6 4 [.bool false], blk b11 31 [wv], blk b14 3 [.int .i64 (D.length : Int)]]) (fun pre => star [blk b5 5 [.int .u8 kn], blk b6 4 [.bool false], blk b11 31 [wv], blk b14 3 [.int .i64 ((D.length : Int) - (pre.length : Nat))]]) (fun _ => False) (fun _ _ => False) rfl rfl (fun _ => rfl) (Ent.refl _) ?_ ?_ ?_ ?_ ?_
        · rw [show ((D.length : Int) - (([] : List Nat).length : Nat)) = (D.length : Int) by simp]
          exact star_close1
        · skip
          rintro ln pre x ⟨post, hpost⟩
          rw [hDe] at hpost
          have hpl : D.length = pre.length + post.length + 1 := by rw [hpost, List.length_append, List.length_cons]; omega
          have hwx : (numsI D.reverse)[post.length]? = some (x : Int) := by rw [hpost]; exact numsI_rev
          refine swp_ent star2 ?_
          refine swp_ent (star_ent (K := [blk b5 5 [.int .u8 kn], blk b6 4 [.bool false], blk b11 31 [wv], blk b14 3 [.int .i64 ((D.length : Int) - (pre.length : Nat))]]) (L := [(hS.src p).at_ noAsk μi pre])) ?_
          simp only [List.cons_append, List.nil_append]
          refine swp_ent (Split.ent' (K := [(hS.src p).at_ noAsk μi pre, blk b5 5 [.int .u8 kn], blk b6 4 [.bool false], blk b11 31 [wv], blk b14 3 [.int .i64 ((D.length : Int) - (pre.length : Nat))]]) (by repeat (first | exact Split.nil | (apply Split.cons; (repeat (first | with_reducible exact Take.here | apply Take.there)))))) ?_
          rw [g_at]
          refine swp_ex fun ⟨μy, hμy⟩ => ?_
          simp only [List.cons_append, List.nil_append]
          obtain ⟨wb, wo, wc, hwv, hwc⟩ := (rw4.le ((h5.trans hli).trans hμy)).at_ hwx
          refine swp_region ?_
          refine s_pu (pu_assign rfl) ?_
          refine swl_sub _ (.cons (t := 6) rfl (.cons (t := 11) rfl (.cons (t := 14) rfl (.cons (t := 15) rfl .nil)))) ?_
          refine swl_nil ?_
          refine then_n ?_
          refine swp_block ?_
          refine swp_seq ?_
          refine swp_region ?_
          refine s_rd (rd_load rfl rfl) ?_
          refine s_pu (pu_sub_as ((post.length : Nat) : Int) rfl rfl (by omega) (by omega) (by omega)) ?_
          refine s_ef0 (ef_store rfl rfl rfl) ?_
          refine swl_sub _ (.cons (t := 6) rfl (.cons (t := 11) rfl (.cons (t := 14) rfl (.cons (t := 15) rfl .nil)))) ?_
          refine swl_nil ?_
          refine then_n ?_
          refine swp_seq ?_
          refine swp_region ?_
          refine s_rd (rd_load rfl rfl) ?_
          refine s_pu (pu_lss rfl rfl) ?_
          refine s_pu (pu_move rfl) ?_
          refine s_split 85 rfl (fun h85 => by exfalso; have := of_decide_eq_true h85; omega) (fun h85 => ?_)
          refine s_on rfl rfl ?_
          refine s_pu (pu_move rfl) ?_
          refine s_on rfl rfl ?_
          refine s_rd (rd_load rfl rfl) ?_
          refine s_on rfl rfl ?_
          refine s_rd (rd_load rfl rfl) ?_
          refine s_on rfl rfl ?_
          refine s_pu (pu_indexAddr (wo + post.length * 1) (congrArg some hwv) rfl (by omega) (by rw [hWl]; omega) (by rw [Int.toNat_natCast])) ?_
          refine s_on rfl rfl ?_
          refine s_rd (rd_ro rfl hwc) ?_
          refine s_on rfl rfl ?_
          refine s_pu (pu_neq rfl rfl) ?_
          first | refine s_pu (pu_pick_t rfl rfl) ?_ | refine s_pu (pu_pick_f rfl rfl) ?_
          refine swl_sub _ (.cons (t := 6) rfl (.cons (t := 92) rfl .nil)) ?_
          refine swl_nil ?_
          refine then_n ?_
          refine swp_cond (b := _) rfl (fun h92 => by exfalso; simp at h92) (fun h92 => ?_)
          refine swp_skip ?_
          refine block_n ?_
          refine rnd_n ?_
          rw [show (post.length : Int) = (D.length : Int) - ((pre ++ [x]).length : Nat) by rw [List.length_append, List.length_singleton]; omega]
          refine (Split.ent' (K := [blk b5 5 [.int .u8 kn], blk b6 4 [.bool false], blk b11 31 [wv], blk b14 3 [.int .i64 ((D.length : Int) - ((pre ++ [x]).length : Nat))], gA p v' vn Gm.length (pre.foldl ask1 noAsk), ro μy]) (by repeat (first | exact Split.nil | (apply Split.cons; (repeat (first | with_reducible exact Take.here | apply Take.there)))))).trans ?_
          refine (star_close (K := [blk b5 5 [.int .u8 kn], blk b6 4 [.bool false], blk b11 31 [wv], blk b14 3 [.int .i64 ((D.length : Int) - ((pre ++ [x]).length : Nat))]]) (L := [gA p v' vn Gm.length (pre.foldl ask1 noAsk), ro μy])).trans ?_
          refine Ent.trans (Ent.cons ?_) star_close1
          exact ent_ex1 (F := fun m : {m : PH // Le μi m} => [gA p v' vn Gm.length (pre.foldl ask1 noAsk), ro m.1]) ⟨μy, hμy⟩
        · skip
          rintro ys rfl
          refine block_n ?_
          refine then_n ?_
          refine swp_seq ?_
          rw [hDe]
          refine swp_ent (star_ent (K := [blk b5 5 [.int .u8 kn], blk b6 4 [.bool false], blk b11 31 [wv], blk b14 3 [.int .i64 ((D.length : Int) - (D.length : Nat))]]) (L := [(hS.src p).at_ noAsk μi D])) ?_
          simp only [List.cons_append, List.nil_append]
          refine swp_ent (Split.ent' (K := [(hS.src p).at_ noAsk μi D, blk b5 5 [.int .u8 kn], blk b6 4 [.bool false], blk b11 31 [wv], blk b14 3 [.int .i64 ((D.length : Int) - (D.length : Nat))]]) (by repeat (first | exact Split.nil | (apply Split.cons; (repeat (first | with_reducible exact Take.here | apply Take.there)))))) ?_
          rw [g_at, Int.sub_self]
          refine swp_ex fun ⟨μz, hμz⟩ => ?_
          simp only [List.cons_append, List.nil_append]
          refine swp_region ?_
          refine s_rd (rd_load rfl rfl) ?_
          refine s_pu (pu_neq rfl rfl) ?_
          refine s_pu (pu_move rfl) ?_
          refine s_split 95 rfl (fun h95 => by exfalso; simp at h95) (fun h95 => ?_)
          refine s_on rfl rfl ?_
          refine s_pu (pu_move rfl) ?_
          refine s_on rfl rfl ?_
          refine s_ef (ef_fn (twice_spec p Gm.length v' vn (D.foldl ask1 noAsk) (by omega)) rfl rfl (by repeat (first | exact Split.nil | (apply Split.cons; (repeat (first | with_reducible exact Take.here | apply Take.there)))))) ?_
          rintro v97 L1 ⟨rfl, rfl⟩
          refine swl_app ?_
          first | refine s_pu (pu_pick_t rfl rfl) ?_ | refine s_pu (pu_pick_f rfl rfl) ?_
          refine swl_sub _ (.cons (t := 5) rfl (.cons (t := 6) rfl (.cons (t := 7) rfl (.cons (t := 11) rfl (.cons (t := 13) rfl (.cons (t := 73) rfl (.cons (t := 98) rfl .nil))))))) ?_
          refine swl_nil ?_
          refine then_n ?_
          refine swp_cond (b := _) rfl (fun h98 => by exfalso; rw [twice_no (falls_nodup d1)] at h98; cases h98) (fun h98 => ?_)
          refine swp_skip ?_
          refine block_n ?_
          refine then_n ?_
          refine swp_region ?_
          refine s_pu (pu_add_as ((i + 1 : Nat) : Int) rfl rfl (by omega) (by omega) (by omega)) ?_
          refine s_pu (pu_move rfl) ?_
          refine swl_sub _ (.cons (t := 5) rfl (.cons (t := 6) rfl (.cons (t := 7) rfl (.cons (t := 11) rfl (.cons (t := 13) rfl (.cons (t := 73) rfl .nil)))))) ?_
          refine swl_nil ?_
          exact then_n ⟨(i + 1, μz, D.foldl ask1 noAsk), ⟨rfl, by
            show Ent _ [gA p v' vn Gm.length (D.foldl ask1 noAsk), blk b5 5 [.int .u8 kn], blk b6 4 [.bool false], blk b11 31 [wv], ro μz]
            exact Split.ent' (by repeat (first | exact Split.nil | (apply Split.cons; (repeat (first | with_reducible exact Take.here | apply Take.there))))), h74', hli.trans hμz⟩, by show 2 - (i + 1) < 2 - i; omega⟩
        · exact swp_fact (p := False) (fun m h => by obtain ⟨_, _, h, _⟩ := h; exact h) False.elim
        · exact fun i => swp_fact (p := False) (fun m h => by obtain ⟨_, _, h, _⟩ := h; exact h) False.elim
      · skip   -- 74 F
        refine swp_exit ?_
        refine then_x ?_
        refine then_x ?_
        refine block_hit rfl ?_
        refine then_n ?_
        refine swp_seq ?_
        refine swp_region ?_
        refine s_pu (pu_move rfl) ?_
        refine s_ef (ef_fn (forget_spec p Gm.length v' vn ai (by omega) hS.hG.1.sl) rfl rfl (by repeat (first | exact Split.nil | (apply Split.cons; (repeat (first | with_reducible exact Take.here | apply Take.there)))))) ?_
        rintro v101 L1 ⟨rfl, rfl⟩
        refine swl_app ?_
        refine swl_sub _ (.cons (t := 5) rfl (.cons (t := 6) rfl (.cons (t := 7) rfl (.cons (t := 11) rfl (.cons (t := 13) rfl .nil))))) ?_
        refine swl_nil ?_
        refine then_n ?_
        refine swp_cut (fun env L => ∃ b16 b17, env = [(5, .pointer (some ⟨b5, 0, none⟩)), (6, .pointer (some ⟨b6, 0, none⟩)), (7, .pointer (some ⟨p, 0, none⟩)), (11, .pointer (some ⟨b11, 0, none⟩)), (13, .func (.func 52) #[] #[.pointer (some ⟨c1', 0, none⟩), .pointer (some ⟨c2', 0, none⟩)]), (16, .pointer (some ⟨b16, 0, none⟩)), (17, .pointer (some ⟨b17, 0, none⟩))] ∧ Ent L [gA p v' vn Gm.length noAsk, ro μi, blk b5 5 [.int .u8 kn], blk b6 4 [.bool false], blk b11 31 [wv], blk b16 3 [.int .i64 (D.length : Int)], blk b17 3 [.int .i64 (Gm.length : Nat)]]) ?_ ?_
        · skip
          refine swp_ent (Split.ent' (K := [gA p v' vn Gm.length noAsk, blk b5 5 [.int .u8 kn], blk b6 4 [.bool false], blk b11 31 [wv], ro μi]) (by repeat (first | exact Split.nil | (apply Split.cons; (repeat (first | with_reducible exact Take.here | apply Take.there)))))) ?_
          refine swp_ex fun va2 => ?_
          simp only [List.cons_append, List.nil_append]
          refine swp_draw [0, 5] _ [] (by simp only [List.append_nil]; exact Ent.refl _) (by kernel_rfl) ?_
          refine d_rd 0 rfl (rd_load rfl rfl) rfl (by kernel_rfl) (by kernel_rfl) (by kernel_rfl) ?_
          refine d_pu 1 rfl (pu_len_row (rw4.le (h5.trans hli)) rfl) (by kernel_rfl) (by kernel_rfl) (by kernel_rfl) ?_
          refine d_pu 2 rfl (pu_move rfl) (by kernel_rfl) (by kernel_rfl) (by kernel_rfl) ?_
          first | refine d_pu 3 rfl (pu_nilCheck rfl) (by kernel_rfl) (by kernel_rfl) (by kernel_rfl) ?_ | refine d_pu 3 rfl (pu_nilCheck_fn rfl) (by kernel_rfl) (by kernel_rfl) (by kernel_rfl) ?_ | refine d_pu 3 rfl (pu_nilCheck_if rfl) (by kernel_rfl) (by kernel_rfl) (by kernel_rfl) ?_
          first | refine d_pu 4 rfl (pu_fieldAddr0 rfl) (by kernel_rfl) (by kernel_rfl) (by kernel_rfl) ?_ | refine d_pu 4 rfl (pu_fieldAddr rfl) (by kernel_rfl) (by kernel_rfl) (by kernel_rfl) ?_
          refine d_rd 5 rfl (rd_load rfl rfl) rfl (by kernel_rfl) (by kernel_rfl) (by kernel_rfl) ?_
          refine d_pu 6 rfl (pu_len_row hS.hG.1 rfl) (by kernel_rfl) (by kernel_rfl) (by kernel_rfl) ?_
          refine d_amb [7, 8] (by kernel_rfl) rfl ⟨?_, ?_⟩
          · skip   -- 7 comes first
            refine dA_ef 7 rfl GOn.none (ef_alloc) ?_
            intro b16
            refine ⟨_, Split.ent (by repeat (first | exact Split.nil | (apply Split.cons; (repeat (first | with_reducible exact Take.here | apply Take.there))))), ?_⟩
            refine d_eft 8 rfl (by kernel_rfl) (ef_alloc) ?_
            intro b17
            refine ⟨_, Split.ent (by repeat (first | exact Split.nil | (apply Split.cons; (repeat (first | with_reducible exact Take.here | apply Take.there))))), ?_⟩
            refine d_ef0t 9 rfl (by kernel_rfl) (ef_store rfl rfl rfl) ?_
            refine ⟨_, Split.ent (by repeat (first | exact Split.nil | (apply Split.cons; (repeat (first | with_reducible exact Take.here | apply Take.there))))), ?_⟩
            first | refine d_fin0t 10 rfl (by kernel_rfl) (by kernel_rfl) (ef_store rfl rfl rfl) ?_ | refine d_fin0f 10 rfl (by kernel_rfl) (by kernel_rfl) (ef_store rfl rfl rfl) ?_
            refine d_sub _ (.cons (t := 5) rfl (.cons (t := 6) rfl (.cons (t := 7) rfl (.cons (t := 11) rfl (.cons (t := 13) rfl (.cons (t := 16) rfl (.cons (t := 17) rfl .nil))))))) ?_
            first | refine d_nilt (by kernel_rfl) ?_ | refine d_nilf (by kernel_rfl) ?_
            refine then_n ⟨b16, b17, rfl, ?_⟩
            rw [hWl]
            refine Ent.trans ?_ (gA_close (va := va2))
            exact Split.ent' (by repeat (first | exact Split.nil | (apply Split.cons; (repeat (first | with_reducible exact Take.here | apply Take.there)))))
          · skip   -- 8 comes first
            refine dA_ef 8 rfl GOn.none (ef_alloc) ?_
            intro b17
            refine ⟨_, Split.ent (by repeat (first | exact Split.nil | (apply Split.cons; (repeat (first | with_reducible exact Take.here | apply Take.there))))), ?_⟩
            refine d_eft 7 rfl (by kernel_rfl) (ef_alloc) ?_
            intro b16
            refine ⟨_, Split.ent (by repeat (first | exact Split.nil | (apply Split.cons; (repeat (first | with_reducible exact Take.here | apply Take.there))))), ?_⟩
            refine d_ef0t 9 rfl (by kernel_rfl) (ef_store rfl rfl rfl) ?_
            refine ⟨_, Split.ent (by repeat (first | exact Split.nil | (apply Split.cons; (repeat (first | with_reducible exact Take.here | apply Take.there))))), ?_⟩
            first | refine d_fin0t 10 rfl (by kernel_rfl) (by kernel_rfl) (ef_store rfl rfl rfl) ?_ | refine d_fin0f 10 rfl (by kernel_rfl) (by kernel_rfl) (ef_store rfl rfl rfl) ?_
            refine d_sub _ (.cons (t := 5) rfl (.cons (t := 6) rfl (.cons (t := 7) rfl (.cons (t := 11) rfl (.cons (t := 13) rfl (.cons (t := 16) rfl (.cons (t := 17) rfl .nil))))))) ?_
            first | refine d_nilt (by kernel_rfl) ?_ | refine d_nilf (by kernel_rfl) ?_
            refine then_n ⟨b16, b17, rfl, ?_⟩
            rw [hWl]
            refine Ent.trans ?_ (gA_close (va := va2))
            exact Split.ent' (by repeat (first | exact Split.nil | (apply Split.cons; (repeat (first | with_reducible exact Take.here | apply Take.there)))))
        rintro env L ⟨b16, b17, rfl, hL30⟩
        refine swp_ent hL30 ?_
        refine swp_cut (fun env L => look env 6 = some (.pointer (some ⟨b6, 0, none⟩)) ∧ look env 7 = some (.pointer (some ⟨p, 0, none⟩)) ∧ look env 17 = some (.pointer (some ⟨b17, 0, none⟩)) ∧ Ent L [wdE p b6 b17 v' vn Gm.length μi]) ?_ ?_
        · skip
          refine swp_seq ?_
          refine swp_region ?_
          refine s_pu (pu_move rfl) ?_
          refine swl_sub _ (.cons (t := 5) rfl (.cons (t := 6) rfl (.cons (t := 7) rfl (.cons (t := 11) rfl (.cons (t := 16) rfl (.cons (t := 17) rfl (.cons (t := 109) rfl .nil))))))) ?_
          refine swl_nil ?_
          refine then_n ?_
          refine swp_block ?_
          refine swp_rangeG (g_down hS p c1' c2' μi (l25.trans hli) vd xs (hc1.le hli) (hc2.le hli) (hrd.le hli)) (B := [blk b5 5 [.int .u8 kn], blk b6 4 [.bool false], blk b11 31 [wv], blk b16 3 [.int .i64 (D.length : Int)], blk b17 3 [.int .i64 (Gm.length : Nat)]]) (fun pre => star [blk b5 5 [.int .u8 kn], blk b6 4 [.bool false], blk b11 31 [wv], blk b16 3 [.int .i64 ((D.length : Int) - (pre.length : Nat))], blk b17 3 [.int .i64 (lastOf Gm.length pre : Nat)]]) (fun _ => False) (brk 6 (wdE p b6 b17 v' vn Gm.length μi)) rfl rfl (fun _ => rfl) (Ent.refl _) ?_ ?_ ?_ ?_ ?_
          · rw [show ((D.length : Int) - (([] : List Nat).length : Nat)) = (D.length : Int) by simp, show lastOf Gm.length [] = Gm.length from rfl]
            exact star_close1
          · skip
            rintro ln pre x ⟨post, hpost⟩
            rw [hDe] at hpost
            have hpl : D.length = pre.length + post.length + 1 := by rw [hpost, List.length_append, List.length_cons]; omega
            have hxn : x < Gm.length := d2 x (by rw [hpost]; simp)
            have hxp : ∀ c, c < x → c ∉ pre := fun c hc hcp => by
              have d1' := d1
              unfold Falls at d1'
              rw [hpost, List.pairwise_append] at d1'
              have := d1'.2.2 c hcp x (by simp)
              omega
            refine swp_ent star2 ?_
            refine swp_ent (star_ent (K := [blk b5 5 [.int .u8 kn], blk b6 4 [.bool false], blk b11 31 [wv], blk b16 3 [.int .i64 ((D.length : Int) - (pre.length : Nat))], blk b17 3 [.int .i64 (lastOf Gm.length pre : Nat)]]) (L := [(hS.src p).at_ noAsk μi pre])) ?_
            simp only [List.cons_append, List.nil_append]
            refine swp_ent (Split.ent' (K := [(hS.src p).at_ noAsk μi pre, blk b5 5 [.int .u8 kn], blk b6 4 [.bool false], blk b11 31 [wv], blk b16 3 [.int .i64 ((D.length : Int) - (pre.length : Nat))], blk b17 3 [.int .i64 (lastOf Gm.length pre : Nat)]]) (by repeat (first | exact Split.nil | (apply Split.cons; (repeat (first | with_reducible exact Take.here | apply Take.there)))))) ?_
            rw [g_at]
            refine swp_ex fun ⟨μy, hμy⟩ => ?_
            simp only [List.cons_append, List.nil_append]
            refine swp_region ?_
            refine s_pu (pu_assign rfl) ?_
            refine swl_sub _ (.cons (t := 5) rfl (.cons (t := 11) rfl (.cons (t := 16) rfl (.cons (t := 17) rfl (.cons (t := 18) rfl .nil))))) ?_
            refine swl_nil ?_
            refine then_n ?_
            refine swp_block ?_
            refine swp_seq ?_
            refine swp_region ?_
            refine s_rd (rd_load rfl rfl) ?_
            refine s_pu (pu_sub_as ((post.length : Nat) : Int) rfl rfl (by omega) (by omega) (by omega)) ?_
            refine s_ef0 (ef_store rfl rfl rfl) ?_
            refine swl_sub _ (.cons (t := 5) rfl (.cons (t := 11) rfl (.cons (t := 16) rfl (.cons (t := 17) rfl (.cons (t := 18) rfl .nil))))) ?_
            refine swl_nil ?_
            refine then_n ?_
            refine swp_seq ?_
            refine swp_region ?_
            refine s_pu (pu_move rfl) ?_
            refine s_ef0 (ef_store rfl rfl rfl) ?_
            refine swl_sub _ (.cons (t := 5) rfl (.cons (t := 11) rfl (.cons (t := 16) rfl .nil))) ?_
            refine swl_nil ?_
            refine then_n ?_
            refine swp_seq ?_
            refine swp_region ?_
            refine s_rd (rd_load rfl rfl) ?_
            refine s_pu (pu_len_row (rw4.le ((h5.trans hli).trans hμy)) rfl) ?_
            refine s_rd (rd_load rfl rfl) ?_
            refine s_pu (pu_sub_in rfl rfl (by rw [hWl]; omega) (by rw [hWl]; omega)) ?_
            refine s_rd (rd_load rfl rfl) ?_
            refine s_pu (pu_conv_i64 rfl (by omega) (by omega)) ?_
            refine s_pu (pu_gtr rfl rfl) ?_
            refine swl_sub _ (.cons (t := 120) rfl .nil) ?_
            refine swl_nil ?_
            refine then_n ?_
            refine swp_cond (b := _) rfl (fun h120 => ?_) (fun h120 => ?_)
            · skip   -- 120 T
              refine swp_exit ?_
              refine block_miss rfl ?_
              refine rnd_x ?_
              rw [brk_hit]
              refine Ent.trans ?_ (wdE_close x pre μy (by omega) hxp hμy)
              exact Split.ent' (by repeat (first | exact Split.nil | (apply Split.cons; (repeat (first | with_reducible exact Take.here | apply Take.there)))))
            · skip   -- 120 F
              refine swp_skip ?_
              refine block_n ?_
              refine rnd_n ?_
              rw [show (post.length : Int) = (D.length : Int) - ((pre ++ [x]).length : Nat) by rw [List.length_append, List.length_singleton]; omega, show (x : Int) = (lastOf Gm.length (pre ++ [x]) : Nat) by rw [lastOf_snoc]]
              refine (Split.ent' (K := [blk b5 5 [.int .u8 kn], blk b6 4 [.bool false], blk b11 31 [wv], blk b16 3 [.int .i64 ((D.length : Int) - ((pre ++ [x]).length : Nat))], blk b17 3 [.int .i64 (lastOf Gm.length (pre ++ [x]) : Nat)], gA p v' vn Gm.length (pre.foldl ask1 noAsk), ro μy]) (by repeat (first | exact Split.nil | (apply Split.cons; (repeat (first | with_reducible exact Take.here | apply Take.there)))))).trans ?_
              refine (star_close (K := [blk b5 5 [.int .u8 kn], blk b6 4 [.bool false], blk b11 31 [wv], blk b16 3 [.int .i64 ((D.length : Int) - ((pre ++ [x]).length : Nat))], blk b17 3 [.int .i64 (lastOf Gm.length (pre ++ [x]) : Nat)]]) (L := [gA p v' vn Gm.length (pre.foldl ask1 noAsk), ro μy])).trans ?_
              refine Ent.trans (Ent.cons ?_) star_close1
              exact ent_ex1 (F := fun m : {m : PH // Le μi m} => [gA p v' vn Gm.length (pre.foldl ask1 noAsk), ro m.1]) ⟨μy, hμy⟩
          · skip
            rintro ys rfl
            rw [hDe]
            refine block_n ?_
            refine then_n ⟨rfl, rfl, rfl, ?_⟩
            refine (star_ent (K := [blk b5 5 [.int .u8 kn], blk b6 4 [.bool false], blk b11 31 [wv], blk b16 3 [.int .i64 ((D.length : Int) - (D.length : Nat))], blk b17 3 [.int .i64 (lastOf Gm.length D : Nat)]]) (L := [(hS.src p).at_ noAsk μi D])).trans ?_
            simp only [List.cons_append, List.nil_append]
            refine (Split.ent' (K := [(hS.src p).at_ noAsk μi D, blk b17 3 [.int .i64 (lastOf Gm.length D : Nat)], blk b6 4 [.bool false]]) (by repeat (first | exact Split.nil | (apply Split.cons; (repeat (first | with_reducible exact Take.here | apply Take.there)))))).trans ?_
            rw [g_at]
            refine ent_open fun ⟨μz, hμz⟩ => ?_
            simp only [List.cons_append, List.nil_append]
            refine Ent.trans ?_ (wdE_close (lastOf Gm.length D) D μz (lastOf_le d2) (fun c hc hcD => by have := falls_last (n := Gm.length) d1 c hcD; omega) hμz)
            exact Split.ent' (by repeat (first | exact Split.nil | (apply Split.cons; (repeat (first | with_reducible exact Take.here | apply Take.there)))))
          · exact swp_fact (p := False) (fun m h => by obtain ⟨_, _, h, _⟩ := h; exact h) False.elim
          · intro j
            by_cases hj : j = 6
            · subst hj
              refine swp_exit ?_
              refine block_hit rfl ?_
              exact then_n ⟨rfl, rfl, rfl, by rw [brk_hit]; exact Ent.refl _⟩
            · exact swp_fact (p := False) (fun m h => by obtain ⟨_, _, h, _⟩ := h; exact brk_miss _ hj h) False.elim
        rintro env L ⟨e6, e7, e17, hL⟩
        refine swp_sub _ (.cons e6 (.cons e7 (.cons e17 .nil))) ?_
        refine swp_ent hL ?_
        refine swp_ex fun ⟨⟨la, ys, μe⟩, hla, hya, hle⟩ => ?_
        simp only [List.cons_append, List.nil_append]
        dsimp only at hla hya hle ⊢
        refine swp_ex fun va3 => ?_
        simp only [List.cons_append, List.nil_append]
        refine swp_ent (Split.ent' (K := [own 3 1 va3 Gm.length (askV Gm.length (ys.foldl ask1 noAsk)), blk p 33 [v', vn, va3], blk b17 3 [.int .i64 (la : Nat)], blk b6 4 [.bool false], ro μe]) (by repeat (first | exact Split.nil | (apply Split.cons; (repeat (first | with_reducible exact Take.here | apply Take.there)))))) ?_
        refine swp_seq ?_
        refine swp_seq ?_
        refine swp_region ?_
        refine s_rd (rd_load rfl rfl) ?_
        refine s_pu (pu_move rfl) ?_
        refine swl_sub _ (.cons (t := 6) rfl (.cons (t := 7) rfl (.cons (t := 121) rfl (.cons (t := 122) rfl .nil)))) ?_
        refine swl_nil ?_
        refine then_n ?_
        refine swp_block ?_
        refine swp_sub _ (.cons (t := 6) rfl (.cons (t := 7) rfl (.cons (t := 121) rfl (.cons (t := 122) rfl .nil)))) ?_
        refine swp_loop (ι := Nat) (fun c env L => env = [(6, .pointer (some ⟨b6, 0, none⟩)), (7, .pointer (some ⟨p, 0, none⟩)), (121, .int .i64 (la : Nat)), (122, .int .i64 (c : Nat))] ∧ L = [own 3 1 va3 Gm.length (askV Gm.length (ys.foldl ask1 noAsk)), blk p 33 [v', vn, va3], blk b17 3 [.int .i64 (la : Nat)], blk b6 4 [.bool false], ro μe] ∧ c ≤ la) (fun c => la - c) 0 ⟨rfl, rfl, Nat.zero_le _⟩ ?_
        rintro c env L ⟨rfl, rfl, hc⟩
        refine swp_seq ?_
        refine swp_region ?_
        refine s_pu (pu_lss rfl rfl) ?_
        refine swl_sub _ (.cons (t := 6) rfl (.cons (t := 7) rfl (.cons (t := 121) rfl (.cons (t := 122) rfl (.cons (t := 123) rfl .nil))))) ?_
        refine swl_nil ?_
        refine then_n ?_
        refine swp_seq ?_
        refine swp_cond (b := _) rfl (fun h123 => ?_) (fun h123 => ?_)
        · skip   -- 123 T
          have h123' : c < la := by have := of_decide_eq_true h123; omega
          have hc0 := ask_zero (hya c h123')
          refine swp_own (fun h0 l0 _ => by omega) (fun b1 c1 ex1 hv1 w1 w2 w3 w4 => ?_)
          refine swp_skip ?_
          refine then_n ?_
          refine swp_seq ?_
          refine swp_block ?_
          refine swp_seq ?_
          refine swp_region ?_
          refine s_pu (pu_move rfl) ?_
          refine s_pu (pu_assign rfl) ?_
          refine swl_sub _ (.cons (t := 6) rfl (.cons (t := 7) rfl (.cons (t := 19) rfl (.cons (t := 121) rfl (.cons (t := 122) rfl .nil))))) ?_
          refine swl_nil ?_
          refine then_n ?_
          refine swp_seq ?_
          refine swp_region ?_
          refine s_pu (pu_move rfl) ?_
          first | refine s_pu (pu_nilCheck rfl) ?_ | refine s_pu (pu_nilCheck_fn rfl) ?_ | refine s_pu (pu_nilCheck_if rfl) ?_
          first | refine s_pu (pu_fieldAddr0 rfl) ?_ | refine s_pu (pu_fieldAddr rfl) ?_
          refine s_rd (rd_load rfl rfl) ?_
          refine s_pu (pu_move rfl) ?_
          refine s_pu (pu_indexAddr c (congrArg some hv1) rfl (by omega) (by omega) (by omega)) ?_
          refine s_rd (rd_load rfl (by rw [List.getElem?_append_left (by unfold askV; rw [ncs_len]; omega)]; exact ncs_get _ (by omega))) ?_
          refine s_pu (pu_gtr rfl rfl) ?_
          refine swl_sub _ (.cons (t := 6) rfl (.cons (t := 7) rfl (.cons (t := 121) rfl (.cons (t := 122) rfl (.cons (t := 132) rfl .nil))))) ?_
          refine swl_ent (own_close (n := 1) (l := Gm.length) (by unfold askV; rw [ncs_len]; omega) w4 w1 w2) ?_
          rw [← hv1]
          refine swl_nil ?_
          refine then_n ?_
          refine swp_cond (b := _) rfl (fun h132 => by exfalso; rw [hc0] at h132; cases h132) (fun h132 => ?_)
          refine swp_skip ?_
          refine block_n ?_
          refine then_n ?_
          refine swp_region ?_
          refine s_pu (pu_add_as ((c + 1 : Nat) : Int) rfl rfl (by omega) (by omega) (by omega)) ?_
          refine s_pu (pu_move rfl) ?_
          refine swl_sub _ (.cons (t := 6) rfl (.cons (t := 7) rfl (.cons (t := 121) rfl (.cons (t := 122) rfl .nil)))) ?_
          refine swl_nil ?_
          exact then_n ⟨c + 1, ⟨rfl, rfl, h123'⟩, by omega⟩
        · skip   -- 123 F
          refine swp_exit ?_
          refine then_x ?_
          refine then_x ?_
          refine block_hit rfl ?_
          refine then_n ?_
          refine swp_seq ?_
          refine swp_region ?_
          refine s_ef0 (ef_store rfl rfl rfl) ?_
          refine swl_sub _ (.cons (t := 6) rfl .nil) ?_
          refine swl_nil ?_
          refine then_n ?_
          refine swp_ret ?_
          exact done_ret [ro μe] (.cell rfl (ld_one rfl) .nil) ⟨rfl, μe, [], h1.trans (h2.trans (l25.trans (hli.trans hle))), rfl⟩ (by repeat (first | exact Split.nil | (apply Split.cons; (repeat (first | with_reducible exact Take.here | apply Take.there)))))
end SX
namespace Go.Proofs.YtieggbckcacihaaDoor
open Go.ChangeShapes Go.WideShapes Go.ChangeAt Go.RowKit
theorem ownKnobF : ownKnob Tryd.prog.godebug = none := by kernel_rfl
theorem gTab : Tryd.prog.globalNamed "math/bits.deBruijn64tab" = some 0 := by kernel_rfl
theorem tTab : (Tryd.prog.globals[0]?).map (·.type) = some 136 := by kernel_rfl
theorem datum {H : Type} : (Rows.laid_math_bits_deBruijn64tab : DataW H) = .agg (Lib.deBruijn64tab.map fun n => .lit (.int .u8 (n : Nat))) := rfl
theorem tab_of {W : World} (h : laidMetH Tryd.prog Rows.walkAncestorRow.laid W) : SX.RowAt (fun b => W.heap[b]?) 0 0 SX.tabV := by
  rw [MakeChecks.laidMetH_plain _ _ _ (by kernel_rfl)] at h
  obtain ⟨ps, ⟨g0, t0, cs0, f0, p0, q0, hg0, ht0, hv0, hd0, _, _⟩, _, _⟩ := h
  obtain rfl := Option.some.inj (gTab.symm.trans hg0)
  obtain rfl := Option.some.inj (tTab.symm.trans ht0)
  obtain ⟨xs, m, rfl, hx, _, hn, hel⟩ := DataW.trod_array Tryd.underlying136 hd0
  simp only [Prod.mk.injEq] at hx
  have hx1 := hx.1
  rw [datum] at hx1
  simp only [DataW.agg.injEq] at hx1
  have c5 : Tryd.prog.cellsOf 5 = 1 := by kernel_rfl
  have hlen : Lib.deBruijn64tab.length = 64 := rfl
  intro j u hj
  have hj64 : j < 64 := by
    have := (List.getElem?_eq_some_iff.1 hj).1
    simpa [SX.tabV, hlen] using this
  obtain ⟨k, hk⟩ : ∃ k, Lib.deBruijn64tab[j]? = some k := ⟨_, List.getElem?_eq_getElem (by omega)⟩
  have hu : u = .int .u8 (k : Nat) := by
    unfold SX.tabV at hj
    rw [List.getElem?_map, hk] at hj
    exact (Option.some.inj hj).symm
  obtain ⟨y, hy⟩ : ∃ y, xs[j]? = some y := ⟨_, List.getElem?_eq_getElem (by omega)⟩
  have h1 := hel j hj64
  rw [hy, c5, Nat.mul_one] at h1
  obtain ⟨n, e1, e2, _⟩ := DataW.trod_int Tryd.underlying5 h1
  have e3 : (xs.map (·.1))[j]? = some (.lit (.int .u8 n)) := by rw [List.getElem?_map, hy, e2]; rfl
  rw [← hx1, List.getElem?_map, hk] at e3
  have hnk : n = (k : Int) := by
    have := Option.some.inj e3
    simpa using this.symm
  have hc := World.var?_cell hg0 hv0 j
  have hcs : cs0[j]? = some (.int .u8 n) := by
    have : (cs0.toList.drop j)[0]? = some (.int .u8 n) := by
      have := congrArg (·[0]?) e1
      simpa [List.getElem?_take] using this
    rw [List.getElem?_drop, Nat.add_zero] at this
    simpa using this
  rw [hcs] at hc
  rw [Nat.zero_add, hu, ← hnk]
  exact (SX.spot_of_cell hc).2
theorem door_met (os : Os) (args : Array Value) : laidMetH Tryd.prog Rows.walkAncestorRow.laid ((World.doorLaid Tryd.prog 400 os).forCall (fun _ _ => 0) ⟨#[], args, []⟩).memory :=
  laidMetH_of_parts3 (fuel := 8) (laidMet_of_run' 8 (by kernel_rfl) (by kernel_rfl)) (by kernel_rfl) (by kernel_rfl)
end Go.Proofs.YtieggbckcacihaaDoor
namespace Go.Proofs.YtieggbckcacihaaDoor
open Go Go.ChangeShapes Go.WideShapes Go.ChangeAt Go.RowKit
theorem bulk_pos {H : Type} : ∀ d : DataW H, 1 ≤ Rows.uptoBulk d := fun d => by
  cases d with
  | lit l => cases l <;> simp only [Rows.uptoBulk] <;> omega
  | _ => simp only [Rows.uptoBulk] <;> omega
theorem bulk_len {H : Type} : ∀ ds : List (DataW H), ds.length ≤ Rows.uptoBulkAll ds
  | [] => by simp
  | d :: r => by
    have := bulk_pos d
    have := bulk_len r
    simp only [Rows.uptoBulkAll, List.length_cons]; omega
theorem bulk_at {H : Type} : ∀ {ds : List (DataW H)} {i : Nat} {d : DataW H}, ds[i]? = some d → Rows.uptoBulk d ≤ Rows.uptoBulkAll ds
  | [], _, _, h => by simp at h
  | x :: r, 0, d, h => by
    obtain rfl : x = d := by simpa using h
    simp only [Rows.uptoBulkAll]; omega
  | x :: r, i + 1, d, h => by
    have := bulk_at (ds := r) (i := i) (d := d) (by simpa using h)
    simp only [Rows.uptoBulkAll]; omega
/-- a graph is short, and so are its rows -/
theorem graph_short {H : Type} {xs : List (Value × List Int)} {d : DataW H} {ds : List (DataW H)} {i : Nat} (hi : ds[i]? = some d) (hk : Rows.uptoSmall H ds = true)
    (hd : (d = .nil ∧ xs = []) ∨ ∃ (Ds sp : List (DataW H)), d = .slice Ds sp ∧ Ds.length = xs.length ∧ ∀ (i : Nat) (a : Value × List Int) (D : DataW H), xs[i]? = some a → Ds[i]? = some D → (D = .nil ∧ a.2 = []) ∨ ∃ (Ds sp : List (DataW H)), D = .slice Ds sp ∧ Ds.length = a.2.length) :
    xs.length ≤ 1048576 ∧ ∀ x ∈ xs, x.2.length ≤ 1048576 := by
  have h : Rows.uptoBulkAll ds ≤ 1048576 := of_decide_eq_true hk
  have h1 := bulk_at hi
  rcases hd with ⟨_, rfl⟩ | ⟨Ds, sp, rfl, hl, hr⟩
  · exact ⟨by simp, fun x hx => by cases hx⟩
  · have hb := bulk_len Ds
    simp only [Rows.uptoBulk] at h1
    refine ⟨by omega, fun x hx => ?_⟩
    obtain ⟨i, hi⟩ := List.getElem?_of_mem hx
    obtain ⟨D, hD⟩ : ∃ D, Ds[i]? = some D := ⟨_, List.getElem?_eq_getElem (by rw [hl]; exact (List.getElem?_eq_some_iff.1 hi).1)⟩
    have hba := bulk_at hD
    rcases hr i x D hi hD with ⟨_, h2⟩ | ⟨D2, s2, rfl, h3⟩
    · rw [h2]; simp
    · have := bulk_len D2
      simp only [Rows.uptoBulk] at hba
      omega
/-- a list is short -/
theorem ints_short {H : Type} {k : IntKind} {xs : List Int} {d : DataW H} {ds : List (DataW H)} {i : Nat} (hi : ds[i]? = some d) (hk : Rows.uptoSmall H ds = true) (hd : (d = .nil ∧ xs = []) ∨ ∃ spare, d = .slice (lits k xs) spare) : xs.length ≤ 1048576 := by
  have h : Rows.uptoBulkAll ds ≤ 1048576 := of_decide_eq_true hk
  have hb := bulk_at hi
  rcases hd with ⟨_, rfl⟩ | ⟨spare, rfl⟩
  · simp
  · have hl : ∀ ys : List Int, ys.length ≤ Rows.uptoBulkAll (lits (H := H) k ys) := fun ys => by
      have := bulk_len (lits (H := H) k ys)
      unfold lits at this ⊢
      rwa [List.length_map] at this
    have := hl xs
    simp only [Rows.uptoBulk] at hb
    omega
end Go.Proofs.YtieggbckcacihaaDoor
