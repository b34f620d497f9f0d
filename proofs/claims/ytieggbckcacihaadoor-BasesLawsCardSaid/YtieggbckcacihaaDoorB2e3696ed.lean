/- A part of the proof: walks of the program's functions, and the rules by which they go. -/
import Derived.Test.YtieggbckcacihaaDoorB1d2a8066
import Derived.Test.YtieggbckcacihaaDoorB7a82cff9
import Derived.Test.YtieggbckcacihaaDoorRows
import Derived.Test.YtieggbckcacihaaDoorB7718f3cd
import Derived.ProofKit
import Derived.LaidMore
import Derived.OpenShut
import Derived.Stop.Joined
namespace SX
open Go Go.Proofs

theorem bcommits_spec (X : Src) (s : X.σ) (μ : PH) : Spec Tryd.prog 68 [X.sv] [X.A s μ] (fun r L => r = .int .i64 (X.n : Nat) ∧ L = [X.A s μ]) := by
  have hn := X.hn
  refine Spec.of 7 Tryd.func68 rfl rfl rfl ?_
  refine swp_seq ?_
  refine swp_region ?_
  refine s_pu (pu_assign rfl) ?_
  refine swl_sub _ (.cons (t := 0) rfl .nil) ?_
  refine swl_nil ?_
  refine then_n ?_
  refine swp_seq ?_
  refine swp_region ?_
  refine s_pu (pu_move rfl) ?_
  refine s_ef (ef_invS rfl X.hd (X.commits s μ) rfl (by repeat (first | exact Split.nil | (apply Split.cons; (repeat (first | with_reducible exact Take.here | apply Take.there)))))) ?_
  rintro v4 L1 ⟨rfl, rfl⟩
  refine swl_app ?_
  refine s_pu (pu_max2 rfl rfl) ?_
  refine s_pu (pu_min2 rfl rfl) ?_
  refine s_pu (pu_assign rfl) ?_
  refine swl_sub _ (.cons (t := 2) rfl .nil) ?_
  refine swl_nil ?_
  refine then_n ?_
  refine swp_ret ?_
  exact done_ret [X.A s μ] (.tmp rfl .nil) ⟨by show Value.int .i64 _ = _; rw [show min (max (X.g.length : Int) 0) 65536 = (X.g.length : Int) by omega], rfl⟩ (by repeat (first | exact Split.nil | (apply Split.cons; (repeat (first | with_reducible exact Take.here | apply Take.there)))))
set_option maxHeartbeats 1000000 in
theorem basked_spec (X : Src) (s : X.σ) (μ : PH) (lv : Value) (G : List (Value × List Int)) (hG : Graph μ lv G) : Spec Tryd.prog 61 [X.sv, lv] [X.A s μ, ro μ] (fun r L => r = .int .i64 (askedE X.n (nums G)) ∧ L = [X.A s μ, ro μ]) := by
  have hsm := hG.1.small
  refine Spec.of 33 Tryd.func61 rfl rfl rfl ?_
  refine swp_seq ?_
  refine swp_region ?_
  refine s_pu (pu_assign rfl) ?_
  refine swl_sub _ (.cons (t := 0) rfl (.cons (t := 1) rfl .nil)) ?_
  refine swl_nil ?_
  refine then_n ?_
  refine swp_seq ?_
  refine swp_seq ?_
  refine swp_region ?_
  refine s_pu (pu_move rfl) ?_
  refine s_pu (pu_if_eq_nil rfl rfl) ?_
  refine swl_sub _ (.cons (t := 0) rfl (.cons (t := 1) rfl (.cons (t := 10) rfl .nil))) ?_
  refine swl_nil ?_
  refine then_n ?_
  refine swp_cond (b := _) rfl (fun h10 => by cases h10) (fun h10 => ?_)
  refine swp_skip ?_
  refine then_n ?_
  refine swp_seq ?_
  refine swp_seq ?_
  refine swp_region ?_
  refine s_pu (pu_move rfl) ?_
  refine s_pu (pu_len_row hG.1 rfl) ?_
  refine s_pu (pu_move rfl) ?_
  refine swl_sub _ (.cons (t := 0) rfl (.cons (t := 11) rfl (.cons (t := 12) rfl (.cons (t := 13) rfl .nil)))) ?_
  refine swl_nil ?_
  refine then_n ?_
  refine swp_block ?_
  refine swp_loop (ι := Nat) (fun i env L => env = [(0, X.sv), (11, lv), (12, .int .i64 (G.length : Nat)), (13, .int .i64 (i : Nat))] ∧ L = [X.A s μ, ro μ] ∧ i ≤ G.length ∧ ((nums G).take i).all (fun l => l.all (inR X.n)) = true) (fun i => G.length - i) 0 ⟨rfl, rfl, Nat.zero_le _, rfl⟩ ?_
  rintro i env L ⟨rfl, rfl, hi, hall⟩
  refine swp_seq ?_
  refine swp_region ?_
  refine s_pu (pu_lss rfl rfl) ?_
  refine swl_sub _ (.cons (t := 0) rfl (.cons (t := 11) rfl (.cons (t := 12) rfl (.cons (t := 13) rfl (.cons (t := 14) rfl .nil))))) ?_
  refine swl_nil ?_
  refine then_n ?_
  refine swp_seq ?_
  refine swp_cond (b := _) rfl (fun h14 => ?_) (fun h14 => ?_)
  · skip   -- 14 T
    have h14' : i < G.length := by have := of_decide_eq_true h14; omega
    obtain ⟨gb, off, cap, x, hv, hx, hxc, hxr, hnx⟩ := row_at hG h14'
    have hsx := hxr.small
    refine swp_skip ?_
    refine then_n ?_
    refine swp_seq ?_
    refine swp_block ?_
    refine swp_seq ?_
    refine swp_region ?_
    refine s_pu (pu_indexAddr (off + i * 1) (congrArg some hv) rfl (by omega) (by omega) (by rw [Int.toNat_natCast])) ?_
    refine s_rd (rd_ro rfl hxc) ?_
    refine s_pu (pu_assign rfl) ?_
    refine swl_sub _ (.cons (t := 0) rfl (.cons (t := 6) rfl (.cons (t := 11) rfl (.cons (t := 12) rfl (.cons (t := 13) rfl .nil))))) ?_
    refine swl_nil ?_
    refine then_n ?_
    refine swp_seq ?_
    refine swp_region ?_
    refine s_pu (pu_move rfl) ?_
    refine s_pu (pu_len_row hxr rfl) ?_
    refine s_pu (pu_move rfl) ?_
    refine swl_sub _ (.cons (t := 0) rfl (.cons (t := 11) rfl (.cons (t := 12) rfl (.cons (t := 13) rfl (.cons (t := 17) rfl (.cons (t := 18) rfl (.cons (t := 19) rfl .nil))))))) ?_
    refine swl_nil ?_
    refine then_n ?_
    refine swp_block ?_
    refine swp_loop (ι := Nat) (fun j env L => env = [(0, X.sv), (11, lv), (12, .int .i64 (G.length : Nat)), (13, .int .i64 (i : Nat)), (17, x.1), (18, .int .i64 (x.2.length : Nat)), (19, .int .i64 (j : Nat))] ∧ L = [X.A s μ, ro μ] ∧ j ≤ x.2.length ∧ (x.2.take j).all (inR X.n) = true) (fun j => x.2.length - j) 0 ⟨rfl, rfl, Nat.zero_le _, rfl⟩ ?_
    rintro j env L ⟨rfl, rfl, hj, hin⟩
    refine swp_seq ?_
    refine swp_region ?_
    refine s_pu (pu_lss rfl rfl) ?_
    refine swl_sub _ (.cons (t := 0) rfl (.cons (t := 11) rfl (.cons (t := 12) rfl (.cons (t := 13) rfl (.cons (t := 17) rfl (.cons (t := 18) rfl (.cons (t := 19) rfl (.cons (t := 20) rfl .nil)))))))) ?_
    refine swl_nil ?_
    refine then_n ?_
    refine swp_seq ?_
    refine swp_cond (b := _) rfl (fun h20 => ?_) (fun h20 => ?_)
    · skip   -- 20 T
      have h20' : j < x.2.length := by have := of_decide_eq_true h20; omega
      obtain ⟨c, hc⟩ : ∃ c, x.2[j]? = some c := ⟨_, List.getElem?_eq_getElem h20'⟩
      obtain ⟨pb, po, pc, hpv, hpc⟩ := hxr.at_ hc
      have hbad : inR X.n c = false → (nums G).all (fun l => l.all (inR X.n)) = false := fun h => by
        rw [List.all_eq_false]
        refine ⟨x.2, List.mem_of_getElem? hnx, ?_⟩
        rw [List.all_eq_true]
        intro h2
        rw [h2 c (List.mem_of_getElem? hc)] at h; cases h
      refine swp_skip ?_
      refine then_n ?_
      refine swp_seq ?_
      refine swp_block ?_
      refine swp_seq ?_
      refine swp_region ?_
      refine s_pu (pu_indexAddr (po + j * 1) (congrArg some hpv) rfl (by omega) (by omega) (by rw [Int.toNat_natCast])) ?_
      refine s_rd (rd_ro rfl hpc) ?_
      refine s_pu (pu_assign rfl) ?_
      refine swl_sub _ (.cons (t := 0) rfl (.cons (t := 8) rfl (.cons (t := 11) rfl (.cons (t := 12) rfl (.cons (t := 13) rfl (.cons (t := 17) rfl (.cons (t := 18) rfl (.cons (t := 19) rfl .nil)))))))) ?_
      refine swl_nil ?_
      refine then_n ?_
      refine swp_seq ?_
      refine swp_region ?_
      refine s_pu (pu_move rfl) ?_
      refine s_pu (pu_lss rfl rfl) ?_
      refine s_pu (pu_move rfl) ?_
      refine s_split 25 rfl (fun h25 => ?_) (fun h25 => ?_)
      · skip   -- 25 T
        refine s_off rfl rfl rfl ?_
        refine s_off rfl rfl rfl ?_
        refine s_off rfl rfl rfl ?_
        refine s_off rfl rfl rfl ?_
        first | refine s_pu (pu_pick_t rfl rfl) ?_ | refine s_pu (pu_pick_f rfl rfl) ?_
        refine swl_sub _ (.cons (t := 0) rfl (.cons (t := 11) rfl (.cons (t := 12) rfl (.cons (t := 13) rfl (.cons (t := 17) rfl (.cons (t := 18) rfl (.cons (t := 19) rfl (.cons (t := 30) rfl .nil)))))))) ?_
        refine swl_nil ?_
        refine then_n ?_
        refine swp_cond (b := _) rfl (fun h30 => ?_) (fun h30 => by cases h30)
        refine swp_seq ?_
        refine swp_region ?_
        refine s_pu (pu_assign rfl) ?_
        refine swl_sub _ (.cons (t := 4) rfl .nil) ?_
        refine swl_nil ?_
        refine then_n ?_
        refine swp_ret ?_
        refine block_r ?_
        refine then_r ?_
        refine then_r ?_
        refine block_r ?_
        refine block_r ?_
        refine then_r ?_
        refine then_r ?_
        refine block_r ?_
        refine then_r ?_
        have h25' := of_decide_eq_true h25
        refine done_ret [X.A s μ, ro μ] (.tmp rfl .nil) ⟨?_, rfl⟩ (by repeat (first | exact Split.nil | (apply Split.cons; (repeat (first | with_reducible exact Take.here | apply Take.there)))))
        unfold askedE
        rw [if_neg (by rw [hbad (by unfold inR; rw [decide_eq_false (by omega)]; rfl)]; exact Bool.false_ne_true)]; rfl
      · skip   -- 25 F
        refine s_on rfl rfl ?_
        refine s_pu (pu_move rfl) ?_
        refine s_on rfl rfl ?_
        refine s_pu (pu_move rfl) ?_
        refine s_on rfl rfl ?_
        refine s_ef (ef_fn (bcommits_spec X s μ) rfl rfl (by repeat (first | exact Split.nil | (apply Split.cons; (repeat (first | with_reducible exact Take.here | apply Take.there)))))) ?_
        rintro v28 L1 ⟨rfl, rfl⟩
        refine swl_app ?_
        refine s_on rfl rfl ?_
        refine s_pu (pu_geq rfl rfl) ?_
        first | refine s_pu (pu_pick_t rfl rfl) ?_ | refine s_pu (pu_pick_f rfl rfl) ?_
        refine swl_sub _ (.cons (t := 0) rfl (.cons (t := 11) rfl (.cons (t := 12) rfl (.cons (t := 13) rfl (.cons (t := 17) rfl (.cons (t := 18) rfl (.cons (t := 19) rfl (.cons (t := 30) rfl .nil)))))))) ?_
        refine swl_nil ?_
        refine then_n ?_
        refine swp_cond (b := _) rfl (fun h30 => ?_) (fun h30 => ?_)
        · skip   -- 30 T
          refine swp_seq ?_
          refine swp_region ?_
          refine s_pu (pu_assign rfl) ?_
          refine swl_sub _ (.cons (t := 4) rfl .nil) ?_
          refine swl_nil ?_
          refine then_n ?_
          refine swp_ret ?_
          refine block_r ?_
          refine then_r ?_
          refine then_r ?_
          refine block_r ?_
          refine block_r ?_
          refine then_r ?_
          refine then_r ?_
          refine block_r ?_
          refine then_r ?_
          have h30' := of_decide_eq_true h30
          refine done_ret [X.A s μ, ro μ] (.tmp rfl .nil) ⟨?_, rfl⟩ (by repeat (first | exact Split.nil | (apply Split.cons; (repeat (first | with_reducible exact Take.here | apply Take.there)))))
          unfold askedE
          rw [if_neg (by rw [hbad (by unfold inR; rw [decide_eq_false (p := c < (X.n : Int)) (by omega), Bool.and_false])]; exact Bool.false_ne_true)]; rfl
        · skip   -- 30 F
          refine swp_skip ?_
          refine block_n ?_
          refine then_n ?_
          refine swp_region ?_
          refine s_pu (pu_add_as ((j + 1 : Nat) : Int) rfl rfl (by omega) (by omega) (by omega)) ?_
          refine s_pu (pu_move rfl) ?_
          refine swl_sub _ (.cons (t := 0) rfl (.cons (t := 11) rfl (.cons (t := 12) rfl (.cons (t := 13) rfl (.cons (t := 17) rfl (.cons (t := 18) rfl (.cons (t := 19) rfl .nil))))))) ?_
          refine swl_nil ?_
          have h25' := of_decide_eq_false h25
          have h30' := of_decide_eq_false h30
          refine then_n ⟨j + 1, ⟨rfl, rfl, h20', ?_⟩, by omega⟩
          rw [List.take_add_one, hc, List.all_append, hin]
          show (true && ([c].all _)) = true
          simp only [List.all_cons, List.all_nil, Bool.and_true, Bool.true_and]
          unfold inR
          rw [decide_eq_true (show 0 ≤ c by omega), decide_eq_true (show c < (X.n : Int) by omega)]; rfl
    · skip   -- 20 F
      have h20' := of_decide_eq_false h20
      obtain rfl : j = x.2.length := by omega
      rw [List.take_length] at hin
      refine swp_exit ?_
      refine then_x ?_
      refine then_x ?_
      refine block_hit rfl ?_
      refine block_n ?_
      refine then_n ?_
      refine swp_region ?_
      refine s_pu (pu_add_as ((i + 1 : Nat) : Int) rfl rfl (by omega) (by omega) (by omega)) ?_
      refine s_pu (pu_move rfl) ?_
      refine swl_sub _ (.cons (t := 0) rfl (.cons (t := 11) rfl (.cons (t := 12) rfl (.cons (t := 13) rfl .nil)))) ?_
      refine swl_nil ?_
      refine then_n ⟨i + 1, ⟨rfl, rfl, h14', ?_⟩, by omega⟩
      rw [List.take_add_one, hnx, List.all_append, hall]
      show (true && ([x.2].all _)) = true
      simp only [List.all_cons, List.all_nil, Bool.and_true, Bool.true_and]
      exact hin
  · skip   -- 14 F
    have h14' := of_decide_eq_false h14
    obtain rfl : i = G.length := by omega
    refine swp_exit ?_
    refine then_x ?_
    refine then_x ?_
    refine block_hit rfl ?_
    refine then_n ?_
    refine swp_seq ?_
    refine swp_region ?_
    refine s_pu (pu_assign rfl) ?_
    refine swl_sub _ (.cons (t := 4) rfl .nil) ?_
    refine swl_nil ?_
    refine then_n ?_
    refine swp_ret ?_
    refine done_ret [X.A s μ, ro μ] (.tmp rfl .nil) ⟨?_, rfl⟩ (by repeat (first | exact Split.nil | (apply Split.cons; (repeat (first | with_reducible exact Take.here | apply Take.there)))))
    rw [List.take_of_length_le (by rw [List.length_map]; exact Nat.le_refl _)] at hall
    unfold askedE
    rw [if_pos hall]; rfl
/-- the bases of two sides, or why not -/
def sidesA (g : List (List Int)) (xs ys : List Int) : List Int := if onlyE g xs ys = 0 then sidesB g xs ys else []
set_option maxHeartbeats 4000000 in
theorem sides_spec (X : Src) (s0 : X.σ) (μ : PH) (v u : Value) (xs ys : List Int) (hT : RowAt μ 0 0 tabV) (hv : Row μ v 1 xs.length (xs.flatMap (icsk .i64))) (hu : Row μ u 1 ys.length (ys.flatMap (icsk .i64))) (h0 : Le X.μ0 μ) (hf : X.fine s0) :
    Spec Tryd.prog 37 [X.sv, v, u] [X.A s0 μ, ro μ] (fun r L => ∃ lv zs μ', askedIn X.n zs ∧ Le μ μ' ∧ r = .tuple #[lv, .int .i64 (onlyE X.g xs ys)] ∧ L = [own 3 1 lv (sidesA X.g xs ys).length ((sidesA X.g xs ys).flatMap (icsk .i64)), X.A (zs.foldl X.step s0) μ', ro μ']) := by
  have hn := X.hn
  have hXn : X.n = X.g.length := rfl
  have hvs := hv.small
  have hus := hu.small
  obtain ⟨A1, c1, rfl⟩ := hv.sl
  obtain ⟨A2, c2, rfl⟩ := hu.sl
  refine Spec.of 51 Tryd.func37 rfl rfl rfl ?_
  refine swp_seq ?_
  refine swp_region ?_
  refine s_pu (pu_assign rfl) ?_
  refine s_pu (pu_assign rfl) ?_
  refine swl_sub _ (.cons (t := 0) rfl (.cons (t := 1) rfl (.cons (t := 2) rfl .nil))) ?_
  refine swl_nil ?_
  refine then_n ?_
  refine swp_seq ?_
  refine swp_seq ?_
  refine swp_region ?_
  refine s_pu (pu_move rfl) ?_
  refine s_pu (pu_move rfl) ?_
  refine s_pu (pu_move rfl) ?_
  refine s_ef (ef_bldS (qs := [(0, _), (1, _)]) rfl rfl rfl) ?_
  intro b17
  refine swl_share (b := b17) (μ := μ) (by repeat (first | exact Split.nil | (apply Split.cons; (repeat (first | with_reducible exact Take.here | apply Take.there))))) fun μ1 h1 k1 => ?_
  refine swl_ent (X.up (s := s0) h1 (by repeat (first | exact Split.nil | (apply Split.cons; (repeat (first | with_reducible exact Take.here | apply Take.there)))))) ?_
  have hG : Graph μ1 (.slice (some ⟨b17, 0, none⟩) 2 2) [(.slice A1 xs.length c1, xs), (.slice A2 ys.length c2, ys)] := ⟨row_of_blk k1 (by rfl) (by decide), fun x hx => by
    rcases List.mem_cons.1 hx with rfl | hx
    · exact hv.le h1
    · obtain rfl := List.mem_singleton.1 hx; exact hu.le h1⟩
  refine s_ef (ef_fn (basked_spec X s0 μ1 _ _ hG) rfl rfl (by repeat (first | exact Split.nil | (apply Split.cons; (repeat (first | with_reducible exact Take.here | apply Take.there)))))) ?_
  rintro v18 L1 ⟨rfl, rfl⟩
  refine swl_app ?_
  rw [show askedE X.n (nums [(Value.slice A1 xs.length c1, xs), (Value.slice A2 ys.length c2, ys)]) = onlyE X.g xs ys from rfl]
  refine s_pu (pu_assign rfl) ?_
  refine swl_sub _ (.cons (t := 0) rfl (.cons (t := 1) rfl (.cons (t := 2) rfl (.cons (t := 8) rfl .nil)))) ?_
  refine swl_nil ?_
  refine then_n ?_
  refine swp_seq ?_
  refine swp_region ?_
  refine s_pu (pu_move rfl) ?_
  refine s_pu (pu_neq rfl rfl) ?_
  refine swl_sub _ (.cons (t := 0) rfl (.cons (t := 1) rfl (.cons (t := 2) rfl (.cons (t := 8) rfl (.cons (t := 20) rfl .nil))))) ?_
  refine swl_nil ?_
  refine then_n ?_
  refine swp_cond (b := _) rfl (fun h20 => ?_) (fun h20 => ?_)
  · skip   -- 20 T
    have he : onlyE X.g xs ys ≠ 0 := by simpa using h20
    refine swp_seq ?_
    refine swp_region ?_
    refine s_pu (pu_move rfl) ?_
    refine s_pu (pu_assign rfl) ?_
    refine s_pu (pu_assign rfl) ?_
    refine swl_sub _ (.cons (t := 6) rfl (.cons (t := 7) rfl .nil)) ?_
    refine swl_nil ?_
    refine then_n ?_
    refine swp_ret ?_
    refine then_r ?_
    refine done_retE [own 3 1 (.slice none 0 0) (sidesA X.g xs ys).length ((sidesA X.g xs ys).flatMap (icsk .i64)), X.A s0 μ1, ro μ1] (.tmp rfl (.tmp rfl .nil)) ⟨_, [], μ1, ⟨List.nodup_nil, fun y hy => by cases hy⟩, h1, rfl, rfl⟩ ?_
    rw [sidesA, if_neg he]
    exact (Split.ent' (K := [X.A s0 μ1, ro μ1]) (by repeat (first | exact Split.nil | (apply Split.cons; (repeat (first | with_reducible exact Take.here | apply Take.there)))))).trans own_nil_ent
  · skip   -- 20 F
    have he : onlyE X.g xs ys = 0 := by simpa using h20
    have hx : ∀ p ∈ xs, 0 ≤ p ∧ p < X.g.length := askedE_in he (by simp)
    have hy : ∀ p ∈ ys, 0 ≤ p ∧ p < X.g.length := askedE_in he (by simp)
    refine swp_skip ?_
    refine then_n ?_
    refine swp_seq ?_
    refine swp_region ?_
    refine s_pu (pu_move rfl) ?_
    refine s_pu (pu_move rfl) ?_
    refine s_ef (ef_fn (bcommits_spec X s0 μ1) rfl rfl (by repeat (first | exact Split.nil | (apply Split.cons; (repeat (first | with_reducible exact Take.here | apply Take.there)))))) ?_
    rintro v24 L1 ⟨rfl, rfl⟩
    refine swl_app ?_
    refine s_ef (ef_makeMap (kv := ikv)) ?_
    intro b25
    refine s_ef (ef_fn Bq.new_q rfl rfl (by repeat (first | exact Split.nil | (apply Split.cons; (repeat (first | with_reducible exact Take.here | apply Take.there)))))) ?_
    rintro v26 L1 ⟨q, rfl, rfl⟩
    refine swl_app ?_
    refine s_pu (pu_bld (qs := [(0, _), (1, _), (2, _), (3, _)]) rfl) ?_
    refine s_ef (ef_box rfl rfl) ?_
    intro b28
    refine s_pu (pu_assign rfl) ?_
    refine swl_sub _ (.cons (t := 1) rfl (.cons (t := 2) rfl (.cons (t := 9) rfl .nil))) ?_
    refine swl_ent (Split.ent' (K := [mpe b25 ikv [] 0, blk b28 99 [X.sv, .int .i64 (X.n : Nat), .map (some b25), .pointer (some ⟨q, 0, none⟩), .int .i64 0], Bq.cq q [] 0, X.A s0 μ1, ro μ1]) (by repeat (first | exact Split.nil | (apply Split.cons; (repeat (first | with_reducible exact Take.here | apply Take.there)))))) ?_
    refine swl_ent (mpP_close pmap_nil) ?_
    have hs0 : seenP X.n (fun _ => 0) = 0 := by unfold seenP; exact seenN_none _
    refine swl_nil ?_
    refine then_n ?_
    refine swp_seq ?_
    refine swp_seq ?_
    refine swp_region ?_
    refine s_pu (pu_move rfl) ?_
    refine s_pu (pu_len rfl) ?_
    refine s_pu (pu_move rfl) ?_
    refine swl_sub _ (.cons (t := 2) rfl (.cons (t := 9) rfl (.cons (t := 29) rfl (.cons (t := 30) rfl (.cons (t := 31) rfl .nil))))) ?_
    refine swl_nil ?_
    refine then_n ?_
    refine swp_block ?_
    have key : ∀ i, PI X.n X.n (addRow 1 (fun _ => 0, []) (xs.take i)) := fun i => (PI.addRow (v := 1) (Nat.le_refl X.n) (by unfold isV; decide) (by decide) (PI.start X.n) (fun p hp => hx p (List.mem_of_mem_take hp))).1
    refine swp_ent (L' := [ptB b28 X.sv X.n b25 q (frP (addRow 1 (fun _ => 0, []) (xs.take 0))), mpP b25 (addRow 1 (fun _ => 0, []) (xs.take 0)).1, Bq.cq q (addRow 1 (fun _ => 0, []) (xs.take 0)).2 (seenP X.n (addRow 1 (fun _ => 0, []) (xs.take 0)).1), X.A s0 μ1, ro μ1]) (by
      show Ent _ [blk b28 99 [X.sv, .int .i64 (X.n : Nat), .map (some b25), .pointer (some ⟨q, 0, none⟩), .int .i64 0], mpP b25 (fun _ => 0), Bq.cq q [] (seenP X.n (fun _ => 0)), X.A s0 μ1, ro μ1]
      rw [hs0]; exact Split.ent' (by repeat (first | exact Split.nil | (apply Split.cons; (repeat (first | with_reducible exact Take.here | apply Take.there)))))) ?_
    refine swp_loop (ι := Nat) (fun i env L => env = [(2, .slice A2 ys.length c2), (9, .pointer (some ⟨b28, 0, none⟩)), (29, .slice A1 xs.length c1), (30, .int .i64 (xs.length : Nat)), (31, .int .i64 (i : Nat))]
      ∧ L = [ptB b28 X.sv X.n b25 q (frP (addRow 1 (fun _ => 0, []) (xs.take i))), mpP b25 (addRow 1 (fun _ => 0, []) (xs.take i)).1, Bq.cq q (addRow 1 (fun _ => 0, []) (xs.take i)).2 (seenP X.n (addRow 1 (fun _ => 0, []) (xs.take i)).1), X.A s0 μ1, ro μ1] ∧ i ≤ xs.length) (fun i => xs.length - i) 0 ⟨rfl, rfl, Nat.zero_le _⟩ ?_
    rintro i env L ⟨rfl, rfl, hi⟩
    refine swp_seq ?_
    refine swp_region ?_
    refine s_pu (pu_lss rfl rfl) ?_
    refine swl_sub _ (.cons (t := 2) rfl (.cons (t := 9) rfl (.cons (t := 29) rfl (.cons (t := 30) rfl (.cons (t := 31) rfl (.cons (t := 32) rfl .nil)))))) ?_
    refine swl_nil ?_
    refine then_n ?_
    refine swp_seq ?_
    refine swp_cond (b := _) rfl (fun h32 => ?_) (fun h32 => ?_)
    · skip   -- 32 T
      have h32' : i < xs.length := by have := of_decide_eq_true h32; omega
      obtain ⟨c, hc⟩ : ∃ c, xs[i]? = some c := ⟨_, List.getElem?_eq_getElem h32'⟩
      obtain ⟨pb, po, pc, hpv, hpc⟩ := (hv.le h1).at_ hc
      have hcr := hx c (List.mem_of_getElem? hc)
      obtain ⟨c, rfl⟩ : ∃ k : Nat, c = k := ⟨c.toNat, by omega⟩
      have hsu := addRow_succ (v := 1) (s := (fun _ => 0, [])) hc
      rw [Int.toNat_natCast] at hsu
      have hki := key i
      generalize addRow 1 (fun _ => 0, []) (xs.take i) = si at *
      refine swp_skip ?_
      refine then_n ?_
      refine swp_seq ?_
      refine swp_block ?_
      refine swp_seq ?_
      refine swp_region ?_
      refine s_pu (pu_indexAddr (po + i * 1) (congrArg some hpv) rfl (by omega) (by omega) (by rw [Int.toNat_natCast])) ?_
      refine s_rd (rd_ro rfl hpc) ?_
      refine s_pu (pu_assign rfl) ?_
      refine swl_sub _ (.cons (t := 2) rfl (.cons (t := 9) rfl (.cons (t := 11) rfl (.cons (t := 29) rfl (.cons (t := 30) rfl (.cons (t := 31) rfl .nil)))))) ?_
      refine swl_nil ?_
      refine then_n ?_
      refine swp_region ?_
      refine s_pu (pu_move rfl) ?_
      refine s_pu (pu_move rfl) ?_
      refine s_ef (ef_fn (padd_spec b28 X.n X.n b25 q X.sv si c 1 hn hki (Nat.le_refl _) (by omega) (by unfold isV; decide) (by decide)) rfl rfl (by repeat (first | exact Split.nil | (apply Split.cons; (repeat (first | with_reducible exact Take.here | apply Take.there)))))) ?_
      rintro v37 L1 ⟨rfl, rfl⟩
      refine swl_app ?_
      refine swl_sub _ (.cons (t := 2) rfl (.cons (t := 9) rfl (.cons (t := 29) rfl (.cons (t := 30) rfl (.cons (t := 31) rfl .nil))))) ?_
      refine swl_nil ?_
      refine block_n ?_
      refine then_n ?_
      refine swp_region ?_
      refine s_pu (pu_add_as ((i + 1 : Nat) : Int) rfl rfl (by omega) (by omega) (by omega)) ?_
      refine s_pu (pu_move rfl) ?_
      refine swl_sub _ (.cons (t := 2) rfl (.cons (t := 9) rfl (.cons (t := 29) rfl (.cons (t := 30) rfl (.cons (t := 31) rfl .nil))))) ?_
      refine swl_nil ?_
      exact then_n ⟨i + 1, ⟨rfl, by rw [hsu], h32'⟩, by omega⟩
    · skip   -- 32 F
      have h32' := of_decide_eq_false h32
      obtain rfl : i = xs.length := by omega
      have hk1 := key xs.length
      rw [List.take_length] at *
      refine swp_exit ?_
      refine then_x ?_
      refine then_x ?_
      refine block_hit rfl ?_
      refine then_n ?_
      refine swp_seq ?_
      refine swp_seq ?_
      refine swp_region ?_
      refine s_pu (pu_move rfl) ?_
      refine s_pu (pu_len_row hu rfl) ?_
      refine s_pu (pu_move rfl) ?_
      refine swl_sub _ (.cons (t := 9) rfl (.cons (t := 39) rfl (.cons (t := 40) rfl (.cons (t := 41) rfl .nil)))) ?_
      refine swl_nil ?_
      refine then_n ?_
      refine swp_block ?_
      have key2 : ∀ i, PI X.n X.n (addRow 2 (addRow 1 (fun _ => 0, []) xs) (ys.take i)) := fun i => (PI.addRow (v := 2) (Nat.le_refl X.n) (by unfold isV; decide) (by decide) hk1 (fun p hp => hy p (List.mem_of_mem_take hp))).1
      refine swp_sub _ (.cons (t := 9) rfl (.cons (t := 39) rfl (.cons (t := 40) rfl (.cons (t := 41) rfl .nil)))) ?_
      refine swp_loop (ι := Nat) (fun i env L => env = [(9, .pointer (some ⟨b28, 0, none⟩)), (39, .slice A2 ys.length c2), (40, .int .i64 (ys.length : Nat)), (41, .int .i64 (i : Nat))]
        ∧ L = [ptB b28 X.sv X.n b25 q (frP (addRow 2 (addRow 1 (fun _ => 0, []) xs) (ys.take i))), mpP b25 (addRow 2 (addRow 1 (fun _ => 0, []) xs) (ys.take i)).1, Bq.cq q (addRow 2 (addRow 1 (fun _ => 0, []) xs) (ys.take i)).2 (seenP X.n (addRow 2 (addRow 1 (fun _ => 0, []) xs) (ys.take i)).1), X.A s0 μ1, ro μ1] ∧ i ≤ ys.length) (fun i => ys.length - i) 0 ⟨rfl, rfl, Nat.zero_le _⟩ ?_
      rintro i env L ⟨rfl, rfl, hi⟩
      refine swp_seq ?_
      refine swp_region ?_
      refine s_pu (pu_lss rfl rfl) ?_
      refine swl_sub _ (.cons (t := 9) rfl (.cons (t := 39) rfl (.cons (t := 40) rfl (.cons (t := 41) rfl (.cons (t := 42) rfl .nil))))) ?_
      refine swl_nil ?_
      refine then_n ?_
      refine swp_seq ?_
      refine swp_cond (b := _) rfl (fun h42 => ?_) (fun h42 => ?_)
      · skip   -- 42 T
        have h42' : i < ys.length := by have := of_decide_eq_true h42; omega
        obtain ⟨c, hc⟩ : ∃ c, ys[i]? = some c := ⟨_, List.getElem?_eq_getElem h42'⟩
        obtain ⟨pb, po, pc, hpv, hpc⟩ := (hu.le h1).at_ hc
        have hcr := hy c (List.mem_of_getElem? hc)
        obtain ⟨c, rfl⟩ : ∃ k : Nat, c = k := ⟨c.toNat, by omega⟩
        have hsu := addRow_succ (v := 2) (s := addRow 1 (fun _ => 0, []) xs) hc
        rw [Int.toNat_natCast] at hsu
        have hki := key2 i
        generalize addRow 2 (addRow 1 (fun _ => 0, []) xs) (ys.take i) = si at *
        refine swp_skip ?_
        refine then_n ?_
        refine swp_seq ?_
        refine swp_block ?_
        refine swp_seq ?_
        refine swp_region ?_
        refine s_pu (pu_indexAddr (po + i * 1) (congrArg some hpv) rfl (by omega) (by omega) (by rw [Int.toNat_natCast])) ?_
        refine s_rd (rd_ro rfl hpc) ?_
        refine s_pu (pu_assign rfl) ?_
        refine swl_sub _ (.cons (t := 9) rfl (.cons (t := 13) rfl (.cons (t := 39) rfl (.cons (t := 40) rfl (.cons (t := 41) rfl .nil))))) ?_
        refine swl_nil ?_
        refine then_n ?_
        refine swp_region ?_
        refine s_pu (pu_move rfl) ?_
        refine s_pu (pu_move rfl) ?_
        refine s_ef (ef_fn (padd_spec b28 X.n X.n b25 q X.sv si c 2 hn hki (Nat.le_refl _) (by omega) (by unfold isV; decide) (by decide)) rfl rfl (by repeat (first | exact Split.nil | (apply Split.cons; (repeat (first | with_reducible exact Take.here | apply Take.there)))))) ?_
        rintro v47 L1 ⟨rfl, rfl⟩
        refine swl_app ?_
        refine swl_sub _ (.cons (t := 9) rfl (.cons (t := 39) rfl (.cons (t := 40) rfl (.cons (t := 41) rfl .nil)))) ?_
        refine swl_nil ?_
        refine block_n ?_
        refine then_n ?_
        refine swp_region ?_
        refine s_pu (pu_add_as ((i + 1 : Nat) : Int) rfl rfl (by omega) (by omega) (by omega)) ?_
        refine s_pu (pu_move rfl) ?_
        refine swl_sub _ (.cons (t := 9) rfl (.cons (t := 39) rfl (.cons (t := 40) rfl (.cons (t := 41) rfl .nil)))) ?_
        refine swl_nil ?_
        exact then_n ⟨i + 1, ⟨rfl, by rw [hsu], h42'⟩, by omega⟩
      · skip   -- 42 F
        have h42' := of_decide_eq_false h42
        obtain rfl : i = ys.length := by omega
        rw [List.take_length]
        refine swp_exit ?_
        refine then_x ?_
        refine then_x ?_
        refine block_hit rfl ?_
        refine then_n ?_
        refine swp_seq ?_
        refine swp_region ?_
        refine s_pu (pu_move rfl) ?_
        refine s_ef (ef_fn (pbest_spec X s0 μ1 b28 b25 q xs ys (hT.le h1) (h0.trans h1) hf hx hy) rfl rfl (by repeat (first | exact Split.nil | (apply Split.cons; (repeat (first | with_reducible exact Take.here | apply Take.there)))))) ?_
        rintro v50 L1 ⟨zs, μ2, hzs, h2, rfl⟩
        refine swl_app ?_
        rw [show sidesB X.g xs ys = sidesA X.g xs ys from (if_pos he).symm]
        refine s_pu (pu_assign rfl) ?_
        refine s_pu (pu_assign rfl) ?_
        refine swl_sub _ (.cons (t := 6) rfl (.cons (t := 7) rfl .nil)) ?_
        refine swl_nil ?_
        refine then_n ?_
        refine swp_ret ?_
        exact done_ret [own 3 1 v50 (sidesA X.g xs ys).length ((sidesA X.g xs ys).flatMap (icsk .i64)), X.A (zs.foldl X.step s0) μ2, ro μ2] (.tmp rfl (.tmp rfl .nil)) ⟨_, zs, μ2, hzs, h1.trans h2, by rw [he]; rfl, rfl⟩ (by repeat (first | exact Split.nil | (apply Split.cons; (repeat (first | with_reducible exact Take.here | apply Take.there)))))
theorem merge_spec (X : Src) (s0 : X.σ) (μ : PH) (a b : Int) (hT : RowAt μ 0 0 tabV) (h0 : Le X.μ0 μ) (hf : X.fine s0) :
    Spec Tryd.prog 31 [X.sv, .int .i64 a, .int .i64 b] [X.A s0 μ, ro μ] (fun r L => ∃ lv zs μ', askedIn X.n zs ∧ Le μ μ' ∧ r = .tuple #[lv, .int .i64 (onlyE X.g [a] [b])] ∧ L = [own 3 1 lv (sidesA X.g [a] [b]).length ((sidesA X.g [a] [b]).flatMap (icsk .i64)), X.A (zs.foldl X.step s0) μ', ro μ']) := by
  refine Spec.of 16 Tryd.func31 rfl rfl rfl ?_
  refine swp_seq ?_
  refine swp_region ?_
  refine s_pu (pu_assign rfl) ?_
  refine s_pu (pu_assign rfl) ?_
  refine swl_sub _ (.cons (t := 0) rfl (.cons (t := 1) rfl (.cons (t := 2) rfl .nil))) ?_
  refine swl_nil ?_
  refine then_n ?_
  refine swp_seq ?_
  refine swp_region ?_
  refine s_pu (pu_move rfl) ?_
  refine s_pu (pu_move rfl) ?_
  refine s_ef (ef_bldS (qs := [(0, _)]) rfl rfl rfl) ?_
  intro b10
  refine s_pu (pu_move rfl) ?_
  refine s_ef (ef_bldS (qs := [(0, _)]) rfl rfl rfl) ?_
  intro b12
  refine swl_share (b := b10) (μ := μ) (by repeat (first | exact Split.nil | (apply Split.cons; (repeat (first | with_reducible exact Take.here | apply Take.there))))) fun μ1 h1 k1 => ?_
  refine swl_share (b := b12) (μ := μ1) (by repeat (first | exact Split.nil | (apply Split.cons; (repeat (first | with_reducible exact Take.here | apply Take.there))))) fun μ2 h2 k2 => ?_
  refine swl_ent (X.up (s := s0) (h1.trans h2) (by repeat (first | exact Split.nil | (apply Split.cons; (repeat (first | with_reducible exact Take.here | apply Take.there)))))) ?_
  have r1 := (row_of_blk (n := 1) (l := 1) (cs := [a].flatMap (icsk .i64)) k1 (by rfl) (by decide)).le h2
  have r2 := row_of_blk (n := 1) (l := 1) (cs := [b].flatMap (icsk .i64)) k2 (by rfl) (by decide)
  refine s_ef (ef_fn (sides_spec X s0 μ2 _ _ [a] [b] ((hT.le h1).le h2) r1 r2 (h0.trans (h1.trans h2)) hf) rfl rfl (by repeat (first | exact Split.nil | (apply Split.cons; (repeat (first | with_reducible exact Take.here | apply Take.there)))))) ?_
  rintro v13 L1 ⟨lv, zs, μ3, hzs, h3, rfl, rfl⟩
  refine swl_app ?_
  first | refine s_pu (pu_extractL rfl) ?_ | refine s_pu (pu_extract rfl rfl) ?_
  first | refine s_pu (pu_extractL rfl) ?_ | refine s_pu (pu_extract rfl rfl) ?_
  refine s_pu (pu_assign rfl) ?_
  refine s_pu (pu_assign rfl) ?_
  refine swl_sub _ (.cons (t := 6) rfl (.cons (t := 7) rfl .nil)) ?_
  refine swl_nil ?_
  refine then_n ?_
  refine swp_ret ?_
  exact done_ret [own 3 1 lv (sidesA X.g [a] [b]).length ((sidesA X.g [a] [b]).flatMap (icsk .i64)), X.A (zs.foldl X.step s0) μ3, ro μ3] (.tmp rfl (.tmp rfl .nil)) ⟨_, zs, μ3, hzs, h1.trans (h2.trans h3), rfl, rfl⟩ (by repeat (first | exact Split.nil | (apply Split.cons; (repeat (first | with_reducible exact Take.here | apply Take.there)))))
end SX
namespace SX
open Go Go.Proofs

end SX
namespace SX
open Go Go.Proofs
instance : TVia Tryd.prog 86 "Commits" 63 0 none := ⟨by kernel_rfl⟩
instance : TVia Tryd.prog 86 "Gen" 63 0 none := ⟨by kernel_rfl⟩

/-! a source that asks another one for the parents of each commit just once -/
def rmapOk (g : List (List Int)) (ys : List Nat) (μ : PH) (l : Ents Int) : Prop := ∀ c : Nat, (c ∈ ys → ∃ v, mlook l (c : Int) = some v ∧ Row μ v 1 (rowOf g c).length ((rowOf g c).flatMap (icsk .i64))) ∧ (c ∉ ys → mlook l (c : Int) = none)
theorem rmapOk.le {g : List (List Int)} {ys : List Nat} {μ μ' : PH} {l : Ents Int} (h : rmapOk g ys μ l) (k : Le μ μ') : rmapOk g ys μ' l := fun c => ⟨fun hc => by
  obtain ⟨v, h1, h2⟩ := (h c).1 hc
  exact ⟨v, h1, h2.le k⟩, (h c).2⟩
theorem rmapOk.upd {g : List (List Int)} {ys : List Nat} {μ : PH} {l : Ents Int} (h : rmapOk g ys μ l) (c k : Nat) {v : Value} (hv : Row μ v 1 (rowOf g c).length ((rowOf g c).flatMap (icsk .i64))) : rmapOk g (ys ++ [c]) μ (upd l k (c : Int) v) := fun j => by
  rw [mlook_upd]
  by_cases e : j = c
  · subst e
    rw [if_pos rfl]
    exact ⟨fun _ => ⟨v, rfl, hv⟩, fun h => absurd (List.mem_append_right _ (List.mem_singleton.2 rfl)) h⟩
  · rw [if_neg (fun h => e (by omega))]
    refine ⟨fun hj => (h j).1 ?_, fun hj => (h j).2 fun hm => hj (List.mem_append_left _ hm)⟩
    rcases List.mem_append.1 hj with hj | hj
    · exact hj
    · exact absurd (List.mem_singleton.1 hj) e
def onA (X : Src) (o mb : Nat) (s : X.σ) (ys : List Nat) (μ : PH) : Assn := exA fun k : {k : Ents Int × Nat // rmapOk X.g ys μ k.1} => [X.A s μ, blk o 89 [X.sv, .map (some mb)], mpe mb ikv k.1.1 k.1.2]
theorem onA_close {X : Src} {o mb : Nat} {s : X.σ} {ys : List Nat} {μ : PH} {l : Ents Int} {c : Nat} {L : List Assn} (h : rmapOk X.g ys μ l) : Ent (X.A s μ :: blk o 89 [X.sv, .map (some mb)] :: mpe mb ikv l c :: L) (onA X o mb s ys μ :: L) :=
  ent_ex (F := fun k : {k : Ents Int × Nat // rmapOk X.g ys μ k.1} => [X.A s μ, blk o 89 [X.sv, .map (some mb)], mpe mb ikv k.1.1 k.1.2]) ⟨(l, c), h⟩ (by repeat (first | exact Split.nil | (apply Split.cons; (repeat (first | with_reducible exact Take.here | apply Take.there)))))
theorem onA_mono {X : Src} {o mb : Nat} {s : X.σ} {ys : List Nat} {μ μ' : PH} (h : Le μ μ') : Ent [onA X o mb s ys μ] [onA X o mb s ys μ'] := ent_open fun ⟨⟨l, c⟩, hl⟩ => by
  simp only [List.cons_append, List.nil_append]
  exact (Ent.app (L1 := [X.A s μ]) (L2 := [X.A s μ']) (R := [blk o 89 [X.sv, .map (some mb)], mpe mb ikv l c]) (X.mono h)).trans (onA_close (hl.le h))
theorem once_old (X : Src) (o mb : Nat) (s : X.σ) (ys : List Nat) (μ : PH) (c : Nat) (hc : c ∈ ys) :
    Spec Tryd.prog 65 [.pointer (some ⟨o, 0, none⟩), .int .i64 (c : Nat)] [onA X o mb s ys μ, ro μ] (fun r L => Row μ r 1 (rowOf X.g c).length ((rowOf X.g c).flatMap (icsk .i64)) ∧ L = [onA X o mb s ys μ, ro μ]) := by
  refine Spec.exA' fun ⟨⟨l, k⟩, hl⟩ => ?_
  simp only [List.cons_append, List.nil_append]
  dsimp only at hl ⊢
  obtain ⟨v, hv, hr⟩ := (hl c).1 hc
  refine Spec.ent3 (post := fun r L => r = v ∧ L = [X.A s μ, blk o 89 [X.sv, .map (some mb)], mpe mb ikv l k, ro μ]) ?_ (fun r L ⟨h1, h2⟩ => ⟨_, by rw [h2]; exact onA_close hl, by rw [h1]; exact hr, rfl⟩)
  refine Spec.of 31 Tryd.func65 rfl rfl rfl ?_
  refine swp_seq ?_
  refine swp_region ?_
  refine s_pu (pu_assign rfl) ?_
  refine swl_sub _ (.cons (t := 0) rfl (.cons (t := 1) rfl .nil)) ?_
  refine swl_nil ?_
  refine then_n ?_
  refine swp_seq ?_
  refine swp_region ?_
  refine s_pu (pu_move rfl) ?_
  first | refine s_pu (pu_nilCheck rfl) ?_ | refine s_pu (pu_nilCheck_fn rfl) ?_ | refine s_pu (pu_nilCheck_if rfl) ?_
  first | refine s_pu (pu_fieldAddr0 rfl) ?_ | refine s_pu (pu_fieldAddr rfl) ?_
  refine s_rd (rd_load rfl rfl) ?_
  refine s_pu (pu_move rfl) ?_
  refine s_rd (rd_mlook2E (kv := ikv) (c : Int) hv rfl rfl) ?_
  refine s_pu (pu_move rfl) ?_
  first | refine s_pu (pu_extractL rfl) ?_ | refine s_pu (pu_extract rfl rfl) ?_
  first | refine s_pu (pu_extractL rfl) ?_ | refine s_pu (pu_extract rfl rfl) ?_
  refine s_pu (pu_assign rfl) ?_
  refine s_pu (pu_assign rfl) ?_
  refine swl_sub _ (.cons (t := 0) rfl (.cons (t := 1) rfl (.cons (t := 5) rfl (.cons (t := 6) rfl .nil)))) ?_
  refine swl_nil ?_
  refine then_n ?_
  refine swp_seq ?_
  refine swp_seq ?_
  refine swp_region ?_
  refine s_pu (pu_move rfl) ?_
  refine s_pu (pu_not rfl) ?_
  refine swl_sub _ (.cons (t := 0) rfl (.cons (t := 1) rfl (.cons (t := 5) rfl (.cons (t := 17) rfl .nil)))) ?_
  refine swl_nil ?_
  refine then_n ?_
  refine swp_cond (b := _) rfl (fun h17 => by cases h17) (fun h17 => ?_)
  refine swp_skip ?_
  refine then_n ?_
  refine swp_seq ?_
  refine swp_region ?_
  refine s_pu (pu_move rfl) ?_
  refine s_pu (pu_assign rfl) ?_
  refine swl_sub _ (.cons (t := 4) rfl .nil) ?_
  refine swl_nil ?_
  refine then_n ?_
  refine swp_ret ?_
  exact done_ret [X.A s μ, blk o 89 [X.sv, .map (some mb)], mpe mb ikv l k, ro μ] (.tmp rfl .nil) ⟨rfl, rfl⟩ (by repeat (first | exact Split.nil | (apply Split.cons; (repeat (first | with_reducible exact Take.here | apply Take.there)))))
theorem once_new (X : Src) (o mb : Nat) (s : X.σ) (ys : List Nat) (μ : PH) (c : Nat) (hc : c ∉ ys) (h0 : Le X.μ0 μ) (hn : c < X.g.length) (hok : X.ok s c) :
    Spec Tryd.prog 65 [.pointer (some ⟨o, 0, none⟩), .int .i64 (c : Nat)] [onA X o mb s ys μ, ro μ] (fun r L => ∃ μ', Le μ μ' ∧ Row μ' r 1 (rowOf X.g c).length ((rowOf X.g c).flatMap (icsk .i64)) ∧ L = [onA X o mb (X.step s c) (ys ++ [c]) μ', ro μ']) := by
  refine Spec.exA' fun ⟨⟨l, k⟩, hl⟩ => ?_
  simp only [List.cons_append, List.nil_append]
  dsimp only at hl ⊢
  have hv := (hl c).2 hc
  refine Spec.ent3 (post := fun r L => ∃ μ' k', Le μ μ' ∧ Row μ' r 1 (rowOf X.g c).length ((rowOf X.g c).flatMap (icsk .i64)) ∧ L = [X.A (X.step s c) μ', blk o 89 [X.sv, .map (some mb)], mpe mb ikv (upd l k (c : Int) r) k', ro μ']) ?_ (fun r L ⟨μ', k', h1, h2, h3⟩ => ⟨_, by rw [h3]; exact onA_close ((hl.le h1).upd c k h2), μ', h1, h2, rfl⟩)
  refine Spec.of 31 Tryd.func65 rfl rfl rfl ?_
  refine swp_seq ?_
  refine swp_region ?_
  refine s_pu (pu_assign rfl) ?_
  refine swl_sub _ (.cons (t := 0) rfl (.cons (t := 1) rfl .nil)) ?_
  refine swl_nil ?_
  refine then_n ?_
  refine swp_seq ?_
  refine swp_region ?_
  refine s_pu (pu_move rfl) ?_
  first | refine s_pu (pu_nilCheck rfl) ?_ | refine s_pu (pu_nilCheck_fn rfl) ?_ | refine s_pu (pu_nilCheck_if rfl) ?_
  first | refine s_pu (pu_fieldAddr0 rfl) ?_ | refine s_pu (pu_fieldAddr rfl) ?_
  refine s_rd (rd_load rfl rfl) ?_
  refine s_pu (pu_move rfl) ?_
  refine s_rd (rd_mlook2E (kv := ikv) (c : Int) hv rfl rfl) ?_
  refine s_pu (pu_move rfl) ?_
  first | refine s_pu (pu_extractL rfl) ?_ | refine s_pu (pu_extract rfl rfl) ?_
  first | refine s_pu (pu_extractL rfl) ?_ | refine s_pu (pu_extract rfl rfl) ?_
  refine s_pu (pu_assign rfl) ?_
  refine s_pu (pu_assign rfl) ?_
  refine swl_sub _ (.cons (t := 0) rfl (.cons (t := 1) rfl (.cons (t := 5) rfl (.cons (t := 6) rfl .nil)))) ?_
  refine swl_nil ?_
  refine then_n ?_
  refine swp_seq ?_
  refine swp_seq ?_
  refine swp_region ?_
  refine s_pu (pu_move rfl) ?_
  refine s_pu (pu_not rfl) ?_
  refine swl_sub _ (.cons (t := 0) rfl (.cons (t := 1) rfl (.cons (t := 5) rfl (.cons (t := 17) rfl .nil)))) ?_
  refine swl_nil ?_
  refine then_n ?_
  refine swp_cond (b := _) rfl (fun h17 => ?_) (fun h17 => by cases h17)
  refine swp_seq ?_
  refine swp_region ?_
  refine s_pu (pu_move rfl) ?_
  first | refine s_pu (pu_nilCheck rfl) ?_ | refine s_pu (pu_nilCheck_fn rfl) ?_ | refine s_pu (pu_nilCheck_if rfl) ?_
  first | refine s_pu (pu_fieldAddr0 rfl) ?_ | refine s_pu (pu_fieldAddr rfl) ?_
  refine s_rd (rd_load rfl rfl) ?_
  refine s_pu (pu_move rfl) ?_
  refine s_ef (ef_invS rfl X.hd (X.parents s μ c h0 hn hok) rfl (by repeat (first | exact Split.nil | (apply Split.cons; (repeat (first | with_reducible exact Take.here | apply Take.there)))))) ?_
  rintro v23 L1 ⟨μ1, h1, hr, rfl⟩
  refine swl_app ?_
  refine s_pu (pu_assign rfl) ?_
  refine swl_sub _ (.cons (t := 0) rfl (.cons (t := 1) rfl (.cons (t := 5) rfl .nil))) ?_
  refine swl_nil ?_
  refine then_n ?_
  refine swp_region ?_
  refine s_pu (pu_move rfl) ?_
  first | refine s_pu (pu_nilCheck rfl) ?_ | refine s_pu (pu_nilCheck_fn rfl) ?_ | refine s_pu (pu_nilCheck_if rfl) ?_
  first | refine s_pu (pu_fieldAddr0 rfl) ?_ | refine s_pu (pu_fieldAddr rfl) ?_
  refine s_rd (rd_load rfl rfl) ?_
  refine s_pu (pu_move rfl) ?_
  refine s_pu (pu_move rfl) ?_
  refine s_ef0 (ef_upd (kv := ikv) _ rfl rfl rfl (by repeat (first | exact Split.nil | (apply Split.cons; (repeat (first | with_reducible exact Take.here | apply Take.there)))))) ?_
  refine swl_sub _ (.cons (t := 5) rfl .nil) ?_
  refine swl_nil ?_
  refine then_n ?_
  refine swp_seq ?_
  refine swp_region ?_
  refine s_pu (pu_move rfl) ?_
  refine s_pu (pu_assign rfl) ?_
  refine swl_sub _ (.cons (t := 4) rfl .nil) ?_
  refine swl_nil ?_
  refine then_n ?_
  refine swp_ret ?_
  exact done_ret [X.A (X.step s c) μ1, blk o 89 [X.sv, .map (some mb)], mpe mb ikv (upd l k (c : Int) v23) _, ro μ1] (.tmp rfl .nil) ⟨μ1, _, h1, hr, rfl⟩ (by repeat (first | exact Split.nil | (apply Split.cons; (repeat (first | with_reducible exact Take.here | apply Take.there)))))
def onStep (X : Src) (s : X.σ × List Nat) (c : Nat) : X.σ × List Nat := if c ∈ s.2 then s else (X.step s.1 c, s.2 ++ [c])
/-- the source -/
def onSrc (X : Src) (o mb : Nat) (hd : X.d ≤ 6) : Src where
  t := 86
  v := .pointer (some ⟨o, 0, none⟩)
  d := X.d + 1
  hd := by omega
  g := X.g
  hg := X.hg
  hn := X.hn
  σ := X.σ × List Nat
  A := fun s μ => onA X o mb s.1 s.2 μ
  mono := fun h => onA_mono h
  ok := fun s c => c ∈ s.2 ∨ X.ok s.1 c
  step := onStep X
  μ0 := X.μ0
  commits := fun s μ => InvS.exA fun ⟨⟨l, k⟩, hl⟩ => InvS.ent (InvS.via (pre := [X.A s.1 μ]) (R := [blk o 89 [X.sv, .map (some mb)], mpe mb ikv l k]) (show Ld Tryd.prog [X.A s.1 μ, blk o 89 [X.sv, .map (some mb)], mpe mb ikv l k] 63 ⟨o, 0, none⟩ (.iface X.t X.v) from ld_one rfl) (X.commits s.1 μ)) (Ent.refl _) (fun r L ⟨L', ⟨h1, h2⟩, h3⟩ => ⟨_, by rw [h3, h2]; exact onA_close hl, h1, rfl⟩)
  parents := fun s μ c h0 hn hok => by
    by_cases hc : c ∈ s.2
    · have e : onStep X s c = s := if_pos hc
      rw [e]
      exact InvS.more (InvS.of (Spec.ent3 (once_old X o mb s.1 s.2 μ c hc) fun r L ⟨h1, h2⟩ => ⟨L, Ent.refl _, μ, Le.refl _, h1, h2⟩)) (Nat.zero_le _)
    · have e : onStep X s c = (X.step s.1 c, s.2 ++ [c]) := if_neg hc
      rw [e]
      exact InvS.more (InvS.of (once_new X o mb s.1 s.2 μ c hc h0 hn (hok.resolve_left hc))) (Nat.zero_le _)
/-- what was asked, without those asked before -/
def onNew : List Nat → List Nat → List Nat
  | _, [] => []
  | ys, c :: l => if c ∈ ys then onNew ys l else c :: onNew (ys ++ [c]) l
theorem on_fold {X : Src} : ∀ (l : List Nat) (s : X.σ) (ys : List Nat), l.foldl (onStep X) (s, ys) = ((onNew ys l).foldl X.step s, ys ++ onNew ys l)
  | [], s, ys => by simp [onNew]
  | c :: l, s, ys => by
    rw [List.foldl_cons]
    show l.foldl (onStep X) (if c ∈ ys then (s, ys) else (X.step s c, ys ++ [c])) = _
    unfold onNew
    by_cases hc : c ∈ ys
    · rw [if_pos hc, if_pos hc]; exact on_fold l s ys
    · rw [if_neg hc, if_neg hc, on_fold l _ _, List.foldl_cons, List.append_assoc]; rfl
theorem onNew_spec : ∀ (l ys : List Nat), ys.Nodup → (ys ++ onNew ys l).Nodup ∧ ∀ c, c ∈ onNew ys l → c ∈ l
  | [], ys, h => ⟨by rw [onNew, List.append_nil]; exact h, fun c hc => by rw [onNew] at hc; cases hc⟩
  | c :: l, ys, h => by
    unfold onNew
    by_cases hc : c ∈ ys
    · rw [if_pos hc]
      obtain ⟨h1, h2⟩ := onNew_spec l ys h
      exact ⟨h1, fun x hx => List.mem_cons_of_mem _ (h2 x hx)⟩
    · rw [if_neg hc]
      have h3 : (ys ++ [c]).Nodup := by
        rw [List.nodup_append]
        exact ⟨h, by simp, fun a ha b hb e => by obtain rfl := List.mem_singleton.1 hb; subst e; exact hc ha⟩
      obtain ⟨h1, h2⟩ := onNew_spec l (ys ++ [c]) h3
      refine ⟨by rwa [List.append_assoc] at h1, fun x hx => ?_⟩
      rcases List.mem_cons.1 hx with rfl | hx
      · exact List.mem_cons_self ..
      · exact List.mem_cons_of_mem _ (h2 x hx)
/-- it may be asked as often as one likes, as far as it has been asked for each commit once only -/
def onOk (X : Src) (s0 s : X.σ) (ys : List Nat) : Prop := askedIn X.n ys ∧ s = ys.foldl X.step s0
theorem on_fine {X : Src} {o mb : Nat} {hd : X.d ≤ 6} {s0 s : X.σ} {ys : List Nat} (hf : X.fine s0) (h : onOk X s0 s ys) : (onSrc X o mb hd).fine (s, ys) := fun l c hl hc hlt hcn => by
  show (fun s : X.σ × List Nat => c ∈ s.2 ∨ X.ok s.1 c) (l.foldl (onStep X) (s, ys))
  rw [on_fold]
  show c ∈ ys ++ onNew ys l ∨ X.ok ((onNew ys l).foldl X.step s) c
  by_cases e : c ∈ ys ++ onNew ys l
  · exact .inl e
  · right
    obtain ⟨h1, h2⟩ := onNew_spec l ys h.1.1
    rw [h.2, ← List.foldl_append]
    refine hf _ c h1 e (fun y hy => ?_) hcn
    rcases List.mem_append.1 hy with hy | hy
    · exact h.1.2 y hy
    · exact hlt y (h2 y hy)
theorem on_step {X : Src} {s0 s : X.σ} {ys : List Nat} (h : onOk X s0 s ys) (l : List Nat) (hl : ∀ y ∈ l, y < X.n) : onOk X s0 ((onNew ys l).foldl X.step s) (ys ++ onNew ys l) := by
  obtain ⟨h1, h2⟩ := onNew_spec l ys h.1.1
  refine ⟨⟨h1, fun y hy => ?_⟩, by rw [h.2, ← List.foldl_append]⟩
  rcases List.mem_append.1 hy with hy | hy
  · exact h.1.2 y hy
  · exact hl y (h2 y hy)
end SX
namespace SX
open Go Go.Proofs

set_option maxHeartbeats 1000000 in
theorem breached_spec (X : Src) (s0 : X.σ) (μ : PH) (c : Nat) (hc : c < X.g.length) (h0 : Le X.μ0 μ) (hf : X.fine s0) :
    Spec Tryd.prog 62 [X.sv, .int .i64 (c : Nat)] [X.A s0 μ, ro μ] (fun r L => ∃ p μ', Le μ μ' ∧ r = .pointer (some ⟨p, 0, none⟩) ∧ L = [mset p X.n (up X.g c), X.at_ s0 μ' (downL X.g [(c : Int)])]) := by
  have hn := X.hn
  have hok := hf.down [(c : Int)]
  have hup : (fun j => decide (j ∈ downL X.g [(c : Int)])) = up X.g c := funext fun j => by
    rw [down_any X.hg (fun p hp => by obtain rfl := List.mem_singleton.1 hp; omega), anyUp_one X.hg hc]
  have hsp := downL_spec X.hg [(c : Int)]
  refine Spec.of 19 Tryd.func62 rfl rfl rfl ?_
  refine swp_seq ?_
  refine swp_region ?_
  refine s_pu (pu_assign rfl) ?_
  refine swl_sub _ (.cons (t := 0) rfl (.cons (t := 1) rfl .nil)) ?_
  refine swl_nil ?_
  refine then_n ?_
  refine swp_seq ?_
  refine swp_region ?_
  refine s_pu (pu_move rfl) ?_
  refine s_ef (ef_fn (bcommits_spec X s0 μ) rfl rfl (by repeat (first | exact Split.nil | (apply Split.cons; (repeat (first | with_reducible exact Take.here | apply Take.there)))))) ?_
  rintro v8 L1 ⟨rfl, rfl⟩
  refine swl_app ?_
  refine s_ef (ef_fn (new_m (X.n : Nat)) rfl rfl (by repeat (first | exact Split.nil | (apply Split.cons; (repeat (first | with_reducible exact Take.here | apply Take.there)))))) ?_
  rintro v9 L1 ⟨p, rfl, rfl⟩
  refine swl_app ?_
  refine s_ef (ef_alloc) ?_
  intro b5
  refine s_ef0 (ef_store rfl rfl rfl) ?_
  refine swl_sub _ (.cons (t := 0) rfl (.cons (t := 1) rfl (.cons (t := 5) rfl .nil))) ?_
  refine swl_nil ?_
  refine then_n ?_
  refine swp_seq ?_
  refine swp_seq ?_
  refine swp_region ?_
  refine s_pu (pu_move rfl) ?_
  refine s_pu (pu_move rfl) ?_
  refine s_ef (ef_bldS (qs := [(0, _)]) rfl rfl rfl) ?_
  intro b12
  refine swl_share (b := b12) (μ := μ) (by repeat (first | exact Split.nil | (apply Split.cons; (repeat (first | with_reducible exact Take.here | apply Take.there))))) fun μ1 h1 k1 => ?_
  refine swl_ent (X.up (s := s0) h1 (by repeat (first | exact Split.nil | (apply Split.cons; (repeat (first | with_reducible exact Take.here | apply Take.there)))))) ?_
  have r1 := row_of_blk (n := 1) (l := 1) (cs := [(c : Int)].flatMap (icsk .i64)) k1 (by rfl) (by decide)
  refine s_ef (ef_fn (down_spec X.sv μ1 _ [(c : Int)] r1 (by simp) X.t X.v rfl) rfl rfl (by repeat (first | exact Split.nil | (apply Split.cons; (repeat (first | with_reducible exact Take.here | apply Take.there)))))) ?_
  rintro v13 L1 ⟨μ2, c1, c2, v', rfl, h2, hc1, hc2, hr, rfl⟩
  refine swl_app ?_
  refine swl_sub _ (.cons (t := 5) rfl (.cons (t := 13) rfl .nil)) ?_
  rw [clampM_id hn]
  refine swl_ent (X.up (s := s0) h2 (by repeat (first | exact Split.nil | (apply Split.cons; (repeat (first | with_reducible exact Take.here | apply Take.there)))))) ?_
  refine swl_nil ?_
  refine then_n ?_
  refine swp_block ?_
  refine swp_rangeG (down_iter X s0 μ2 c1 c2 v' [(c : Int)] hc1 hc2 hr (h0.trans (h1.trans h2)) hok) (B := [blk b5 69 [.pointer (some ⟨p, 0, none⟩)], mset p X.n (fun _ => false)]) (fun pre => star [blk b5 69 [.pointer (some ⟨p, 0, none⟩)], mset p X.n (fun j => decide (j ∈ pre))]) (fun _ => False) (fun _ _ => False) rfl rfl (fun _ => rfl) (Split.ent (by repeat (first | exact Split.nil | (apply Split.cons; (repeat (first | with_reducible exact Take.here | apply Take.there)))))) ?_ ?_ ?_ ?_ ?_
  · rw [show (fun _ : Nat => false) = (fun j => decide (j ∈ ([] : List Nat))) from funext fun j => by simp]
    exact star_close1
  · skip
    rintro ln pre x ⟨post, hpost⟩
    have hx : x < X.g.length := hsp.2.1 x (by rw [hpost]; simp)
    refine swp_ent star2 ?_
    refine swp_ent (star_ent (K := [blk b5 69 [.pointer (some ⟨p, 0, none⟩)], mset p X.n (fun j => decide (j ∈ pre))]) (L := [X.at_ s0 μ2 pre])) ?_
    simp only [List.cons_append, List.nil_append]
    refine swp_region ?_
    refine s_pu (pu_assign rfl) ?_
    refine swl_sub _ (.cons (t := 5) rfl (.cons (t := 6) rfl .nil)) ?_
    refine swl_nil ?_
    refine then_n ?_
    refine swp_block ?_
    refine swp_region ?_
    refine s_rd (rd_load rfl rfl) ?_
    refine s_pu (pu_move rfl) ?_
    refine s_ef (ef_fn (put_w p X.n (fun j => decide (j ∈ pre)) (x : Nat)) rfl rfl (by repeat (first | exact Split.nil | (apply Split.cons; (repeat (first | with_reducible exact Take.here | apply Take.there)))))) ?_
    rintro v17 L1 ⟨rfl, rfl⟩
    refine swl_app ?_
    refine swl_sub _ .nil ?_
    rw [putS_in hx]
    refine swl_nil ?_
    refine block_n ?_
    refine rnd_n ?_
    refine (Split.ent' (K := [blk b5 69 [.pointer (some ⟨p, 0, none⟩)], mset p X.n (fun j => decide (j ∈ pre ++ [x])), X.at_ s0 μ2 pre]) (by repeat (first | exact Split.nil | (apply Split.cons; (repeat (first | with_reducible exact Take.here | apply Take.there)))))).trans ?_
    exact (star_close (K := [blk b5 69 [.pointer (some ⟨p, 0, none⟩)], mset p X.n (fun j => decide (j ∈ pre ++ [x]))]) (L := [X.at_ s0 μ2 pre])).trans star_close1
  · skip
    rintro ys rfl
    refine block_n ?_
    refine then_n ?_
    refine swp_seq ?_
    refine swp_ent (star_ent (K := [blk b5 69 [.pointer (some ⟨p, 0, none⟩)], mset p X.n (fun j => decide (j ∈ downL X.g [(c : Int)]))]) (L := [X.at_ s0 μ2 (downL X.g [(c : Int)])])) ?_
    simp only [List.cons_append, List.nil_append]
    rw [hup]
    refine swp_region ?_
    refine s_rd (rd_load rfl rfl) ?_
    refine s_pu (pu_assign rfl) ?_
    refine swl_sub _ (.cons (t := 4) rfl .nil) ?_
    refine swl_nil ?_
    refine then_n ?_
    refine swp_ret ?_
    exact done_ret [mset p X.n (up X.g c), X.at_ s0 μ2 (downL X.g [(c : Int)])] (.tmp rfl .nil) ⟨p, μ2, h1.trans h2, rfl, rfl⟩ (by repeat (first | exact Split.nil | (apply Split.cons; (repeat (first | with_reducible exact Take.here | apply Take.there)))))
  · exact swp_fact (p := False) (fun m h => by obtain ⟨_, _, h, _⟩ := h; exact h) False.elim
  · exact fun i => swp_fact (p := False) (fun m h => by obtain ⟨_, _, h, _⟩ := h; exact h) False.elim
theorem on_at {X : Src} {o mb : Nat} {hd : X.d ≤ 6} (s : X.σ) (ys : List Nat) (μ : PH) (D : List Nat) : (onSrc X o mb hd).at_ (s, ys) μ D = exA fun m : {m : PH // Le μ m} => [onA X o mb ((onNew ys D).foldl X.step s) (ys ++ onNew ys D) m.1, ro m.1] := by
  unfold Src.at_
  congr 1
  funext m
  show [onA X o mb (D.foldl (onStep X) (s, ys)).1 (D.foldl (onStep X) (s, ys)).2 m.1, ro m.1] = _
  rw [on_fold]
theorem onA_src {X : Src} {o mb : Nat} {s : X.σ} {ys : List Nat} {μ : PH} {L : List Assn} : Ent (onA X o mb s ys μ :: L) (X.A s μ :: L) := ent_open fun ⟨⟨l, c⟩, hl⟩ => by
  simp only [List.cons_append, List.nil_append]
  exact Ent.cons (Ent.drop.trans Ent.drop)
theorem rmapOk_nil (g : List (List Int)) (μ : PH) : rmapOk g [] μ [] := fun c => ⟨fun h => (by cases h), fun _ => rfl⟩
theorem onOk_nil (X : Src) (s0 : X.σ) : onOk X s0 s0 [] := ⟨⟨List.nodup_nil, fun y hy => by cases hy⟩, rfl⟩
/-- all that is reached from a commit, by a source that asks once -/
theorem oreach_spec (X : Src) (s0 s : X.σ) (ys : List Nat) (μ : PH) (o mb c : Nat) (hd : X.d ≤ 6) (hc : c < X.g.length) (h0 : Le X.μ0 μ) (hf : X.fine s0) (hk : onOk X s0 s ys) :
    Spec Tryd.prog 62 [.iface 86 (.pointer (some ⟨o, 0, none⟩)), .int .i64 (c : Nat)] [onA X o mb s ys μ, ro μ]
      (fun r L => ∃ p μ' s' ys', Le μ μ' ∧ onOk X s0 s' ys' ∧ r = .pointer (some ⟨p, 0, none⟩) ∧ L = [onA X o mb s' ys' μ', ro μ', mset p X.n (up X.g c)]) := by
  refine Spec.postEx (breached_spec (onSrc X o mb hd) (s, ys) μ c hc h0 (on_fine hf hk)) fun r L ⟨p, μ', h1, h2, h3⟩ => ?_
  rw [on_at] at h3
  refine ⟨{m : PH // Le μ' m}, fun m => [onA X o mb ((onNew ys (downL X.g [(c : Int)])).foldl X.step s) (ys ++ onNew ys (downL X.g [(c : Int)])) m.1, ro m.1], [mset p X.n (up X.g c)], by rw [h3]; exact Ent.swap, fun ⟨m, hm⟩ => ⟨p, m, _, _, h1.trans hm, on_step hk _ (fun y hy => (downL_spec X.hg [(c : Int)]).2.1 y hy), h2, rfl⟩⟩
theorem opar_spec (X : Src) (s0 s : X.σ) (ys : List Nat) (μ : PH) (o mb c : Nat) (hc : c < X.g.length) (h0 : Le X.μ0 μ) (hf : X.fine s0) (hk : onOk X s0 s ys) :
    Spec Tryd.prog 65 [.pointer (some ⟨o, 0, none⟩), .int .i64 (c : Nat)] [onA X o mb s ys μ, ro μ]
      (fun r L => ∃ μ' s' ys', Le μ μ' ∧ onOk X s0 s' ys' ∧ Row μ' r 1 (rowOf X.g c).length ((rowOf X.g c).flatMap (icsk .i64)) ∧ L = [onA X o mb s' ys' μ', ro μ']) := by
  by_cases e : c ∈ ys
  · exact Spec.ent3 (once_old X o mb s ys μ c e) fun r L ⟨h1, h2⟩ => ⟨L, Ent.refl _, μ, s, ys, Le.refl _, hk, h1, h2⟩
  · have hok : X.ok s c := by rw [hk.2]; exact hf ys c hk.1.1 e (fun y hy => hk.1.2 y hy) hc
    have hst := on_step hk [c] (fun y hy => by obtain rfl := List.mem_singleton.1 hy; exact hc)
    have e1 : onNew ys [c] = [c] := by unfold onNew; rw [if_neg e]; rfl
    rw [e1] at hst
    exact Spec.ent3 (once_new X o mb s ys μ c e h0 hc hok) fun r L ⟨μ', h1, h2, h3⟩ => ⟨L, Ent.refl _, μ', _, _, h1, hst, h2, h3⟩
def manyS (g : List (List Int)) (xs : List Int) : Nat → Bool := fun j => xs.all fun c => up g c.toNat j
def manyE (g : List (List Int)) (xs : List Int) : Int := if xs.length = 0 then 1 else askedE g.length [xs]
def manyA (g : List (List Int)) (xs : List Int) : List Int := if manyE g xs = 0 then elsTo g.length (bestT g (manyS g xs) g.length) else []
theorem manyS_out {g : List (List Int)} (hg : Good g) {xs : List Int} (h0 : xs ≠ []) (hx : ∀ p ∈ xs, 0 ≤ p ∧ p < g.length) (j : Nat) (hj : g.length ≤ j) : manyS g xs j = false := by
  cases xs with
  | nil => exact absurd rfl h0
  | cons c l =>
    unfold manyS
    have hc := hx c (List.mem_cons_self ..)
    cases h : up g c.toNat j with
    | false => rw [List.all_cons, h]; rfl
    | true => have := up_le hg h; omega
/-- in, without the parents of some -/
def dropP (g : List (List Int)) (S : Nat → Bool) (l : List Int) : Nat → Bool := fun j => S j && !(l.any fun c => decide ((j : Int) ∈ rowOf g c.toNat))
theorem dropP_best (g : List (List Int)) (S : Nat → Bool) : ∀ j, dropP g S (elsTo g.length S) j = bestT g S g.length j := fun j => by
  unfold dropP bestT
  congr 2
  rw [Bool.eq_iff_iff, List.any_eq_true, List.any_eq_true]
  constructor
  · rintro ⟨c, hc, h⟩
    obtain ⟨k, rfl, hk, hS⟩ := elsTo_mem.1 hc
    rw [Int.toNat_natCast] at h
    exact ⟨k, List.mem_range.2 hk, by rw [hS, h]; rfl⟩
  · rintro ⟨y, hy, h⟩
    simp only [Bool.and_eq_true] at h
    exact ⟨(y : Int), elsTo_mem.2 ⟨y, rfl, List.mem_range.1 hy, h.1⟩, by rw [Int.toNat_natCast]; exact h.2⟩
theorem row_tail {μ : PH} {v : Value} {xs : List Int} (hv : Row μ v 1 xs.length (xs.flatMap (icsk .i64))) (h : 1 ≤ xs.length) :
    ∃ v', Row μ v' 1 (xs.drop 1).length ((xs.drop 1).flatMap (icsk .i64)) ∧ ∀ (env : Env) (x : Operand), evalE env x = some v → Pu Tryd.prog env (.slice 31 x (some (.const (.int .i64 1))) none none) v' := by
  obtain ⟨v', hr, hp⟩ := Row.lo (P := Tryd.prog) (t := 31) hv 1 h
  refine ⟨v', ?_, fun env x hx => hp env x _ .i64 1 hx rfl rfl⟩
  rw [List.length_drop]
  have e : (xs.flatMap (icsk .i64)).drop (1 * 1) = (xs.drop 1).flatMap (icsk .i64) := by
    cases xs with
    | nil => rfl
    | cons c l => rw [List.flatMap_cons]; rfl
  rwa [e] at hr
set_option maxHeartbeats 4000000 in
theorem many_spec (X : Src) (s0 : X.σ) (μ : PH) (v : Value) (xs : List Int) (hd : X.d ≤ 6) (hT : RowAt μ 0 0 tabV) (hv : Row μ v 1 xs.length (xs.flatMap (icsk .i64))) (h0 : Le X.μ0 μ) (hf : X.fine s0) :
    Spec Tryd.prog 35 [X.sv, v] [X.A s0 μ, ro μ] (fun r L => ∃ lv zs μ', askedIn X.n zs ∧ Le μ μ' ∧ r = .tuple #[lv, .int .i64 (manyE X.g xs)] ∧ L = [own 3 1 lv (manyA X.g xs).length ((manyA X.g xs).flatMap (icsk .i64)), X.A (zs.foldl X.step s0) μ', ro μ']) := by
  have hn := X.hn
  have hXn : X.n = X.g.length := rfl
  have hvs := hv.small
  obtain ⟨A1, c1, rfl⟩ := hv.sl
  refine Spec.of 78 Tryd.func35 rfl rfl rfl ?_
  refine swp_seq ?_
  refine swp_region ?_
  refine s_pu (pu_assign rfl) ?_
  refine s_pu (pu_assign rfl) ?_
  refine swl_sub _ (.cons (t := 0) rfl (.cons (t := 1) rfl .nil)) ?_
  refine swl_nil ?_
  refine then_n ?_
  refine swp_seq ?_
  refine swp_seq ?_
  refine swp_region ?_
  refine s_pu (pu_move rfl) ?_
  refine s_pu (pu_if_eq_nil rfl rfl) ?_
  refine s_pu (pu_move rfl) ?_
  refine s_split 18 rfl (fun h18 => by cases h18) (fun h18 => ?_)
  refine s_on rfl rfl ?_
  refine s_pu (pu_move rfl) ?_
  refine s_on rfl rfl ?_
  refine s_pu (pu_len rfl) ?_
  refine s_on rfl rfl ?_
  refine s_pu (pu_eql rfl rfl) ?_
  first | refine s_pu (pu_pick_t rfl rfl) ?_ | refine s_pu (pu_pick_f rfl rfl) ?_
  refine swl_sub _ (.cons (t := 0) rfl (.cons (t := 1) rfl (.cons (t := 22) rfl .nil))) ?_
  refine swl_nil ?_
  refine then_n ?_
  refine swp_cond (b := _) rfl (fun h22 => ?_) (fun h22 => ?_)
  · skip   -- 22 T
    have hl0 : xs.length = 0 := by have := of_decide_eq_true h22; omega
    have he : manyE X.g xs = 1 := if_pos hl0
    refine swp_seq ?_
    refine swp_region ?_
    refine s_pu (pu_assign rfl) ?_
    refine s_pu (pu_assign rfl) ?_
    refine swl_sub _ (.cons (t := 4) rfl (.cons (t := 5) rfl .nil)) ?_
    refine swl_nil ?_
    refine then_n ?_
    refine swp_ret ?_
    refine then_r ?_
    refine done_retE [own 3 1 (.slice none 0 0) (manyA X.g xs).length ((manyA X.g xs).flatMap (icsk .i64)), X.A s0 μ, ro μ] (.tmp rfl (.tmp rfl .nil)) ⟨_, [], μ, ⟨List.nodup_nil, fun y hy => by cases hy⟩, Le.refl _, by rw [he]; rfl, rfl⟩ ?_
    rw [manyA, if_neg (by rw [he]; decide)]
    exact (Split.ent' (K := [X.A s0 μ, ro μ]) (by repeat (first | exact Split.nil | (apply Split.cons; (repeat (first | with_reducible exact Take.here | apply Take.there)))))).trans own_nil_ent
  · skip   -- 22 F
    have hl0 : xs.length ≠ 0 := by have := of_decide_eq_false h22; omega
    have hE : manyE X.g xs = askedE X.g.length [xs] := if_neg hl0
    refine swp_skip ?_
    refine then_n ?_
    refine swp_seq ?_
    refine swp_seq ?_
    refine swp_region ?_
    refine s_pu (pu_move rfl) ?_
    refine s_pu (pu_move rfl) ?_
    refine s_ef (ef_bldS (qs := [(0, _)]) rfl rfl rfl) ?_
    intro b25
    refine swl_share (b := b25) (μ := μ) (by repeat (first | exact Split.nil | (apply Split.cons; (repeat (first | with_reducible exact Take.here | apply Take.there))))) fun μ1 h1 k1 => ?_
    refine swl_ent (X.up (s := s0) h1 (by repeat (first | exact Split.nil | (apply Split.cons; (repeat (first | with_reducible exact Take.here | apply Take.there)))))) ?_
    have hG : Graph μ1 (.slice (some ⟨b25, 0, none⟩) 1 1) [(.slice A1 xs.length c1, xs)] := ⟨row_of_blk k1 (by rfl) (by decide), fun x hx => by obtain rfl := List.mem_singleton.1 hx; exact hv.le h1⟩
    refine s_ef (ef_fn (basked_spec X s0 μ1 _ _ hG) rfl rfl (by repeat (first | exact Split.nil | (apply Split.cons; (repeat (first | with_reducible exact Take.here | apply Take.there)))))) ?_
    rintro v26 L1 ⟨rfl, rfl⟩
    refine swl_app ?_
    rw [show askedE X.n (nums [(Value.slice A1 xs.length c1, xs)]) = askedE X.g.length [xs] from rfl, ← hE]
    refine s_pu (pu_assign rfl) ?_
    refine swl_sub _ (.cons (t := 0) rfl (.cons (t := 1) rfl (.cons (t := 6) rfl .nil))) ?_
    refine swl_nil ?_
    refine then_n ?_
    refine swp_seq ?_
    refine swp_region ?_
    refine s_pu (pu_move rfl) ?_
    refine s_pu (pu_neq rfl rfl) ?_
    refine swl_sub _ (.cons (t := 0) rfl (.cons (t := 1) rfl (.cons (t := 6) rfl (.cons (t := 28) rfl .nil)))) ?_
    refine swl_nil ?_
    refine then_n ?_
    refine swp_cond (b := _) rfl (fun h28 => ?_) (fun h28 => ?_)
    · skip   -- 28 T
      have he : manyE X.g xs ≠ 0 := by simpa using h28
      refine swp_seq ?_
      refine swp_region ?_
      refine s_pu (pu_move rfl) ?_
      refine s_pu (pu_assign rfl) ?_
      refine s_pu (pu_assign rfl) ?_
      refine swl_sub _ (.cons (t := 4) rfl (.cons (t := 5) rfl .nil)) ?_
      refine swl_nil ?_
      refine then_n ?_
      refine swp_ret ?_
      refine then_r ?_
      refine done_retE [own 3 1 (.slice none 0 0) (manyA X.g xs).length ((manyA X.g xs).flatMap (icsk .i64)), X.A s0 μ1, ro μ1] (.tmp rfl (.tmp rfl .nil)) ⟨_, [], μ1, ⟨List.nodup_nil, fun y hy => by cases hy⟩, h1, rfl, rfl⟩ ?_
      rw [manyA, if_neg he]
      exact (Split.ent' (K := [X.A s0 μ1, ro μ1]) (by repeat (first | exact Split.nil | (apply Split.cons; (repeat (first | with_reducible exact Take.here | apply Take.there)))))).trans own_nil_ent
    · skip   -- 28 F
      have he : manyE X.g xs = 0 := by simpa using h28
      have hx : ∀ p ∈ xs, 0 ≤ p ∧ p < X.g.length := askedE_in (by rw [← hE]; exact he) (by simp)
      have hne : xs ≠ [] := fun e => hl0 (by rw [e]; rfl)
      obtain ⟨c0, hc0⟩ : ∃ c, xs[0]? = some c := ⟨_, List.getElem?_eq_getElem (by omega)⟩
      obtain ⟨pb0, po0, pc0, hpv0, hpc0⟩ := (hv.le h1).at_ hc0
      have hcr0 := hx c0 (List.mem_of_getElem? hc0)
      obtain ⟨c0, rfl⟩ : ∃ k : Nat, c0 = k := ⟨c0.toNat, by omega⟩
      obtain ⟨vt, hrt, hst⟩ := row_tail hv (by omega)
      have hdl := hrt.small
      refine swp_skip ?_
      refine then_n ?_
      refine swp_seq ?_
      refine swp_region ?_
      refine s_pu (pu_move rfl) ?_
      refine s_ef (ef_makeMap (kv := ikv)) ?_
      intro b31
      refine s_pu (pu_bld (qs := [(0, _), (1, _)]) rfl) ?_
      refine s_ef (ef_box rfl rfl) ?_
      intro b33
      refine s_pu (pu_assign rfl) ?_
      refine swl_sub _ (.cons (t := 1) rfl (.cons (t := 7) rfl .nil)) ?_
      refine swl_ent (Split.ent' (K := [X.A s0 μ1, blk b33 89 [X.sv, .map (some b31)], mpe b31 ikv [] 0, ro μ1]) (by repeat (first | exact Split.nil | (apply Split.cons; (repeat (first | with_reducible exact Take.here | apply Take.there)))))) ?_
      refine swl_ent (onA_close (rmapOk_nil X.g μ1)) ?_
      refine swl_nil ?_
      refine then_n ?_
      refine swp_seq ?_
      refine swp_region ?_
      refine s_pu (pu_move rfl) ?_
      refine s_pu (pu_iface rfl) ?_
      refine s_pu (pu_move rfl) ?_
      refine s_pu (pu_indexAddr (po0 + 0 * 1) (congrArg some hpv0) rfl (by omega) (by omega) rfl) ?_
      refine s_rd (rd_ro rfl hpc0) ?_
      refine s_ef (ef_fn (oreach_spec X s0 s0 [] μ1 b33 b31 c0 hd (by omega) (h0.trans h1) hf (onOk_nil X s0)) rfl rfl (by repeat (first | exact Split.nil | (apply Split.cons; (repeat (first | with_reducible exact Take.here | apply Take.there)))))) ?_
      rintro v39 L1 ⟨p0, μ2, s2, ys2, h2, hk2, rfl, rfl⟩
      refine swl_app ?_
      refine s_pu (pu_assign rfl) ?_
      refine swl_sub _ (.cons (t := 1) rfl (.cons (t := 7) rfl (.cons (t := 8) rfl .nil))) ?_
      refine swl_nil ?_
      refine then_n ?_
      refine swp_seq ?_
      refine swp_seq ?_
      refine swp_region ?_
      refine s_pu (pu_move rfl) ?_
      refine s_pu (hst _ _ rfl) ?_
      refine s_pu (pu_len_row hrt rfl) ?_
      refine s_pu (pu_move rfl) ?_
      refine swl_sub _ (.cons (t := 7) rfl (.cons (t := 8) rfl (.cons (t := 41) rfl (.cons (t := 42) rfl (.cons (t := 43) rfl .nil))))) ?_
      refine swl_nil ?_
      refine then_n ?_
      refine swp_block ?_
      have hS1 : up X.g c0 = manyS X.g (xs.take (0 + 1)) := funext fun j => by
        rw [List.take_add_one, hc0]
        unfold manyS; simp
      rw [hS1]
      refine swp_sub _ (.cons (t := 7) rfl (.cons (t := 8) rfl (.cons (t := 41) rfl (.cons (t := 42) rfl (.cons (t := 43) rfl .nil))))) ?_
      refine swp_loop (ι := Nat × PH × X.σ × List Nat) (fun k env L => env = [(7, .pointer (some ⟨b33, 0, none⟩)), (8, .pointer (some ⟨p0, 0, none⟩)), (41, vt), (42, .int .i64 ((xs.drop 1).length : Nat)), (43, .int .i64 (k.1 : Nat))]
        ∧ Ent L [onA X b33 b31 k.2.2.1 k.2.2.2 k.2.1, ro k.2.1, mset p0 X.n (manyS X.g (xs.take (k.1 + 1)))] ∧ k.1 ≤ (xs.drop 1).length ∧ Le μ1 k.2.1 ∧ onOk X s0 k.2.2.1 k.2.2.2) (fun k => (xs.drop 1).length - k.1) (0, μ2, s2, ys2) ⟨rfl, Split.ent' (by repeat (first | exact Split.nil | (apply Split.cons; (repeat (first | with_reducible exact Take.here | apply Take.there))))), Nat.zero_le _, h2, hk2⟩ ?_
      rintro ⟨i, μi, si, yi⟩ env L ⟨rfl, hL, hi, hli, hki⟩
      dsimp only at hL hi hli hki ⊢
      refine swp_ent hL ?_
      refine swp_seq ?_
      refine swp_region ?_
      refine s_pu (pu_lss rfl rfl) ?_
      refine swl_sub _ (.cons (t := 7) rfl (.cons (t := 8) rfl (.cons (t := 41) rfl (.cons (t := 42) rfl (.cons (t := 43) rfl (.cons (t := 44) rfl .nil)))))) ?_
      refine swl_nil ?_
      refine then_n ?_
      refine swp_seq ?_
      refine swp_cond (b := _) rfl (fun h44 => ?_) (fun h44 => ?_)
      · skip   -- 44 T
        have h44' : i < (xs.drop 1).length := by have := of_decide_eq_true h44; omega
        obtain ⟨c, hc⟩ : ∃ c, (xs.drop 1)[i]? = some c := ⟨_, List.getElem?_eq_getElem h44'⟩
        have hc' : xs[i + 1]? = some c := by rw [List.getElem?_drop] at hc; rwa [Nat.add_comm] at hc
        obtain ⟨pb, po, pc, hpv, hpc⟩ := (hrt.le (h1.trans hli)).at_ hc
        have hcr := hx c (List.mem_of_getElem? hc')
        obtain ⟨c, rfl⟩ : ∃ k : Nat, c = k := ⟨c.toNat, by omega⟩
        have hS2 : (fun k => decide (k < X.n) && (manyS X.g (xs.take (i + 1)) k && up X.g c k)) = manyS X.g (xs.take (i + 1 + 1)) := funext fun j => by
          have e : manyS X.g (xs.take (i + 1 + 1)) j = (manyS X.g (xs.take (i + 1)) j && up X.g c j) := by
            rw [List.take_add_one (i := i + 1), hc']
            unfold manyS; rw [List.all_append]; simp
          rw [e]
          by_cases hj : j < X.n
          · rw [decide_eq_true hj, Bool.true_and]
          · rw [decide_eq_false hj, Bool.false_and]
            cases hu : up X.g c j with
            | false => rw [Bool.and_false]
            | true => have := up_le X.hg hu; omega
        refine swp_skip ?_
        refine then_n ?_
        refine swp_seq ?_
        refine swp_block ?_
        refine swp_seq ?_
        refine swp_region ?_
        refine s_pu (pu_indexAddr (po + i * 1) (congrArg some hpv) rfl (by omega) (by omega) (by rw [Int.toNat_natCast])) ?_
        refine s_rd (rd_ro rfl hpc) ?_
        refine s_pu (pu_assign rfl) ?_
        refine swl_sub _ (.cons (t := 7) rfl (.cons (t := 8) rfl (.cons (t := 10) rfl (.cons (t := 41) rfl (.cons (t := 42) rfl (.cons (t := 43) rfl .nil)))))) ?_
        refine swl_nil ?_
        refine then_n ?_
        refine swp_region ?_
        refine s_pu (pu_move rfl) ?_
        refine s_pu (pu_move rfl) ?_
        refine s_pu (pu_iface rfl) ?_
        refine s_pu (pu_move rfl) ?_
        refine s_ef (ef_fn (oreach_spec X s0 si yi μi b33 b31 c hd (by omega) (h0.trans (h1.trans hli)) hf hki) rfl rfl (by repeat (first | exact Split.nil | (apply Split.cons; (repeat (first | with_reducible exact Take.here | apply Take.there)))))) ?_
        rintro v51 L1 ⟨p1, μ3, s3, ys3, h3, hk3, rfl, rfl⟩
        refine swl_app ?_
        refine s_ef (ef_fn (and_m p0 X.n p1 X.n (manyS X.g (xs.take (i + 1))) (up X.g c)) rfl rfl (by repeat (first | exact Split.nil | (apply Split.cons; (repeat (first | with_reducible exact Take.here | apply Take.there)))))) ?_
        rintro v52 L1 ⟨rfl, rfl⟩
        refine swl_app ?_
        rw [hS2]
        refine swl_sub _ (.cons (t := 7) rfl (.cons (t := 8) rfl (.cons (t := 41) rfl (.cons (t := 42) rfl (.cons (t := 43) rfl .nil))))) ?_
        refine swl_nil ?_
        refine block_n ?_
        refine then_n ?_
        refine swp_region ?_
        refine s_pu (pu_add_as ((i + 1 : Nat) : Int) rfl rfl (by omega) (by omega) (by omega)) ?_
        refine s_pu (pu_move rfl) ?_
        refine swl_sub _ (.cons (t := 7) rfl (.cons (t := 8) rfl (.cons (t := 41) rfl (.cons (t := 42) rfl (.cons (t := 43) rfl .nil))))) ?_
        refine swl_nil ?_
        refine then_n ⟨(i + 1, μ3, s3, ys3), ⟨rfl, ?_, h44', hli.trans h3, hk3⟩, by show (xs.drop 1).length - (i + 1) < (xs.drop 1).length - i; omega⟩
        exact Split.ent' (by repeat (first | exact Split.nil | (apply Split.cons; (repeat (first | with_reducible exact Take.here | apply Take.there)))))
      · skip   -- 44 F
        have h44' := of_decide_eq_false h44
        obtain rfl : i = (xs.drop 1).length := by omega
        have hLT := hli
        rw [show (xs.drop 1).length + 1 = xs.length by rw [List.length_drop]; omega, List.take_length]
        have hSo := manyS_out X.hg hne hx
        generalize hSe : manyS X.g xs = S at *
        refine swp_exit ?_
        refine then_x ?_
        refine then_x ?_
        refine block_hit rfl ?_
        refine then_n ?_
        refine swp_seq ?_
        refine swp_region ?_
        refine s_pu (pu_move rfl) ?_
        refine s_ef (ef_fn (copy_m p0 X.n S) rfl rfl (by repeat (first | exact Split.nil | (apply Split.cons; (repeat (first | with_reducible exact Take.here | apply Take.there)))))) ?_
        rintro v55 L1 ⟨q, rfl, rfl⟩
        refine swl_app ?_
        refine s_pu (pu_assign rfl) ?_
        refine swl_sub _ (.cons (t := 7) rfl (.cons (t := 8) rfl (.cons (t := 11) rfl .nil))) ?_
        refine swl_nil ?_
        refine then_n ?_
        refine swp_seq ?_
        refine swp_seq ?_
        refine swp_region ?_
        refine s_pu (pu_move rfl) ?_
        refine s_ef (ef_fn (list_m μi p0 X.n S ((hT.le h1).le hli)) rfl rfl (by repeat (first | exact Split.nil | (apply Split.cons; (repeat (first | with_reducible exact Take.here | apply Take.there)))))) ?_
        rintro v57 L1 rfl
        refine swl_app ?_
        have hEin : ∀ c ∈ elsTo X.n S, 0 ≤ c ∧ c < X.g.length := fun c hc => by
          obtain ⟨k, rfl, hk, _⟩ := elsTo_mem.1 hc
          omega
        have hEl := elsTo_len X.n S
        have hbest := dropP_best X.g S
        rw [← hXn] at hbest
        generalize elsTo X.n S = es at *
        refine swl_share_own (v := v57) (μ := μi) (by repeat (first | exact Split.nil | (apply Split.cons; (repeat (first | with_reducible exact Take.here | apply Take.there))))) fun μ4 h4 r57 => ?_
        refine swl_ent (Ent.trans (Split.ent' (K := [onA X b33 b31 si yi μi, ro μ4, mset q X.n S]) (by repeat (first | exact Split.nil | (apply Split.cons; (repeat (first | with_reducible exact Take.here | apply Take.there)))))) (Ent.app (L1 := [_]) (R := [ro μ4, mset q X.n S]) (onA_mono h4))) ?_
        simp only [List.cons_append, List.nil_append]
        refine s_pu (pu_len_row r57 rfl) ?_
        refine s_pu (pu_move rfl) ?_
        refine swl_sub _ (.cons (t := 7) rfl (.cons (t := 11) rfl (.cons (t := 57) rfl (.cons (t := 58) rfl (.cons (t := 59) rfl .nil))))) ?_
        refine swl_nil ?_
        refine then_n ?_
        refine swp_block ?_
        have hS0 : S = dropP X.g S (es.take 0) := funext fun j => by unfold dropP; simp
        refine swp_sub _ (.cons (t := 7) rfl (.cons (t := 11) rfl (.cons (t := 57) rfl (.cons (t := 58) rfl (.cons (t := 59) rfl .nil))))) ?_
        refine swp_loop (ι := Nat × PH × X.σ × List Nat) (fun k env L => env = [(7, .pointer (some ⟨b33, 0, none⟩)), (11, .pointer (some ⟨q, 0, none⟩)), (57, v57), (58, .int .i64 (es.length : Nat)), (59, .int .i64 (k.1 : Nat))]
          ∧ Ent L [onA X b33 b31 k.2.2.1 k.2.2.2 k.2.1, ro k.2.1, mset q X.n (dropP X.g S (es.take k.1))] ∧ k.1 ≤ es.length ∧ Le μ4 k.2.1 ∧ onOk X s0 k.2.2.1 k.2.2.2) (fun k => es.length - k.1) (0, μ4, si, yi) ⟨rfl, by dsimp only; rw [← hS0]; exact Split.ent' (by repeat (first | exact Split.nil | (apply Split.cons; (repeat (first | with_reducible exact Take.here | apply Take.there))))), Nat.zero_le _, Le.refl _, hki⟩ ?_
        rintro ⟨i, μj, sj, yj⟩ env L ⟨rfl, hLj, hij, hlj, hkj⟩
        dsimp only at hLj hij hlj hkj ⊢
        refine swp_ent hLj ?_
        refine swp_seq ?_
        refine swp_region ?_
        refine s_pu (pu_lss rfl rfl) ?_
        refine swl_sub _ (.cons (t := 7) rfl (.cons (t := 11) rfl (.cons (t := 57) rfl (.cons (t := 58) rfl (.cons (t := 59) rfl (.cons (t := 60) rfl .nil)))))) ?_
        refine swl_nil ?_
        refine then_n ?_
        refine swp_seq ?_
        refine swp_cond (b := _) rfl (fun h60 => ?_) (fun h60 => ?_)
        · skip   -- 60 T
          have h60' : i < es.length := by have := of_decide_eq_true h60; omega
          obtain ⟨c, hc⟩ : ∃ c, es[i]? = some c := ⟨_, List.getElem?_eq_getElem h60'⟩
          obtain ⟨pb, po, pc, hpv, hpc⟩ := (r57.le hlj).at_ hc
          have hcr := hEin c (List.mem_of_getElem? hc)
          obtain ⟨c, rfl⟩ : ∃ k : Nat, c = k := ⟨c.toNat, by omega⟩
          have l1j := h1.trans (hLT.trans (h4.trans hlj))
          refine swp_skip ?_
          refine then_n ?_
          refine swp_seq ?_
          refine swp_block ?_
          refine swp_seq ?_
          refine swp_region ?_
          refine s_pu (pu_indexAddr (po + i * 1) (congrArg some hpv) rfl (by omega) (by omega) (by rw [Int.toNat_natCast])) ?_
          refine s_rd (rd_ro rfl hpc) ?_
          refine s_pu (pu_assign rfl) ?_
          refine swl_sub _ (.cons (t := 7) rfl (.cons (t := 11) rfl (.cons (t := 13) rfl (.cons (t := 57) rfl (.cons (t := 58) rfl (.cons (t := 59) rfl .nil)))))) ?_
          refine swl_nil ?_
          refine then_n ?_
          refine swp_seq ?_
          refine swp_region ?_
          refine s_pu (pu_move rfl) ?_
          refine s_pu (pu_move rfl) ?_
          refine s_ef (ef_fn (opar_spec X s0 sj yj μj b33 b31 c (by omega) (h0.trans l1j) hf hkj) rfl rfl (by repeat (first | exact Split.nil | (apply Split.cons; (repeat (first | with_reducible exact Take.here | apply Take.there)))))) ?_
          rintro v65 L1 ⟨μ5, s5, ys5, h5, hk5, r65, rfl⟩
          refine swl_app ?_
          refine s_pu (pu_len_row r65 rfl) ?_
          refine s_pu (pu_move rfl) ?_
          refine swl_sub _ (.cons (t := 7) rfl (.cons (t := 11) rfl (.cons (t := 57) rfl (.cons (t := 58) rfl (.cons (t := 59) rfl (.cons (t := 65) rfl (.cons (t := 66) rfl (.cons (t := 67) rfl .nil)))))))) ?_
          refine swl_nil ?_
          refine then_n ?_
          refine swp_block ?_
          have hrs := r65.small
          generalize hTe : dropP X.g S (es.take i) = T at *
          have hT0 : T = fun j => T j && !decide ((j : Int) ∈ (rowOf X.g c).take 0) := funext fun j => by simp
          refine swp_sub _ (.cons (t := 7) rfl (.cons (t := 11) rfl (.cons (t := 57) rfl (.cons (t := 58) rfl (.cons (t := 59) rfl (.cons (t := 65) rfl (.cons (t := 66) rfl (.cons (t := 67) rfl .nil)))))))) ?_
          refine swp_loop (ι := Nat) (fun k env L => env = [(7, .pointer (some ⟨b33, 0, none⟩)), (11, .pointer (some ⟨q, 0, none⟩)), (57, v57), (58, .int .i64 (es.length : Nat)), (59, .int .i64 (i : Nat)), (65, v65), (66, .int .i64 ((rowOf X.g c).length : Nat)), (67, .int .i64 (k : Nat))]
            ∧ Ent L [onA X b33 b31 s5 ys5 μ5, ro μ5, mset q X.n (fun j => T j && !decide ((j : Int) ∈ (rowOf X.g c).take k))] ∧ k ≤ (rowOf X.g c).length) (fun k => (rowOf X.g c).length - k) 0 ⟨rfl, by rw [← hT0]; exact Split.ent' (by repeat (first | exact Split.nil | (apply Split.cons; (repeat (first | with_reducible exact Take.here | apply Take.there))))), Nat.zero_le _⟩ ?_
          rintro k env L ⟨rfl, hLk, hk⟩
          refine swp_ent hLk ?_
          refine swp_seq ?_
          refine swp_region ?_
          refine s_pu (pu_lss rfl rfl) ?_
          refine swl_sub _ (.cons (t := 7) rfl (.cons (t := 11) rfl (.cons (t := 57) rfl (.cons (t := 58) rfl (.cons (t := 59) rfl (.cons (t := 65) rfl (.cons (t := 66) rfl (.cons (t := 67) rfl (.cons (t := 68) rfl .nil))))))))) ?_
          refine swl_nil ?_
          refine then_n ?_
          refine swp_seq ?_
          refine swp_cond (b := _) rfl (fun h68 => ?_) (fun h68 => ?_)
          · skip   -- 68 T
            have h68' : k < (rowOf X.g c).length := by have := of_decide_eq_true h68; omega
            obtain ⟨u, hu⟩ : ∃ u, (rowOf X.g c)[k]? = some u := ⟨_, List.getElem?_eq_getElem h68'⟩
            obtain ⟨ub, uo, uc, huv, huc⟩ := r65.at_ hu
            have hur := row_good X.hg (List.mem_of_getElem? hu)
            obtain ⟨u, rfl⟩ : ∃ m : Nat, u = m := ⟨u.toNat, by omega⟩
            have hT1 : (fun j => (T j && !decide ((j : Int) ∈ (rowOf X.g c).take k)) && !(decide (0 ≤ (u : Int)) && decide (j = (u : Int).toNat))) = fun j => T j && !decide ((j : Int) ∈ (rowOf X.g c).take (k + 1)) := funext fun j => by
              rw [List.take_add_one, hu, Int.toNat_natCast, decide_eq_true hur.1, Bool.true_and, Bool.and_assoc]
              congr 1
              by_cases e : j = u
              · subst e; simp
              · have e' : ¬ (j : Int) = u := by omega
                simp [e, e']
            refine swp_skip ?_
            refine then_n ?_
            refine swp_seq ?_
            refine swp_block ?_
            refine swp_seq ?_
            refine swp_region ?_
            refine s_pu (pu_indexAddr (uo + k * 1) (congrArg some huv) rfl (by omega) (by omega) (by rw [Int.toNat_natCast])) ?_
            refine s_rd (rd_ro rfl huc) ?_
            refine s_pu (pu_assign rfl) ?_
            refine swl_sub _ (.cons (t := 7) rfl (.cons (t := 11) rfl (.cons (t := 15) rfl (.cons (t := 57) rfl (.cons (t := 58) rfl (.cons (t := 59) rfl (.cons (t := 65) rfl (.cons (t := 66) rfl (.cons (t := 67) rfl .nil))))))))) ?_
            refine swl_nil ?_
            refine then_n ?_
            refine swp_region ?_
            refine s_pu (pu_move rfl) ?_
            refine s_pu (pu_move rfl) ?_
            refine s_ef (ef_fn (drop_m q X.n (fun j => T j && !decide ((j : Int) ∈ (rowOf X.g c).take k)) (u : Nat)) rfl rfl (by repeat (first | exact Split.nil | (apply Split.cons; (repeat (first | with_reducible exact Take.here | apply Take.there)))))) ?_
            rintro v73 L1 ⟨rfl, rfl⟩
            refine swl_app ?_
            rw [hT1]
            refine swl_sub _ (.cons (t := 7) rfl (.cons (t := 11) rfl (.cons (t := 57) rfl (.cons (t := 58) rfl (.cons (t := 59) rfl (.cons (t := 65) rfl (.cons (t := 66) rfl (.cons (t := 67) rfl .nil)))))))) ?_
            refine swl_nil ?_
            refine block_n ?_
            refine then_n ?_
            refine swp_region ?_
            refine s_pu (pu_add_as ((k + 1 : Nat) : Int) rfl rfl (by omega) (by omega) (by omega)) ?_
            refine s_pu (pu_move rfl) ?_
            refine swl_sub _ (.cons (t := 7) rfl (.cons (t := 11) rfl (.cons (t := 57) rfl (.cons (t := 58) rfl (.cons (t := 59) rfl (.cons (t := 65) rfl (.cons (t := 66) rfl (.cons (t := 67) rfl .nil)))))))) ?_
            refine swl_nil ?_
            exact then_n ⟨k + 1, ⟨rfl, Split.ent' (by repeat (first | exact Split.nil | (apply Split.cons; (repeat (first | with_reducible exact Take.here | apply Take.there))))), h68'⟩, by omega⟩
          · skip   -- 68 F
            have h68' := of_decide_eq_false h68
            obtain rfl : k = (rowOf X.g c).length := by omega
            rw [List.take_length]
            have hT2 : (fun j => T j && !decide ((j : Int) ∈ rowOf X.g c)) = dropP X.g S (es.take (i + 1)) := funext fun j => by
              rw [← hTe, List.take_add_one, hc]
              unfold dropP
              rw [List.any_append, Bool.not_or, Bool.and_assoc]
              simp
            rw [hT2]
            refine swp_exit ?_
            refine then_x ?_
            refine then_x ?_
            refine block_hit rfl ?_
            refine block_n ?_
            refine then_n ?_
            refine swp_region ?_
            refine s_pu (pu_add_as ((i + 1 : Nat) : Int) rfl rfl (by omega) (by omega) (by omega)) ?_
            refine s_pu (pu_move rfl) ?_
            refine swl_sub _ (.cons (t := 7) rfl (.cons (t := 11) rfl (.cons (t := 57) rfl (.cons (t := 58) rfl (.cons (t := 59) rfl .nil))))) ?_
            refine swl_nil ?_
            refine then_n ⟨(i + 1, μ5, s5, ys5), ⟨rfl, ?_, h60', hlj.trans h5, hk5⟩, by show es.length - (i + 1) < es.length - i; omega⟩
            exact Split.ent' (by repeat (first | exact Split.nil | (apply Split.cons; (repeat (first | with_reducible exact Take.here | apply Take.there)))))
        · skip   -- 60 F
          have h60' := of_decide_eq_false h60
          obtain rfl : i = es.length := by omega
          rw [List.take_length, show dropP X.g S es = bestT X.g S X.n from funext hbest]
          refine swp_exit ?_
          refine then_x ?_
          refine then_x ?_
          refine block_hit rfl ?_
          refine then_n ?_
          refine swp_seq ?_
          refine swp_region ?_
          refine s_pu (pu_move rfl) ?_
          refine s_ef (ef_fn (list_m μj q X.n (bestT X.g S X.n) (hT.le (h1.trans (hLT.trans (h4.trans hlj))))) rfl rfl (by repeat (first | exact Split.nil | (apply Split.cons; (repeat (first | with_reducible exact Take.here | apply Take.there)))))) ?_
          rintro v77 L1 rfl
          refine swl_app ?_
          rw [show elsTo X.n (bestT X.g S X.n) = manyA X.g xs by rw [manyA, if_pos he, hSe]]
          refine s_pu (pu_assign rfl) ?_
          refine s_pu (pu_assign rfl) ?_
          refine swl_sub _ (.cons (t := 4) rfl (.cons (t := 5) rfl .nil)) ?_
          refine swl_nil ?_
          refine then_n ?_
          refine swp_ret ?_
          refine done_retE [own 3 1 v77 (manyA X.g xs).length ((manyA X.g xs).flatMap (icsk .i64)), X.A (yj.foldl X.step s0) μj, ro μj] (.tmp rfl (.tmp rfl .nil)) ⟨_, yj, μj, hkj.1, h1.trans (hLT.trans (h4.trans hlj)), by rw [he]; rfl, rfl⟩ ?_
          rw [← hkj.2]
          refine (Split.ent' (K := [onA X b33 b31 sj yj μj, own 3 1 v77 (manyA X.g xs).length ((manyA X.g xs).flatMap (icsk .i64)), ro μj]) (by repeat (first | exact Split.nil | (apply Split.cons; (repeat (first | with_reducible exact Take.here | apply Take.there)))))).trans ?_
          exact onA_src.trans Ent.swap
end SX
namespace SX
open Go Go.Proofs

theorem size_w (p n : Nat) (S : Nat → Bool) : Spec Tryd.prog 72 [.pointer (some ⟨p, 0, none⟩)] [mset p n S] (fun r L => r = .int .i64 (n : Nat) ∧ L = [mset p n S]) := size_m p n S
/-- what some others reach -/
def belowS (g : List (List Int)) (es : List Int) : Nat → Bool := fun j => es.any fun c => up g c.toNat j && !decide (j = c.toNat)
def indS (g : List (List Int)) (xs : List Int) : Nat → Bool := fun j => seedS xs j && !belowS g xs j
def indA (g : List (List Int)) (xs : List Int) : List Int := if askedE g.length [xs] = 0 then elsTo g.length (indS g xs) else []
theorem below_ext {g : List (List Int)} {es xs : List Int} (h : ∀ c, c ∈ es ↔ c ∈ xs) : belowS g es = belowS g xs := funext fun j => by
  unfold belowS
  rw [Bool.eq_iff_iff, List.any_eq_true, List.any_eq_true]
  exact ⟨fun ⟨c, h1, h2⟩ => ⟨c, (h c).1 h1, h2⟩, fun ⟨c, h1, h2⟩ => ⟨c, (h c).2 h1, h2⟩⟩
set_option maxHeartbeats 4000000 in
theorem indep_spec (X : Src) (s0 : X.σ) (μ : PH) (v : Value) (xs : List Int) (hd : X.d ≤ 6) (hT : RowAt μ 0 0 tabV) (hv : Row μ v 1 xs.length (xs.flatMap (icsk .i64))) (h0 : Le X.μ0 μ) (hf : X.fine s0) :
    Spec Tryd.prog 39 [X.sv, v] [X.A s0 μ, ro μ] (fun r L => ∃ lv zs μ', askedIn X.n zs ∧ Le μ μ' ∧ r = .tuple #[lv, .int .i64 (askedE X.g.length [xs])] ∧ L = [own 3 1 lv (indA X.g xs).length ((indA X.g xs).flatMap (icsk .i64)), X.A (zs.foldl X.step s0) μ', ro μ']) := by
  have hn := X.hn
  have hXn : X.n = X.g.length := rfl
  have hvs := hv.small
  obtain ⟨A1, c1, rfl⟩ := hv.sl
  refine Spec.of 65 Tryd.func39 rfl rfl rfl ?_
  refine swp_seq ?_
  refine swp_region ?_
  refine s_pu (pu_assign rfl) ?_
  refine s_pu (pu_assign rfl) ?_
  refine swl_sub _ (.cons (t := 0) rfl (.cons (t := 1) rfl .nil)) ?_
  refine swl_nil ?_
  refine then_n ?_
  refine swp_seq ?_
  refine swp_seq ?_
  refine swp_region ?_
  refine s_pu (pu_move rfl) ?_
  refine s_pu (pu_move rfl) ?_
  refine s_ef (ef_bldS (qs := [(0, _)]) rfl rfl rfl) ?_
  intro b17
  refine swl_share (b := b17) (μ := μ) (by repeat (first | exact Split.nil | (apply Split.cons; (repeat (first | with_reducible exact Take.here | apply Take.there))))) fun μ1 h1 k1 => ?_
  refine swl_ent (X.up (s := s0) h1 (by repeat (first | exact Split.nil | (apply Split.cons; (repeat (first | with_reducible exact Take.here | apply Take.there)))))) ?_
  have hG : Graph μ1 (.slice (some ⟨b17, 0, none⟩) 1 1) [(.slice A1 xs.length c1, xs)] := ⟨row_of_blk k1 (by rfl) (by decide), fun x hx => by obtain rfl := List.mem_singleton.1 hx; exact hv.le h1⟩
  refine s_ef (ef_fn (basked_spec X s0 μ1 _ _ hG) rfl rfl (by repeat (first | exact Split.nil | (apply Split.cons; (repeat (first | with_reducible exact Take.here | apply Take.there)))))) ?_
  rintro v18 L1 ⟨rfl, rfl⟩
  refine swl_app ?_
  rw [show askedE X.n (nums [(Value.slice A1 xs.length c1, xs)]) = askedE X.g.length [xs] from rfl]
  refine s_pu (pu_assign rfl) ?_
  refine swl_sub _ (.cons (t := 0) rfl (.cons (t := 1) rfl (.cons (t := 6) rfl .nil))) ?_
  refine swl_nil ?_
  refine then_n ?_
  refine swp_seq ?_
  refine swp_region ?_
  refine s_pu (pu_move rfl) ?_
  refine s_pu (pu_neq rfl rfl) ?_
  refine swl_sub _ (.cons (t := 0) rfl (.cons (t := 1) rfl (.cons (t := 6) rfl (.cons (t := 20) rfl .nil)))) ?_
  refine swl_nil ?_
  refine then_n ?_
  refine swp_cond (b := _) rfl (fun h20 => ?_) (fun h20 => ?_)
  · skip   -- 20 T
    have he : askedE X.g.length [xs] ≠ 0 := by simpa using h20
    refine swp_seq ?_
    refine swp_region ?_
    refine s_pu (pu_move rfl) ?_
    refine s_pu (pu_assign rfl) ?_
    refine s_pu (pu_assign rfl) ?_
    refine swl_sub _ (.cons (t := 4) rfl (.cons (t := 5) rfl .nil)) ?_
    refine swl_nil ?_
    refine then_n ?_
    refine swp_ret ?_
    refine then_r ?_
    refine done_retE [own 3 1 (.slice none 0 0) (indA X.g xs).length ((indA X.g xs).flatMap (icsk .i64)), X.A s0 μ1, ro μ1] (.tmp rfl (.tmp rfl .nil)) ⟨_, [], μ1, ⟨List.nodup_nil, fun y hy => by cases hy⟩, h1, rfl, rfl⟩ ?_
    rw [indA, if_neg he]
    exact (Split.ent' (K := [X.A s0 μ1, ro μ1]) (by repeat (first | exact Split.nil | (apply Split.cons; (repeat (first | with_reducible exact Take.here | apply Take.there)))))).trans own_nil_ent
  · skip   -- 20 F
    have he : askedE X.g.length [xs] = 0 := by simpa using h20
    have hx : ∀ p ∈ xs, 0 ≤ p ∧ p < X.g.length := askedE_in he (by simp)
    refine swp_skip ?_
    refine then_n ?_
    refine swp_seq ?_
    refine swp_region ?_
    refine s_pu (pu_move rfl) ?_
    refine s_ef (ef_makeMap (kv := ikv)) ?_
    intro b23
    refine s_pu (pu_bld (qs := [(0, _), (1, _)]) rfl) ?_
    refine s_ef (ef_box rfl rfl) ?_
    intro b25
    refine s_pu (pu_assign rfl) ?_
    refine swl_sub _ (.cons (t := 0) rfl (.cons (t := 1) rfl (.cons (t := 7) rfl .nil))) ?_
    refine swl_nil ?_
    refine then_n ?_
    refine swp_seq ?_
    refine swp_region ?_
    refine s_pu (pu_move rfl) ?_
    refine s_ef (ef_fn (bcommits_spec X s0 μ1) rfl rfl (by repeat (first | exact Split.nil | (apply Split.cons; (repeat (first | with_reducible exact Take.here | apply Take.there)))))) ?_
    rintro v27 L1 ⟨rfl, rfl⟩
    refine swl_app ?_
    refine s_ef (ef_fn (new_m (X.n : Nat)) rfl rfl (by repeat (first | exact Split.nil | (apply Split.cons; (repeat (first | with_reducible exact Take.here | apply Take.there)))))) ?_
    rintro v28 L1 ⟨p0, rfl, rfl⟩
    refine swl_app ?_
    refine s_pu (pu_assign rfl) ?_
    refine swl_sub _ (.cons (t := 1) rfl (.cons (t := 7) rfl (.cons (t := 8) rfl .nil))) ?_
    rw [clampM_id hn]
    refine swl_ent (Split.ent' (K := [X.A s0 μ1, blk b25 89 [X.sv, .map (some b23)], mpe b23 ikv [] 0, ro μ1, mset p0 X.n (fun _ => false)]) (by repeat (first | exact Split.nil | (apply Split.cons; (repeat (first | with_reducible exact Take.here | apply Take.there)))))) ?_
    refine swl_ent (onA_close (rmapOk_nil X.g μ1)) ?_
    refine swl_nil ?_
    refine then_n ?_
    refine swp_seq ?_
    refine swp_seq ?_
    refine swp_region ?_
    refine s_pu (pu_move rfl) ?_
    refine s_pu (pu_len rfl) ?_
    refine s_pu (pu_move rfl) ?_
    refine swl_sub _ (.cons (t := 7) rfl (.cons (t := 8) rfl (.cons (t := 29) rfl (.cons (t := 30) rfl (.cons (t := 31) rfl .nil))))) ?_
    refine swl_nil ?_
    refine then_n ?_
    refine swp_block ?_
    rw [show (fun _ : Nat => false) = seedS (xs.take 0) from funext fun j => by simp [seedS]]
    refine swp_loop (ι := Nat) (fun i env L => env = [(7, .pointer (some ⟨b25, 0, none⟩)), (8, .pointer (some ⟨p0, 0, none⟩)), (29, .slice A1 xs.length c1), (30, .int .i64 (xs.length : Nat)), (31, .int .i64 (i : Nat))] ∧ L = [onA X b25 b23 s0 [] μ1, ro μ1, mset p0 X.n (seedS (xs.take i))] ∧ i ≤ xs.length) (fun i => xs.length - i) 0 ⟨rfl, rfl, Nat.zero_le _⟩ ?_
    rintro i env L ⟨rfl, rfl, hi⟩
    refine swp_seq ?_
    refine swp_region ?_
    refine s_pu (pu_lss rfl rfl) ?_
    refine swl_sub _ (.cons (t := 7) rfl (.cons (t := 8) rfl (.cons (t := 29) rfl (.cons (t := 30) rfl (.cons (t := 31) rfl (.cons (t := 32) rfl .nil)))))) ?_
    refine swl_nil ?_
    refine then_n ?_
    refine swp_seq ?_
    refine swp_cond (b := _) rfl (fun h32 => ?_) (fun h32 => ?_)
    · skip   -- 32 T
      have h32' : i < xs.length := by have := of_decide_eq_true h32; omega
      obtain ⟨c, hc⟩ : ∃ c, xs[i]? = some c := ⟨_, List.getElem?_eq_getElem h32'⟩
      obtain ⟨pb, po, pc, hpv, hpc⟩ := (hv.le h1).at_ hc
      have hcr := hx c (List.mem_of_getElem? hc)
      refine swp_skip ?_
      refine then_n ?_
      refine swp_seq ?_
      refine swp_block ?_
      refine swp_seq ?_
      refine swp_region ?_
      refine s_pu (pu_indexAddr (po + i * 1) (congrArg some hpv) rfl (by omega) (by omega) (by rw [Int.toNat_natCast])) ?_
      refine s_rd (rd_ro rfl hpc) ?_
      refine s_pu (pu_assign rfl) ?_
      refine swl_sub _ (.cons (t := 7) rfl (.cons (t := 8) rfl (.cons (t := 10) rfl (.cons (t := 29) rfl (.cons (t := 30) rfl (.cons (t := 31) rfl .nil)))))) ?_
      refine swl_nil ?_
      refine then_n ?_
      refine swp_region ?_
      refine s_pu (pu_move rfl) ?_
      refine s_pu (pu_move rfl) ?_
      refine s_ef (ef_fn (put_w p0 X.n (seedS (xs.take i)) c) rfl rfl (by repeat (first | exact Split.nil | (apply Split.cons; (repeat (first | with_reducible exact Take.here | apply Take.there)))))) ?_
      rintro v37 L1 ⟨rfl, rfl⟩
      refine swl_app ?_
      rw [seedS_put hcr, show xs.take i ++ [c] = xs.take (i + 1) by rw [List.take_add_one, hc]; rfl]
      refine swl_sub _ (.cons (t := 7) rfl (.cons (t := 8) rfl (.cons (t := 29) rfl (.cons (t := 30) rfl (.cons (t := 31) rfl .nil))))) ?_
      refine swl_nil ?_
      refine block_n ?_
      refine then_n ?_
      refine swp_region ?_
      refine s_pu (pu_add_as ((i + 1 : Nat) : Int) rfl rfl (by omega) (by omega) (by omega)) ?_
      refine s_pu (pu_move rfl) ?_
      refine swl_sub _ (.cons (t := 7) rfl (.cons (t := 8) rfl (.cons (t := 29) rfl (.cons (t := 30) rfl (.cons (t := 31) rfl .nil))))) ?_
      refine swl_ent (Split.ent' (K := [onA X b25 b23 s0 [] μ1, ro μ1, mset p0 X.n (seedS (xs.take (i + 1)))]) (by repeat (first | exact Split.nil | (apply Split.cons; (repeat (first | with_reducible exact Take.here | apply Take.there)))))) ?_
      refine swl_nil ?_
      exact then_n ⟨i + 1, ⟨rfl, rfl, h32'⟩, by omega⟩
    · skip   -- 32 F
      have h32' := of_decide_eq_false h32
      obtain rfl : i = xs.length := by omega
      rw [List.take_length]
      refine swp_exit ?_
      refine then_x ?_
      refine then_x ?_
      refine block_hit rfl ?_
      refine then_n ?_
      refine swp_seq ?_
      refine swp_region ?_
      refine s_pu (pu_move rfl) ?_
      refine s_ef (ef_fn (size_w p0 X.n (seedS xs)) rfl rfl (by repeat (first | exact Split.nil | (apply Split.cons; (repeat (first | with_reducible exact Take.here | apply Take.there)))))) ?_
      rintro v40 L1 ⟨rfl, rfl⟩
      refine swl_app ?_
      refine s_ef (ef_fn (new_m (X.n : Nat)) rfl rfl (by repeat (first | exact Split.nil | (apply Split.cons; (repeat (first | with_reducible exact Take.here | apply Take.there)))))) ?_
      rintro v41 L1 ⟨q, rfl, rfl⟩
      refine swl_app ?_
      refine s_pu (pu_assign rfl) ?_
      refine swl_sub _ (.cons (t := 7) rfl (.cons (t := 8) rfl (.cons (t := 11) rfl .nil))) ?_
      rw [clampM_id hn]
      refine swl_nil ?_
      refine then_n ?_
      refine swp_seq ?_
      refine swp_seq ?_
      refine swp_region ?_
      refine s_pu (pu_move rfl) ?_
      refine s_ef (ef_fn (list_m μ1 p0 X.n (seedS xs) (hT.le h1)) rfl rfl (by repeat (first | exact Split.nil | (apply Split.cons; (repeat (first | with_reducible exact Take.here | apply Take.there)))))) ?_
      rintro v43 L1 rfl
      refine swl_app ?_
      have hEin : ∀ c ∈ elsTo X.n (seedS xs), 0 ≤ c ∧ c < X.g.length := fun c hc => by
        obtain ⟨k, rfl, hk, _⟩ := elsTo_mem.1 hc
        omega
      have hEl := elsTo_len X.n (seedS xs)
      have hEx : belowS X.g (elsTo X.n (seedS xs)) = belowS X.g xs := below_ext fun c => by
        rw [elsTo_mem]
        constructor
        · rintro ⟨k, rfl, hk, hs⟩; exact of_decide_eq_true hs
        · intro hc
          have := hx c hc
          refine ⟨c.toNat, by omega, by omega, ?_⟩
          unfold seedS
          rw [Int.toNat_of_nonneg this.1]; exact decide_eq_true hc
      generalize elsTo X.n (seedS xs) = es at *
      refine swl_share_own (v := v43) (μ := μ1) (by repeat (first | exact Split.nil | (apply Split.cons; (repeat (first | with_reducible exact Take.here | apply Take.there))))) fun μ4 h4 r43 => ?_
      refine swl_ent (Ent.trans (Split.ent' (K := [onA X b25 b23 s0 [] μ1, ro μ4, mset q X.n (fun _ => false), mset p0 X.n (seedS xs)]) (by repeat (first | exact Split.nil | (apply Split.cons; (repeat (first | with_reducible exact Take.here | apply Take.there)))))) (Ent.app (L1 := [_]) (R := [ro μ4, mset q X.n (fun _ => false), mset p0 X.n (seedS xs)]) (onA_mono h4))) ?_
      simp only [List.cons_append, List.nil_append]
      refine s_pu (pu_len_row r43 rfl) ?_
      refine s_pu (pu_move rfl) ?_
      refine swl_sub _ (.cons (t := 7) rfl (.cons (t := 8) rfl (.cons (t := 11) rfl (.cons (t := 43) rfl (.cons (t := 44) rfl (.cons (t := 45) rfl .nil)))))) ?_
      refine swl_nil ?_
      refine then_n ?_
      refine swp_block ?_
      have hB0 : (fun _ : Nat => false) = belowS X.g (es.take 0) := funext fun j => by simp [belowS]
      rw [hB0]
      refine swp_sub _ (.cons (t := 7) rfl (.cons (t := 8) rfl (.cons (t := 11) rfl (.cons (t := 43) rfl (.cons (t := 44) rfl (.cons (t := 45) rfl .nil)))))) ?_
      refine swp_loop (ι := Nat × PH × X.σ × List Nat) (fun k env L => env = [(7, .pointer (some ⟨b25, 0, none⟩)), (8, .pointer (some ⟨p0, 0, none⟩)), (11, .pointer (some ⟨q, 0, none⟩)), (43, v43), (44, .int .i64 (es.length : Nat)), (45, .int .i64 (k.1 : Nat))]
        ∧ Ent L [onA X b25 b23 k.2.2.1 k.2.2.2 k.2.1, ro k.2.1, mset q X.n (belowS X.g (es.take k.1)), mset p0 X.n (seedS xs)] ∧ k.1 ≤ es.length ∧ Le μ4 k.2.1 ∧ onOk X s0 k.2.2.1 k.2.2.2) (fun k => es.length - k.1) (0, μ4, s0, []) ⟨rfl, Split.ent' (by repeat (first | exact Split.nil | (apply Split.cons; (repeat (first | with_reducible exact Take.here | apply Take.there))))), Nat.zero_le _, Le.refl _, onOk_nil X s0⟩ ?_
      rintro ⟨i, μj, sj, yj⟩ env L ⟨rfl, hLj, hij, hlj, hkj⟩
      dsimp only at hLj hij hlj hkj ⊢
      refine swp_ent hLj ?_
      refine swp_seq ?_
      refine swp_region ?_
      refine s_pu (pu_lss rfl rfl) ?_
      refine swl_sub _ (.cons (t := 7) rfl (.cons (t := 8) rfl (.cons (t := 11) rfl (.cons (t := 43) rfl (.cons (t := 44) rfl (.cons (t := 45) rfl (.cons (t := 46) rfl .nil))))))) ?_
      refine swl_nil ?_
      refine then_n ?_
      refine swp_seq ?_
      refine swp_cond (b := _) rfl (fun h46 => ?_) (fun h46 => ?_)
      · skip   -- 46 T
        have h46' : i < es.length := by have := of_decide_eq_true h46; omega
        obtain ⟨c, hc⟩ : ∃ c, es[i]? = some c := ⟨_, List.getElem?_eq_getElem h46'⟩
        obtain ⟨pb, po, pc, hpv, hpc⟩ := (r43.le hlj).at_ hc
        have hcr := hEin c (List.mem_of_getElem? hc)
        obtain ⟨c, rfl⟩ : ∃ k : Nat, c = k := ⟨c.toNat, by omega⟩
        have l1j := h1.trans (h4.trans hlj)
        have hS2 : (fun k => decide (k < X.n) && (belowS X.g (es.take i) k || (up X.g c k && !(decide (0 ≤ (c : Int)) && decide (k = (c : Int).toNat))))) = belowS X.g (es.take (i + 1)) := funext fun j => by
          have e : belowS X.g (es.take (i + 1)) j = (belowS X.g (es.take i) j || (up X.g c j && !decide (j = c))) := by
            rw [List.take_add_one, hc]
            unfold belowS; rw [List.any_append]; simp
          rw [e, Int.toNat_natCast, decide_eq_true hcr.1, Bool.true_and]
          by_cases hj : j < X.n
          · rw [decide_eq_true hj, Bool.true_and]
          · rw [decide_eq_false hj, Bool.false_and]
            have hb : belowS X.g (es.take i) j = false := by
              unfold belowS
              rw [List.any_eq_false]
              intro d hd
              have hdr := hEin d (List.mem_of_mem_take hd)
              cases hu : up X.g d.toNat j with
              | false => simp
              | true => have := up_le X.hg hu; omega
            have hu : up X.g c j = false := by
              cases hu : up X.g c j with
              | false => rfl
              | true => have := up_le X.hg hu; omega
            rw [hb, hu]; rfl
        refine swp_skip ?_
        refine then_n ?_
        refine swp_seq ?_
        refine swp_block ?_
        refine swp_seq ?_
        refine swp_region ?_
        refine s_pu (pu_indexAddr (po + i * 1) (congrArg some hpv) rfl (by omega) (by omega) (by rw [Int.toNat_natCast])) ?_
        refine s_rd (rd_ro rfl hpc) ?_
        refine s_pu (pu_assign rfl) ?_
        refine swl_sub _ (.cons (t := 7) rfl (.cons (t := 8) rfl (.cons (t := 11) rfl (.cons (t := 13) rfl (.cons (t := 43) rfl (.cons (t := 44) rfl (.cons (t := 45) rfl .nil))))))) ?_
        refine swl_nil ?_
        refine then_n ?_
        refine swp_seq ?_
        refine swp_region ?_
        refine s_pu (pu_move rfl) ?_
        refine s_pu (pu_iface rfl) ?_
        refine s_pu (pu_move rfl) ?_
        refine s_ef (ef_fn (oreach_spec X s0 sj yj μj b25 b23 c hd (by omega) (h0.trans l1j) hf hkj) rfl rfl (by repeat (first | exact Split.nil | (apply Split.cons; (repeat (first | with_reducible exact Take.here | apply Take.there)))))) ?_
        rintro v52 L1 ⟨p1, μ3, s3, ys3, h3, hk3, rfl, rfl⟩
        refine swl_app ?_
        refine s_pu (pu_assign rfl) ?_
        refine swl_sub _ (.cons (t := 7) rfl (.cons (t := 8) rfl (.cons (t := 11) rfl (.cons (t := 13) rfl (.cons (t := 14) rfl (.cons (t := 43) rfl (.cons (t := 44) rfl (.cons (t := 45) rfl .nil)))))))) ?_
        refine swl_nil ?_
        refine then_n ?_
        refine swp_seq ?_
        refine swp_region ?_
        refine s_pu (pu_move rfl) ?_
        refine s_pu (pu_move rfl) ?_
        refine s_ef (ef_fn (drop_m p1 X.n (up X.g c) (c : Nat)) rfl rfl (by repeat (first | exact Split.nil | (apply Split.cons; (repeat (first | with_reducible exact Take.here | apply Take.there)))))) ?_
        rintro v55 L1 ⟨rfl, rfl⟩
        refine swl_app ?_
        refine swl_sub _ (.cons (t := 7) rfl (.cons (t := 8) rfl (.cons (t := 11) rfl (.cons (t := 14) rfl (.cons (t := 43) rfl (.cons (t := 44) rfl (.cons (t := 45) rfl .nil))))))) ?_
        refine swl_nil ?_
        refine then_n ?_
        refine swp_region ?_
        refine s_pu (pu_move rfl) ?_
        refine s_pu (pu_move rfl) ?_
        refine s_ef (ef_fn (or_m q X.n p1 X.n (belowS X.g (es.take i)) (fun j => up X.g c j && !(decide (0 ≤ (c : Int)) && decide (j = (c : Int).toNat)))) rfl rfl (by repeat (first | exact Split.nil | (apply Split.cons; (repeat (first | with_reducible exact Take.here | apply Take.there)))))) ?_
        rintro v58 L1 ⟨rfl, rfl⟩
        refine swl_app ?_
        rw [hS2]
        refine swl_sub _ (.cons (t := 7) rfl (.cons (t := 8) rfl (.cons (t := 11) rfl (.cons (t := 43) rfl (.cons (t := 44) rfl (.cons (t := 45) rfl .nil)))))) ?_
        refine swl_nil ?_
        refine block_n ?_
        refine then_n ?_
        refine swp_region ?_
        refine s_pu (pu_add_as ((i + 1 : Nat) : Int) rfl rfl (by omega) (by omega) (by omega)) ?_
        refine s_pu (pu_move rfl) ?_
        refine swl_sub _ (.cons (t := 7) rfl (.cons (t := 8) rfl (.cons (t := 11) rfl (.cons (t := 43) rfl (.cons (t := 44) rfl (.cons (t := 45) rfl .nil)))))) ?_
        refine swl_nil ?_
        refine then_n ⟨(i + 1, μ3, s3, ys3), ⟨rfl, ?_, h46', hlj.trans h3, hk3⟩, by show es.length - (i + 1) < es.length - i; omega⟩
        exact Split.ent' (by repeat (first | exact Split.nil | (apply Split.cons; (repeat (first | with_reducible exact Take.here | apply Take.there)))))
      · skip   -- 46 F
        have h46' := of_decide_eq_false h46
        obtain rfl : i = es.length := by omega
        rw [List.take_length, hEx]
        have hS3 : (fun k => decide (k < X.n) && (seedS xs k && !belowS X.g xs k)) = indS X.g xs := funext fun j => by
          unfold indS
          by_cases hj : j < X.n
          · rw [decide_eq_true hj, Bool.true_and]
          · rw [decide_eq_false hj, Bool.false_and]
            have : seedS xs j = false := by
              unfold seedS
              exact decide_eq_false fun hm => by have := hx _ hm; omega
            rw [this]; rfl
        refine swp_exit ?_
        refine then_x ?_
        refine then_x ?_
        refine block_hit rfl ?_
        refine then_n ?_
        refine swp_seq ?_
        refine swp_region ?_
        refine s_pu (pu_move rfl) ?_
        refine s_pu (pu_move rfl) ?_
        refine s_ef (ef_fn (less_m p0 X.n q X.n (seedS xs) (belowS X.g xs)) rfl rfl (by repeat (first | exact Split.nil | (apply Split.cons; (repeat (first | with_reducible exact Take.here | apply Take.there)))))) ?_
        rintro v62 L1 ⟨rfl, rfl⟩
        refine swl_app ?_
        rw [hS3]
        refine swl_sub _ (.cons (t := 8) rfl .nil) ?_
        refine swl_nil ?_
        refine then_n ?_
        refine swp_seq ?_
        refine swp_region ?_
        refine s_pu (pu_move rfl) ?_
        refine s_ef (ef_fn (list_m μj p0 X.n (indS X.g xs) (hT.le (h1.trans (h4.trans hlj)))) rfl rfl (by repeat (first | exact Split.nil | (apply Split.cons; (repeat (first | with_reducible exact Take.here | apply Take.there)))))) ?_
        rintro v64 L1 rfl
        refine swl_app ?_
        rw [show elsTo X.n (indS X.g xs) = indA X.g xs from (if_pos he).symm]
        refine s_pu (pu_assign rfl) ?_
        refine s_pu (pu_assign rfl) ?_
        refine swl_sub _ (.cons (t := 4) rfl (.cons (t := 5) rfl .nil)) ?_
        refine swl_nil ?_
        refine then_n ?_
        refine swp_ret ?_
        refine done_retE [own 3 1 v64 (indA X.g xs).length ((indA X.g xs).flatMap (icsk .i64)), X.A (yj.foldl X.step s0) μj, ro μj] (.tmp rfl (.tmp rfl .nil)) ⟨_, yj, μj, hkj.1, h1.trans (h4.trans hlj), by rw [he]; rfl, rfl⟩ ?_
        rw [← hkj.2]
        refine (Split.ent' (K := [onA X b25 b23 sj yj μj, own 3 1 v64 (indA X.g xs).length ((indA X.g xs).flatMap (icsk .i64)), ro μj]) (by repeat (first | exact Split.nil | (apply Split.cons; (repeat (first | with_reducible exact Take.here | apply Take.there)))))).trans ?_
        exact onA_src.trans Ent.swap
end SX
namespace SX
open Go Go.Proofs

end SX
namespace SX
open Go Go.Proofs

section
variable {μ : PH} {vg vn : Value} {G : List (Value × List Int)} {gs : List Int} {k : Nat}
theorem g_merge (h : GS μ vg vn G gs k) (p : Nat) (a0 : Nat → Nat) (h0 : ∀ c, a0 c ≤ 4611686018427387904) (a b : Int) (hT : RowAt μ 0 0 tabV) :
    Spec Tryd.prog 31 [gV p, .int .i64 a, .int .i64 b] [gA p vg vn G.length a0, ro μ] (fun r L => ∃ lv zs μ', askedIn (nums G).length zs ∧ Le μ μ' ∧ r = .tuple #[lv, .int .i64 (onlyE (nums G) [a] [b])] ∧ L = [own 3 1 lv (sidesA (nums G) [a] [b]).length ((sidesA (nums G) [a] [b]).flatMap (icsk .i64)), gA p vg vn G.length (zs.foldl ask1 a0), ro μ']) :=
  merge_spec (h.src p) a0 μ a b hT (Le.refl _) (gSrc_fine h0)
theorem g_many (h : GS μ vg vn G gs k) (p : Nat) (a0 : Nat → Nat) (h0 : ∀ c, a0 c ≤ 4611686018427387904) (v : Value) (xs : List Int) (hT : RowAt μ 0 0 tabV) (hv : Row μ v 1 xs.length (xs.flatMap (icsk .i64))) :
    Spec Tryd.prog 35 [gV p, v] [gA p vg vn G.length a0, ro μ] (fun r L => ∃ lv zs μ', askedIn (nums G).length zs ∧ Le μ μ' ∧ r = .tuple #[lv, .int .i64 (manyE (nums G) xs)] ∧ L = [own 3 1 lv (manyA (nums G) xs).length ((manyA (nums G) xs).flatMap (icsk .i64)), gA p vg vn G.length (zs.foldl ask1 a0), ro μ']) :=
  many_spec (h.src p) a0 μ v xs (Nat.zero_le _) hT hv (Le.refl _) (gSrc_fine h0)
theorem g_indep (h : GS μ vg vn G gs k) (p : Nat) (a0 : Nat → Nat) (h0 : ∀ c, a0 c ≤ 4611686018427387904) (v : Value) (xs : List Int) (hT : RowAt μ 0 0 tabV) (hv : Row μ v 1 xs.length (xs.flatMap (icsk .i64))) :
    Spec Tryd.prog 39 [gV p, v] [gA p vg vn G.length a0, ro μ] (fun r L => ∃ lv zs μ', askedIn (nums G).length zs ∧ Le μ μ' ∧ r = .tuple #[lv, .int .i64 (askedE (nums G).length [xs])] ∧ L = [own 3 1 lv (indA (nums G) xs).length ((indA (nums G) xs).flatMap (icsk .i64)), gA p vg vn G.length (zs.foldl ask1 a0), ro μ']) :=
  indep_spec (h.src p) a0 μ v xs (Nat.zero_le _) hT hv (Le.refl _) (gSrc_fine h0)
end
abbrev g0X : List (List Int) := [[], [0], [0], [1, 2], [2, 1]]
theorem crossed_spec (μ : PH) : Spec Tryd.prog 60 [] [ro μ] (fun r L => ∃ p μ' v' vn gs G0, Le μ μ' ∧ r = .pointer (some ⟨p, 0, none⟩) ∧ GS μ' v' vn G0 gs 9 ∧ nums G0 = g0X ∧ L = [gA p v' vn G0.length noAsk, ro μ']) := by
  refine Spec.of 7 Tryd.func60 rfl rfl rfl ?_
  refine swp_seq ?_
  refine swp_region ?_
  refine s_pu (pu_assign rfl) ?_
  refine swl_sub _ .nil ?_
  refine swl_nil ?_
  refine then_n ?_
  refine swp_seq ?_
  refine swp_region ?_
  refine s_ef (ef_bldS (qs := [(0, _)]) rfl rfl rfl) ?_
  intro b1
  refine s_ef (ef_bldS (qs := [(0, _)]) rfl rfl rfl) ?_
  intro b2
  refine s_ef (ef_bldS (qs := [(0, _), (1, _)]) rfl rfl rfl) ?_
  intro b3
  refine s_ef (ef_bldS (qs := [(0, _), (1, _)]) rfl rfl rfl) ?_
  intro b4
  refine s_ef (ef_bldS (qs := [(0, _), (1, _), (2, _), (3, _), (4, _)]) rfl rfl rfl) ?_
  intro b5
  refine swl_share (b := b1) (μ := μ) (by repeat (first | exact Split.nil | (apply Split.cons; (repeat (first | with_reducible exact Take.here | apply Take.there))))) fun μ1 h1 k1 => ?_
  refine swl_share (b := b2) (μ := μ1) (by repeat (first | exact Split.nil | (apply Split.cons; (repeat (first | with_reducible exact Take.here | apply Take.there))))) fun μ2 h2 k2 => ?_
  refine swl_share (b := b3) (μ := μ2) (by repeat (first | exact Split.nil | (apply Split.cons; (repeat (first | with_reducible exact Take.here | apply Take.there))))) fun μ3 h3 k3 => ?_
  refine swl_share (b := b4) (μ := μ3) (by repeat (first | exact Split.nil | (apply Split.cons; (repeat (first | with_reducible exact Take.here | apply Take.there))))) fun μ4 h4 k4 => ?_
  refine swl_share (b := b5) (μ := μ4) (by repeat (first | exact Split.nil | (apply Split.cons; (repeat (first | with_reducible exact Take.here | apply Take.there))))) fun μ5 h5 k5 => ?_
  have r1 := (row_of_blk (n := 1) (l := 1) (cs := [0].flatMap (icsk .i64)) k1 (by rfl) (by decide)).le (h2.trans (h3.trans (h4.trans h5)))
  have r2 := (row_of_blk (n := 1) (l := 1) (cs := [0].flatMap (icsk .i64)) k2 (by rfl) (by decide)).le (h3.trans (h4.trans h5))
  have r3 := (row_of_blk (n := 1) (l := 2) (cs := [1, 2].flatMap (icsk .i64)) k3 (by rfl) (by decide)).le (h4.trans h5)
  have r4 := (row_of_blk (n := 1) (l := 2) (cs := [2, 1].flatMap (icsk .i64)) k4 (by rfl) (by decide)).le h5
  have hG : Graph μ5 (.slice (some ⟨b5, 0, none⟩) 5 5) [(.slice none 0 0, []), (.slice (some ⟨b1, 0, none⟩) 1 1, [0]), (.slice (some ⟨b2, 0, none⟩) 1 1, [0]), (.slice (some ⟨b3, 0, none⟩) 2 2, [1, 2]), (.slice (some ⟨b4, 0, none⟩) 2 2, [2, 1])] := by
    refine ⟨row_of_blk k5 (by rfl) (by decide), fun x hx => ?_⟩
    rcases List.mem_cons.1 hx with rfl | hx
    · exact Row.nil _ _
    rcases List.mem_cons.1 hx with rfl | hx
    · exact r1
    rcases List.mem_cons.1 hx with rfl | hx
    · exact r2
    rcases List.mem_cons.1 hx with rfl | hx
    · exact r3
    obtain rfl := List.mem_singleton.1 hx
    exact r4
  have hrs : ∀ x ∈ [((.slice none 0 0 : Value), ([] : List Int)), (.slice (some ⟨b1, 0, none⟩) 1 1, [0]), (.slice (some ⟨b2, 0, none⟩) 1 1, [0]), (.slice (some ⟨b3, 0, none⟩) 2 2, [1, 2]), (.slice (some ⟨b4, 0, none⟩) 2 2, [2, 1])], x.2.length ≤ 17592186043904 := fun x hx => by simp at hx; rcases hx with rfl | rfl | rfl | rfl | rfl <;> simp
  have hle := h1.trans (h2.trans (h3.trans (h4.trans h5)))
  obtain ⟨G0, hG0, hnum, hr0, hlen⟩ : ∃ G0, Graph μ5 (.slice (some ⟨b5, 0, none⟩) 5 5) G0 ∧ nums G0 = [[], [0], [0], [1, 2], [2, 1]] ∧ (∀ x ∈ G0, x.2.length ≤ 17592186043904) ∧ G0.length = 5 := ⟨_, hG, rfl, hrs, rfl⟩
  clear hG hrs
  refine s_ef (ef_fn (good_spec μ5 _ G0 9 9 hG0 (by omega) (by decide) hr0) rfl rfl (by repeat (first | exact Split.nil | (apply Split.cons; (repeat (first | with_reducible exact Take.here | apply Take.there)))))) ?_
  rintro v6 L1 ⟨μ6, h6, hgd⟩
  rw [show min G0.length 9 = G0.length by omega, List.take_length] at hgd
  obtain ⟨p, v', vn, gs, rfl, hG', ha, hv, rfl⟩ : ∃ p v' vn gs, v6 = .pointer (some ⟨p, 0, none⟩) ∧ Graph μ6 v' G0 ∧ moreG [] (nums G0) = some gs ∧ Row μ6 vn 1 (cutG 9 gs).length ((cutG 9 gs).flatMap (icsk .i64)) ∧ L1 = [gA p v' vn G0.length noAsk, ro μ6] := by
    rcases hgd with ⟨h, _⟩ | h
    · rw [hnum] at h; exact absurd walks_all.1 h
    · exact h
  refine swl_app ?_
  refine s_pu (pu_assign rfl) ?_
  refine swl_sub _ (.cons (t := 0) rfl .nil) ?_
  refine swl_nil ?_
  refine then_n ?_
  refine swp_ret ?_
  exact done_ret [gA p v' vn G0.length noAsk, ro μ6] (.tmp rfl .nil) ⟨p, μ6, v', vn, gs, G0, hle.trans h6, rfl, ⟨hG', ha, hv, by omega, hr0⟩, hnum, rfl⟩ (by repeat (first | exact Split.nil | (apply Split.cons; (repeat (first | with_reducible exact Take.here | apply Take.there)))))
theorem meets_all : onlyE g0X [3] [4] = 0 ∧ sidesA g0X [3] [4] = [1, 2] ∧ manyE g0X [3, 4, 1] = 0 ∧ manyA g0X [3, 4, 1] = [1] ∧ askedE g0X.length [[0, 3, 1, 4, 3]] = 0 ∧ indA g0X [0, 3, 1, 4, 3] = [3, 4] := by decide +kernel
set_option maxHeartbeats 2000000 in
theorem meets_spec (μ : PH) (hT : RowAt μ 0 0 tabV) : Spec Tryd.prog 30 [] [ro μ] (fun r L => r = .bool true ∧ ∃ μ', Le μ μ' ∧ L = [ro μ']) := by
  obtain ⟨w1, w2, w3, w4, w5, w6⟩ := meets_all
  refine Spec.of 52 Tryd.func30 rfl rfl rfl ?_
  refine swp_seq ?_
  refine swp_region ?_
  refine s_pu (pu_assign rfl) ?_
  refine swl_sub _ .nil ?_
  refine swl_nil ?_
  refine then_n ?_
  refine swp_seq ?_
  refine swp_region ?_
  refine s_ef (ef_fn (crossed_spec μ) rfl rfl (by repeat (first | exact Split.nil | (apply Split.cons; (repeat (first | with_reducible exact Take.here | apply Take.there)))))) ?_
  rintro v8 L1 ⟨p1, μ1, vg1, vn1, gs1, G1, h1, rfl, hS1, hn1, rfl⟩
  refine swl_app ?_
  refine s_pu (pu_iface rfl) ?_
  refine s_ef (ef_fn (g_merge hS1 p1 noAsk (fun _ => Nat.zero_le _) 3 4 (hT.le h1)) rfl rfl (by repeat (first | exact Split.nil | (apply Split.cons; (repeat (first | with_reducible exact Take.here | apply Take.there)))))) ?_
  rintro v10 L1 ⟨lv1, zs1, μ2, hz1, h2, rfl, rfl⟩
  refine swl_app ?_
  rw [hn1, w1, w2]
  refine swl_ent (Split.ent' (K := [own 3 1 lv1 ([1, 2] : List Int).length (([1, 2] : List Int).flatMap (icsk .i64)), ro μ2]) (by repeat (first | exact Split.nil | (apply Split.cons; (repeat (first | with_reducible exact Take.here | apply Take.there)))))) ?_
  refine swl_share_own (v := lv1) (μ := μ2) (by repeat (first | exact Split.nil | (apply Split.cons; (repeat (first | with_reducible exact Take.here | apply Take.there))))) fun μ3 h3 r1 => ?_
  have l3 := h1.trans (h2.trans h3)
  refine s_pu (pu_move rfl) ?_
  first | refine s_pu (pu_extractL rfl) ?_ | refine s_pu (pu_extract rfl rfl) ?_
  first | refine s_pu (pu_extractL rfl) ?_ | refine s_pu (pu_extract rfl rfl) ?_
  refine s_pu (pu_assign rfl) ?_
  refine s_pu (pu_assign rfl) ?_
  refine swl_sub _ (.cons (t := 1) rfl (.cons (t := 2) rfl .nil)) ?_
  refine swl_nil ?_
  refine then_n ?_
  refine swp_seq ?_
  refine swp_region ?_
  refine s_ef (ef_fn (crossed_spec μ3) rfl rfl (by repeat (first | exact Split.nil | (apply Split.cons; (repeat (first | with_reducible exact Take.here | apply Take.there)))))) ?_
  rintro v14 L1 ⟨p2, μ4, vg2, vn2, gs2, G2, h4, rfl, hS2, hn2, rfl⟩
  refine swl_app ?_
  refine s_pu (pu_iface rfl) ?_
  refine s_ef (ef_bldS (qs := [(0, _), (1, _), (2, _)]) rfl rfl rfl) ?_
  intro b16
  refine swl_share (b := b16) (μ := μ4) (by repeat (first | exact Split.nil | (apply Split.cons; (repeat (first | with_reducible exact Take.here | apply Take.there))))) fun μ5 h5 k5 => ?_
  have r5 := row_of_blk (n := 1) (l := 3) (cs := ([3, 4, 1] : List Int).flatMap (icsk .i64)) k5 (by rfl) (by decide)
  have l5 := l3.trans (h4.trans h5)
  refine s_ef (ef_fn (g_many (hS2.le h5) p2 noAsk (fun _ => Nat.zero_le _) _ [3, 4, 1] (hT.le l5) r5) rfl rfl (by repeat (first | exact Split.nil | (apply Split.cons; (repeat (first | with_reducible exact Take.here | apply Take.there)))))) ?_
  rintro v17 L1 ⟨lv2, zs2, μ6, hz2, h6, rfl, rfl⟩
  refine swl_app ?_
  rw [hn2, w3, w4]
  refine swl_ent (Split.ent' (K := [own 3 1 lv2 ([1] : List Int).length (([1] : List Int).flatMap (icsk .i64)), ro μ6]) (by repeat (first | exact Split.nil | (apply Split.cons; (repeat (first | with_reducible exact Take.here | apply Take.there)))))) ?_
  refine swl_share_own (v := lv2) (μ := μ6) (by repeat (first | exact Split.nil | (apply Split.cons; (repeat (first | with_reducible exact Take.here | apply Take.there))))) fun μ7 h7 r2 => ?_
  have l7 := l5.trans (h6.trans h7)
  refine s_pu (pu_move rfl) ?_
  first | refine s_pu (pu_extractL rfl) ?_ | refine s_pu (pu_extract rfl rfl) ?_
  first | refine s_pu (pu_extractL rfl) ?_ | refine s_pu (pu_extract rfl rfl) ?_
  refine s_pu (pu_assign rfl) ?_
  refine s_pu (pu_assign rfl) ?_
  refine swl_sub _ (.cons (t := 1) rfl (.cons (t := 2) rfl (.cons (t := 3) rfl (.cons (t := 4) rfl .nil)))) ?_
  refine swl_nil ?_
  refine then_n ?_
  refine swp_seq ?_
  refine swp_region ?_
  refine s_ef (ef_fn (crossed_spec μ7) rfl rfl (by repeat (first | exact Split.nil | (apply Split.cons; (repeat (first | with_reducible exact Take.here | apply Take.there)))))) ?_
  rintro v21 L1 ⟨p3, μ8, vg3, vn3, gs3, G3, h8, rfl, hS3, hn3, rfl⟩
  refine swl_app ?_
  refine s_pu (pu_iface rfl) ?_
  refine s_ef (ef_bldS (qs := [(0, _), (1, _), (2, _), (3, _), (4, _)]) rfl rfl rfl) ?_
  intro b23
  refine swl_share (b := b23) (μ := μ8) (by repeat (first | exact Split.nil | (apply Split.cons; (repeat (first | with_reducible exact Take.here | apply Take.there))))) fun μ9 h9 k9 => ?_
  have r9 := row_of_blk (n := 1) (l := 5) (cs := ([0, 3, 1, 4, 3] : List Int).flatMap (icsk .i64)) k9 (by rfl) (by decide)
  have l9 := l7.trans (h8.trans h9)
  refine s_ef (ef_fn (g_indep (hS3.le h9) p3 noAsk (fun _ => Nat.zero_le _) _ [0, 3, 1, 4, 3] (hT.le l9) r9) rfl rfl (by repeat (first | exact Split.nil | (apply Split.cons; (repeat (first | with_reducible exact Take.here | apply Take.there)))))) ?_
  rintro v24 L1 ⟨lv3, zs3, μ10, hz3, h10, rfl, rfl⟩
  refine swl_app ?_
  rw [hn3, w5, w6]
  refine swl_ent (Split.ent' (K := [own 3 1 lv3 ([3, 4] : List Int).length (([3, 4] : List Int).flatMap (icsk .i64)), ro μ10]) (by repeat (first | exact Split.nil | (apply Split.cons; (repeat (first | with_reducible exact Take.here | apply Take.there)))))) ?_
  refine swl_share_own (v := lv3) (μ := μ10) (by repeat (first | exact Split.nil | (apply Split.cons; (repeat (first | with_reducible exact Take.here | apply Take.there))))) fun μ11 h11 r3 => ?_
  have q1 := r1.le (h4.trans (h5.trans (h6.trans (h7.trans (h8.trans (h9.trans (h10.trans h11)))))))
  have q2 := r2.le (h8.trans (h9.trans (h10.trans h11)))
  refine s_pu (pu_move rfl) ?_
  first | refine s_pu (pu_extractL rfl) ?_ | refine s_pu (pu_extract rfl rfl) ?_
  first | refine s_pu (pu_extractL rfl) ?_ | refine s_pu (pu_extract rfl rfl) ?_
  refine s_pu (pu_assign rfl) ?_
  refine s_pu (pu_assign rfl) ?_
  refine swl_sub _ (.cons (t := 1) rfl (.cons (t := 2) rfl (.cons (t := 3) rfl (.cons (t := 4) rfl (.cons (t := 5) rfl (.cons (t := 6) rfl .nil)))))) ?_
  refine swl_nil ?_
  refine then_n ?_
  refine swp_seq ?_
  refine swp_region ?_
  refine s_pu (pu_move rfl) ?_
  refine s_pu (pu_eql rfl rfl) ?_
  refine s_pu (pu_move rfl) ?_
  refine s_on rfl rfl ?_
  refine s_pu (pu_move rfl) ?_
  refine s_on rfl rfl ?_
  refine s_pu (pu_eql rfl rfl) ?_
  first | refine s_pu (pu_pick_t rfl rfl) ?_ | refine s_pu (pu_pick_f rfl rfl) ?_
  refine s_pu (pu_move rfl) ?_
  refine s_on rfl rfl ?_
  refine s_pu (pu_move rfl) ?_
  refine s_on rfl rfl ?_
  refine s_pu (pu_eql rfl rfl) ?_
  first | refine s_pu (pu_pick_t rfl rfl) ?_ | refine s_pu (pu_pick_f rfl rfl) ?_
  refine s_pu (pu_move rfl) ?_
  refine s_on rfl rfl ?_
  refine s_pu (pu_move rfl) ?_
  refine s_on rfl rfl ?_
  refine s_ef (ef_bldS (qs := [(0, _), (1, _)]) rfl rfl rfl) ?_
  intro b39
  refine s_on rfl rfl ?_
  refine s_ef (ef_fn (samelist_i lv1 _ ([1, 2] : List Int) ([1, 2] : List Int) _ (Ints.row q1) (ints_blk (cs := [1, 2]) rfl (by show 2 ≤ _; decide))) rfl rfl Split.all) ?_
  rintro v40 L1 ⟨rfl, rfl⟩
  refine swl_app ?_
  first | refine s_pu (pu_pick_t rfl rfl) ?_ | refine s_pu (pu_pick_f rfl rfl) ?_
  refine s_pu (pu_move rfl) ?_
  refine s_on rfl rfl ?_
  refine s_pu (pu_move rfl) ?_
  refine s_on rfl rfl ?_
  refine s_ef (ef_bldS (qs := [(0, _)]) rfl rfl rfl) ?_
  intro b44
  refine s_on rfl rfl ?_
  refine s_ef (ef_fn (samelist_i lv2 _ ([1] : List Int) ([1] : List Int) _ (Ints.row q2) (ints_blk (cs := [1]) rfl (by show 1 ≤ _; decide))) rfl rfl Split.all) ?_
  rintro v45 L1 ⟨rfl, rfl⟩
  refine swl_app ?_
  first | refine s_pu (pu_pick_t rfl rfl) ?_ | refine s_pu (pu_pick_f rfl rfl) ?_
  refine s_pu (pu_move rfl) ?_
  refine s_on rfl rfl ?_
  refine s_pu (pu_move rfl) ?_
  refine s_on rfl rfl ?_
  refine s_ef (ef_bldS (qs := [(0, _), (1, _)]) rfl rfl rfl) ?_
  intro b49
  refine s_on rfl rfl ?_
  refine s_ef (ef_fn (samelist_i lv3 _ ([3, 4] : List Int) ([3, 4] : List Int) _ (Ints.row r3) (ints_blk (cs := [3, 4]) rfl (by show 2 ≤ _; decide))) rfl rfl Split.all) ?_
  rintro v50 L1 ⟨rfl, rfl⟩
  refine swl_app ?_
  first | refine s_pu (pu_pick_t rfl rfl) ?_ | refine s_pu (pu_pick_f rfl rfl) ?_
  refine s_pu (pu_assign rfl) ?_
  refine swl_sub _ (.cons (t := 0) rfl .nil) ?_
  refine swl_nil ?_
  refine then_n ?_
  refine swp_ret ?_
  exact done_ret [ro μ11] (.tmp rfl .nil) ⟨rfl, μ11, l9.trans (h10.trans h11), rfl⟩ (by repeat (first | exact Split.nil | (apply Split.cons; (repeat (first | with_reducible exact Take.here | apply Take.there)))))
end SX
namespace SX
open Go Go.Proofs

theorem manyA_len (g : List (List Int)) (xs : List Int) : (manyA g xs).length ≤ g.length := by
  unfold manyA
  split
  · exact elsTo_len _ _
  · exact Nat.zero_le _
theorem indA_len (g : List (List Int)) (xs : List Int) : (indA g xs).length ≤ g.length := by
  unfold indA
  split
  · exact elsTo_len _ _
  · exact Nat.zero_le _
end SX
namespace SX
open Go Go.Proofs

end SX
namespace SX
open Go Go.Proofs

theorem wpK_add (b a i j : Nat) : wpK b a i + j = wpK b a (i + j) := by unfold wpK; rw [Nat.add_assoc]
theorem wpK_top2 {x a i : Nat} (h : x ≤ wpK 0 a i) (ha : a ≤ 1000) (hi : i ≤ 17592186043910) : x ≤ 20000000000000000 := by
  unfold wpK at *
  have h1 := cA_eq
  have h3 : a * cA ≤ 1000 * cA := Nat.mul_le_mul_right _ ha
  rw [Nat.zero_mul] at h
  generalize a * cA = y at *
  omega
end SX
namespace SX
open Go Go.Proofs

/-! histories that cross, plainly -/
/-- the bases of a commit and one that it reaches -/
theorem sides_self {g : List (List Int)} (hg : Good g) {c a : Nat} (hc : c < g.length) (ha : a < g.length) (h : up g c a = true) : sidesA g [(c : Int)] [(a : Int)] = [(a : Int)] := by
  have he : onlyE g [(c : Int)] [(a : Int)] = 0 := by
    rw [onlyE_unk]
    unfold unkB inR
    simp [hc, ha]
  rw [sidesA, if_pos he]
  have hF : Falls [a] := by unfold Falls; simp
  have := falls_els hF (n := g.length) (fun j hj => by rw [List.mem_singleton.1 hj]; exact ha)
  refine Eq.trans ?_ (this.trans rfl)
  unfold sidesB
  refine elsTo_ext fun j hj => ?_
  rw [Bool.eq_iff_iff, best_iff, decide_eq_true_eq, List.mem_singleton]
  have hb : ∀ j, bothS g [(c : Int)] [(a : Int)] j = true ↔ up g a j = true := fun j => by
    unfold bothS
    rw [anyUp_one hg hc, anyUp_one hg ha, Bool.and_eq_true]
    exact ⟨fun h => h.2, fun h1 => ⟨up_trans hg h h1, h1⟩⟩
  constructor
  · rintro ⟨h1, h2⟩
    rcases ((up_iff hg a j).1 ((hb j).1 h1)).last with e | ⟨z, hz1, hz2⟩
    · exact e.symm
    · exact absurd hz2 (h2 z (by have := hz1.le hg; omega) ((hb z).2 ((up_iff hg a z).2 hz1)))
  · rintro rfl
    refine ⟨(hb j).2 (up_refl hg j), fun y hy h1 h2 => ?_⟩
    have := up_le hg ((hb y).1 h1)
    have := (row_good hg h2).2.1
    omega
theorem onlyE_in {g : List (List Int)} {c a : Nat} (hc : c < g.length) (ha : a < g.length) : onlyE g [(c : Int)] [(a : Int)] = 0 := by
  rw [onlyE_unk]
  unfold unkB inR
  simp [hc, ha]
end SX
namespace SX
open Go Go.Proofs

/-! plain -/
theorem manyS_ext {g : List (List Int)} {xs ys : List Int} (h : ∀ c, c ∈ xs ↔ c ∈ ys) : manyS g xs = manyS g ys := funext fun j => by
  unfold manyS
  rw [Bool.eq_iff_iff, List.all_eq_true, List.all_eq_true]
  exact ⟨fun h1 c hc => h1 c ((h c).2 hc), fun h1 c hc => h1 c ((h c).1 hc)⟩
theorem unkB_ext {n : Nat} {xs ys : List Int} (h : ∀ c, c ∈ xs ↔ c ∈ ys) : unkB n xs = unkB n ys := by
  unfold unkB
  congr 1
  rw [Bool.eq_iff_iff, List.all_eq_true, List.all_eq_true]
  exact ⟨fun h1 c hc => h1 c ((h c).2 hc), fun h1 c hc => h1 c ((h c).1 hc)⟩
theorem manyA_ext {g : List (List Int)} {xs ys : List Int} (h : ∀ c, c ∈ xs ↔ c ∈ ys) (h1 : xs ≠ []) (h2 : ys ≠ []) : manyA g xs = manyA g ys ∧ manyE g xs = manyE g ys := by
  have e : manyE g xs = manyE g ys := by
    unfold manyE
    rw [if_neg (fun e => h1 (List.eq_nil_of_length_eq_zero e)), if_neg (fun e => h2 (List.eq_nil_of_length_eq_zero e)), askedE_one, askedE_one, unkB_ext h]
  refine ⟨?_, e⟩
  unfold manyA
  rw [e, manyS_ext h]
theorem indA_ext {g : List (List Int)} {xs ys : List Int} (h : ∀ c, c ∈ xs ↔ c ∈ ys) : indA g xs = indA g ys ∧ askedE g.length [xs] = askedE g.length [ys] := by
  have e : askedE g.length [xs] = askedE g.length [ys] := by rw [askedE_one, askedE_one, unkB_ext h]
  refine ⟨?_, e⟩
  unfold indA
  rw [e, show indS g xs = indS g ys from funext fun j => by
    unfold indS
    rw [below_ext h, show seedS xs j = seedS ys j by unfold seedS; rw [Bool.eq_iff_iff, decide_eq_true_eq, decide_eq_true_eq]; exact h _]]
/-- a list of commits of which none reaches another is what is independent of it -/
theorem ind_apart {g : List (List Int)} {S : Nat → Bool} (h : ∀ x y, x < g.length → y < g.length → S x = true → S y = true → up g x y = true → x = y) : indA g (elsTo g.length S) = elsTo g.length S ∧ askedE g.length [elsTo g.length S] = 0 := by
  have e : askedE g.length [elsTo g.length S] = 0 := by
    rw [askedE_one, if_neg]
    unfold unkB
    rw [Bool.not_eq_true, Bool.not_eq_false', List.all_eq_true]
    intro c hc
    obtain ⟨k, rfl, hk, _⟩ := elsTo_mem.1 hc
    unfold inR
    rw [decide_eq_true (show (0 : Int) ≤ (k : Int) by omega), decide_eq_true (show (k : Int) < (g.length : Int) by omega)]; rfl
  refine ⟨?_, e⟩
  rw [indA, if_pos e]
  refine elsTo_ext fun j hj => ?_
  unfold indS
  have h1 : seedS (elsTo g.length S) j = S j := by
    unfold seedS
    rw [Bool.eq_iff_iff, decide_eq_true_eq, elsTo_mem]
    exact ⟨fun ⟨k, e, _, hs⟩ => (by rw [show j = k by omega]; exact hs), fun hs => ⟨j, rfl, hj, hs⟩⟩
  rw [h1]
  cases hs : S j with
  | false => rfl
  | true =>
    rw [Bool.true_and, Bool.not_eq_true']
    unfold belowS
    rw [List.any_eq_false]
    intro c hc
    obtain ⟨k, rfl, hk, hsk⟩ := elsTo_mem.1 hc
    rw [Int.toNat_natCast]
    cases hu : up g k j with
    | false => simp
    | true =>
      have := h k j hk hj hsk hs hu
      subst this; simp
theorem manyS_down {g : List (List Int)} (hg : Good g) (xs : List Int) : Down g (manyS g xs) := fun i j hi h => by
  unfold manyS at *
  rw [List.all_eq_true] at *
  exact fun c hc => up_trans hg (hi c hc) h
theorem many_ind {g : List (List Int)} (hg : Good g) {xs : List Int} (h : manyE g xs = 0) : indA g (manyA g xs) = manyA g xs ∧ askedE g.length [manyA g xs] = 0 := by
  rw [manyA, if_pos h]
  exact ind_apart fun x y _ _ h1 h2 h3 => best_apart hg (manyS_down hg xs) h1 h2 h3
theorem ind_ind {g : List (List Int)} {xs : List Int} (h : askedE g.length [xs] = 0) : indA g (indA g xs) = indA g xs ∧ askedE g.length [indA g xs] = 0 := by
  have e : indA g xs = elsTo g.length (indS g xs) := if_pos h
  rw [e]
  refine ind_apart fun x y _ _ h1 h2 h3 => ?_
  unfold indS at h1 h2
  simp only [Bool.and_eq_true, Bool.not_eq_true'] at h1 h2
  by_cases e : x = y
  · exact e
  · exfalso
    have h4 := h2.2
    unfold belowS at h4
    rw [List.any_eq_false] at h4
    have := h4 (x : Int) (of_decide_eq_true h1.1)
    rw [Int.toNat_natCast, h3, decide_eq_false (fun h => e h.symm)] at this
    simp at this
theorem many_two {g : List (List Int)} (hg : Good g) {a b : Nat} (ha : a < g.length) (hb : b < g.length) : manyA g [(a : Int), (b : Int)] = sidesA g [(a : Int)] [(b : Int)] ∧ manyE g [(a : Int), (b : Int)] = 0 := by
  have e : manyE g [(a : Int), (b : Int)] = 0 := by
    unfold manyE
    rw [if_neg (by simp)]
    exact askedE_pair ha hb
  refine ⟨?_, e⟩
  rw [manyA, if_pos e, sidesA, if_pos (onlyE_in ha hb)]
  unfold sidesB
  rw [show manyS g [(a : Int), (b : Int)] = bothS g [(a : Int)] [(b : Int)] from funext fun j => by
    unfold manyS bothS
    rw [anyUp_one hg ha, anyUp_one hg hb]
    simp]
set_option maxHeartbeats 16000000 in
theorem baseslaws_spec (μ : PH) (v v1 : Value) (G : List (Value × List Int)) (xs0 : List Int) (tn : Int) (hT : RowAt μ 0 0 tabV) (hG : Graph μ v G) (hn : G.length ≤ 17592186043904) (hrows : ∀ x ∈ G, x.2.length ≤ 17592186043904)
    (hx : Row μ v1 1 xs0.length (xs0.flatMap (icsk .i64))) (htn : 0 ≤ tn ∧ tn ≤ 255) :
    Spec Tryd.prog 10 [v, v1, .int .u8 tn] [ro μ] (LawOk μ) := by
  obtain ⟨A1, c1, hv1⟩ := hx.sl
  subst hv1
  refine Spec.of 214 Tryd.func10 rfl rfl rfl ?_
  refine swp_seq ?_
  refine swp_region ?_
  refine s_pu (pu_assign rfl) ?_
  refine swl_sub _ (.cons (t := 0) rfl (.cons (t := 1) rfl (.cons (t := 2) rfl .nil))) ?_
  refine swl_nil ?_
  refine then_n ?_
  refine swp_seq ?_
  refine swp_seq ?_
  refine swp_region ?_
  refine s_ef (ef_fn (meets_spec μ hT) rfl rfl (by repeat (first | exact Split.nil | (apply Split.cons; (repeat (first | with_reducible exact Take.here | apply Take.there)))))) ?_
  rintro v30 L1 ⟨rfl, μ1, h1, rfl⟩
  refine swl_app ?_
  refine s_pu (pu_not rfl) ?_
  refine swl_sub _ (.cons (t := 0) rfl (.cons (t := 1) rfl (.cons (t := 2) rfl (.cons (t := 31) rfl .nil)))) ?_
  refine swl_nil ?_
  refine then_n ?_
  refine swp_cond (b := _) rfl (fun h31 => by cases h31) (fun h31 => ?_)
  refine swp_skip ?_
  refine then_n ?_
  refine swp_seq ?_
  refine swp_region ?_
  refine s_pu (pu_move rfl) ?_
  refine s_ef (ef_fn (good2_spec μ1 v G 60 60 (hG.le h1) hn (by decide) hrows) rfl rfl (by repeat (first | exact Split.nil | (apply Split.cons; (repeat (first | with_reducible exact Take.here | apply Take.there)))))) ?_
  rintro v33 L1 ⟨μ2, o, A0, h2, rfl, rfl, hgd⟩
  refine swl_app ?_
  refine s_pu (pu_assign rfl) ?_
  refine swl_sub _ (.cons (t := 1) rfl (.cons (t := 2) rfl (.cons (t := 7) rfl .nil))) ?_
  refine swl_nil ?_
  refine then_n ?_
  refine swp_seq ?_
  refine swp_seq ?_
  refine swp_region ?_
  refine s_pu (pu_move rfl) ?_
  refine s_pu (pu_ptr_eq_nil rfl rfl) ?_
  refine s_pu (pu_move rfl) ?_
  refine s_split 36 rfl (fun h36 => ?_) (fun h36 => ?_)
  · skip   -- 36 T
    refine s_off rfl rfl rfl ?_
    refine s_off rfl rfl rfl ?_
    refine s_off rfl rfl rfl ?_
    first | refine s_pu (pu_pick_t rfl rfl) ?_ | refine s_pu (pu_pick_f rfl rfl) ?_
    refine s_pu (pu_move rfl) ?_
    refine s_split 41 rfl (fun h41 => ?_) (fun h41 => by cases h41)
    refine s_off rfl rfl rfl ?_
    refine s_off rfl rfl rfl ?_
    refine s_off rfl rfl rfl ?_
    refine s_off rfl rfl rfl ?_
    refine s_off rfl rfl rfl ?_
    refine s_off rfl rfl rfl ?_
    first | refine s_pu (pu_pick_t rfl rfl) ?_ | refine s_pu (pu_pick_f rfl rfl) ?_
    refine swl_sub _ (.cons (t := 1) rfl (.cons (t := 2) rfl (.cons (t := 7) rfl (.cons (t := 48) rfl .nil)))) ?_
    refine swl_nil ?_
    refine then_n ?_
    refine swp_cond (b := _) rfl (fun h48 => ?_) (fun h48 => by cases h48)
    refine swp_seq ?_
    refine swp_region ?_
    refine s_pu (pu_assign rfl) ?_
    refine swl_sub _ (.cons (t := 6) rfl .nil) ?_
    refine swl_nil ?_
    refine then_n ?_
    refine swp_ret ?_
    refine then_r ?_
    exact done_ret [ro μ2] (.tmp rfl .nil) ⟨rfl, μ2, [], h1.trans h2, rfl⟩ (by repeat (first | exact Split.nil | (apply Split.cons; (repeat (first | with_reducible exact Take.here | apply Take.there)))))
  · skip   -- 36 F
    obtain ⟨p, v', vn, gs, rfl, hS, hm60, hrm, rfl⟩ : ∃ p v' vn gs, o = some ⟨p, 0, none⟩ ∧ GS μ2 v' vn (G.take (min G.length 60)) gs (60 : Int).toNat ∧ (G.take (min G.length 60)).length ≤ 60 ∧ (∀ x ∈ G.take (min G.length 60), x.2.length ≤ 17592186043904) ∧ A0 = gA p v' vn (G.take (min G.length 60)).length noAsk := by
      rcases hgd with ⟨rfl, _⟩ | ⟨p, v', vn, gs, k1, k2, k3⟩
      · cases h36
      · exact ⟨p, v', vn, gs, k1, k2, by rw [List.length_take]; omega, fun x hx => hrows x (List.mem_of_mem_take hx), k3⟩
    generalize G.take (min G.length 60) = Gm at *
    have hT2 := (hT.le h1).le h2
    have hln : (nums Gm).length = Gm.length := List.length_map _
    have hgood := hS.good
    have hx2 := (hx.le h1).le h2
    refine swl_ent (Split.ent' (K := [gA p v' vn Gm.length noAsk, ro μ2]) (by repeat (first | exact Split.nil | (apply Split.cons; (repeat (first | with_reducible exact Take.here | apply Take.there)))))) ?_
    refine swl_ex fun va => ?_
    simp only [List.cons_append, List.nil_append]
    refine s_on rfl rfl ?_
    refine s_pu (pu_move rfl) ?_
    refine s_on rfl rfl ?_
    refine s_pu (pu_len_row hx rfl) ?_
    refine s_on rfl rfl ?_
    refine s_pu (pu_eql rfl rfl) ?_
    first | refine s_pu (pu_pick_t rfl rfl) ?_ | refine s_pu (pu_pick_f rfl rfl) ?_
    refine s_pu (pu_move rfl) ?_
    refine s_split 41 rfl (fun h41 => ?_) (fun h41 => ?_)
    · skip   -- 41 T
      refine s_off rfl rfl rfl ?_
      refine s_off rfl rfl rfl ?_
      refine s_off rfl rfl rfl ?_
      refine s_off rfl rfl rfl ?_
      refine s_off rfl rfl rfl ?_
      refine s_off rfl rfl rfl ?_
      first | refine s_pu (pu_pick_t rfl rfl) ?_ | refine s_pu (pu_pick_f rfl rfl) ?_
      refine swl_sub _ (.cons (t := 1) rfl (.cons (t := 2) rfl (.cons (t := 7) rfl (.cons (t := 48) rfl .nil)))) ?_
      refine swl_nil ?_
      refine then_n ?_
      refine swp_cond (b := _) rfl (fun h48 => ?_) (fun h48 => by cases h48)
      refine swp_seq ?_
      refine swp_region ?_
      refine s_pu (pu_assign rfl) ?_
      refine swl_sub _ (.cons (t := 6) rfl .nil) ?_
      refine swl_nil ?_
      refine then_n ?_
      refine swp_ret ?_
      refine then_r ?_
      exact done_ret [ro μ2] (.tmp rfl .nil) ⟨rfl, μ2, [], h1.trans h2, rfl⟩ (by repeat (first | exact Split.nil | (apply Split.cons; (repeat (first | with_reducible exact Take.here | apply Take.there)))))
    · skip   -- 41 F
      refine s_on rfl rfl ?_
      refine s_pu (pu_move rfl) ?_
      refine s_on rfl rfl ?_
      first | refine s_pu (pu_nilCheck rfl) ?_ | refine s_pu (pu_nilCheck_fn rfl) ?_ | refine s_pu (pu_nilCheck_if rfl) ?_
      refine s_on rfl rfl ?_
      first | refine s_pu (pu_fieldAddr0 rfl) ?_ | refine s_pu (pu_fieldAddr rfl) ?_
      refine s_on rfl rfl ?_
      refine s_rd (rd_load rfl rfl) ?_
      refine s_on rfl rfl ?_
      refine s_pu (pu_move rfl) ?_
      refine s_on rfl rfl ?_
      refine s_ef (ef_fn (unknown_spec v' (.slice A1 xs0.length c1) Gm.length xs0 [ro μ2] hS.hG.1.sl (Ints.row hx2)) rfl rfl (by repeat (first | exact Split.nil | (apply Split.cons; (repeat (first | with_reducible exact Take.here | apply Take.there)))))) ?_
      rintro v47 L1 ⟨rfl, rfl⟩
      refine swl_app ?_
      first | refine s_pu (pu_pick_t rfl rfl) ?_ | refine s_pu (pu_pick_f rfl rfl) ?_
      refine swl_sub _ (.cons (t := 1) rfl (.cons (t := 2) rfl (.cons (t := 7) rfl (.cons (t := 48) rfl .nil)))) ?_
      refine swl_nil ?_
      refine then_n ?_
      refine swp_cond (b := _) rfl (fun h48 => ?_) (fun h48 => ?_)
      · skip   -- 48 T
        refine swp_seq ?_
        refine swp_region ?_
        refine s_pu (pu_assign rfl) ?_
        refine swl_sub _ (.cons (t := 6) rfl .nil) ?_
        refine swl_nil ?_
        refine then_n ?_
        refine swp_ret ?_
        refine then_r ?_
        exact done_ret [ro μ2] (.tmp rfl .nil) ⟨rfl, μ2, [], h1.trans h2, rfl⟩ (by repeat (first | exact Split.nil | (apply Split.cons; (repeat (first | with_reducible exact Take.here | apply Take.there)))))
      · skip   -- 48 F
        have hne0 : xs0.length ≠ 0 := by have := of_decide_eq_false h41; omega
        have hin0 : ∀ c ∈ xs0, 0 ≤ c ∧ c < Gm.length := fun c hc => by
          unfold unkB at h48
          simp only [Bool.not_eq_false', List.all_eq_true] at h48
          have := h48 c hc
          simpa [inR] using this
        obtain ⟨vx, xs, hxe, hxl, rx, sx⟩ := cutK 12 hx2
        have hxin : ∀ c ∈ xs, 0 ≤ c ∧ c < Gm.length := fun c hc => hin0 c (by rw [hxe] at hc; exact List.mem_of_mem_take hc)
        have hxne : xs.length ≠ 0 := by rw [hxe, List.length_take]; omega
        clear hxe
        refine swp_ent (Split.ent' (K := [blk p 33 [v', vn, va], own 3 1 va Gm.length (askV Gm.length noAsk), ro μ2]) (by repeat (first | exact Split.nil | (apply Split.cons; (repeat (first | with_reducible exact Take.here | apply Take.there)))))) ?_
        refine swp_ent gA_close ?_
        refine swp_skip ?_
        refine then_n ?_
        refine swp_seq ?_
        refine swp_region ?_
        refine s_pu (pu_move rfl) ?_
        refine s_pu (pu_move rfl) ?_
        refine s_pu (pu_len_row hx rfl) ?_
        refine s_pu (pu_min2 rfl rfl) ?_
        refine s_pu (sx _ _ _ .i64 _ rfl rfl rfl) ?_
        refine s_pu (pu_assign rfl) ?_
        refine swl_sub _ (.cons (t := 1) rfl (.cons (t := 2) rfl (.cons (t := 7) rfl .nil))) ?_
        refine swl_nil ?_
        refine then_n ?_
        refine swp_seq ?_
        refine swp_seq ?_
        refine swp_region ?_
        refine s_pu (pu_move rfl) ?_
        refine s_pu (pu_len_row rx rfl) ?_
        refine s_pu (pu_move rfl) ?_
        refine swl_sub _ (.cons (t := 1) rfl (.cons (t := 2) rfl (.cons (t := 7) rfl (.cons (t := 54) rfl (.cons (t := 55) rfl (.cons (t := 56) rfl .nil)))))) ?_
        refine swl_nil ?_
        refine then_n ?_
        refine swp_block ?_
        refine swp_sub _ (.cons (t := 1) rfl (.cons (t := 2) rfl (.cons (t := 7) rfl (.cons (t := 54) rfl (.cons (t := 55) rfl (.cons (t := 56) rfl .nil)))))) ?_
        refine swp_loop (ι := Nat × PH × (Nat → Nat)) (fun k env L => env = [(1, vx), (2, .int .u8 tn), (7, .pointer (some ⟨p, 0, none⟩)), (54, vx), (55, .int .i64 (xs.length : Nat)), (56, .int .i64 (k.1 : Nat))] ∧ Ent L [gA p v' vn Gm.length k.2.2, ro k.2.1] ∧ k.1 ≤ xs.length ∧ Le μ2 k.2.1 ∧ ∀ d, k.2.2 d ≤ wpK 0 k.1 1) (fun k => xs.length - k.1) (0, μ2, noAsk) ⟨rfl, Ent.refl _, Nat.zero_le _, Le.refl _, fun d => Nat.zero_le _⟩ ?_
        rintro ⟨i, μi, ai⟩ env L ⟨rfl, hLi, hi, hli, hai⟩
        dsimp only at hLi hi hli hai ⊢
        refine swp_ent hLi ?_
        refine swp_seq ?_
        refine swp_region ?_
        refine s_pu (pu_lss rfl rfl) ?_
        refine swl_sub _ (.cons (t := 1) rfl (.cons (t := 2) rfl (.cons (t := 7) rfl (.cons (t := 54) rfl (.cons (t := 55) rfl (.cons (t := 56) rfl (.cons (t := 57) rfl .nil))))))) ?_
        refine swl_nil ?_
        refine then_n ?_
        refine swp_seq ?_
        refine swp_cond (b := _) rfl (fun h57 => ?_) (fun h57 => ?_)
        · skip   -- 57 T
          have h57' : i < xs.length := by have := of_decide_eq_true h57; omega
          obtain ⟨c, hc⟩ : ∃ c, xs[i]? = some c := ⟨_, List.getElem?_eq_getElem h57'⟩
          obtain ⟨pb, po, pc, hpv, hpc⟩ := (rx.le hli).at_ hc
          have hcr := hxin c (List.mem_of_getElem? hc)
          obtain ⟨c, rfl⟩ : ∃ k : Nat, c = k := ⟨c.toNat, by omega⟩
          have hcn : c < (nums Gm).length := by omega
          refine swp_skip ?_
          refine then_n ?_
          refine swp_seq ?_
          refine swp_block ?_
          refine swp_seq ?_
          refine swp_region ?_
          refine s_pu (pu_indexAddr (po + i * 1) (congrArg some hpv) rfl (by omega) (by omega) (by rw [Int.toNat_natCast])) ?_
          refine s_rd (rd_ro rfl hpc) ?_
          refine s_pu (pu_assign rfl) ?_
          refine swl_sub _ (.cons (t := 1) rfl (.cons (t := 2) rfl (.cons (t := 7) rfl (.cons (t := 9) rfl (.cons (t := 54) rfl (.cons (t := 55) rfl (.cons (t := 56) rfl .nil))))))) ?_
          refine swl_nil ?_
          refine then_n ?_
          refine swp_seq ?_
          refine swp_region ?_
          refine s_pu (pu_move rfl) ?_
          refine s_pu (pu_iface rfl) ?_
          refine s_pu (pu_move rfl) ?_
          refine s_pu (pu_move rfl) ?_
          refine s_ef (ef_fn (g_merge (hS.le hli) p ai (fun d => by have := wpK_top2 (hai d) (by omega) (by omega); omega) c c (hT2.le hli)) rfl rfl (by repeat (first | exact Split.nil | (apply Split.cons; (repeat (first | with_reducible exact Take.here | apply Take.there)))))) ?_
          rintro v65 L1 ⟨lv, zs, μa, hz, ha, rfl, rfl⟩
          refine swl_app ?_
          rw [onlyE_in hcn hcn, sides_self hgood hcn hcn (up_refl hgood c)]
          have a1 : ∀ d, (zs.foldl ask1 ai) d ≤ wpK 0 i (0 + 2) := fun d => by have := ask_le hz.1 (hai d); rwa [wpK_add] at this
          generalize zs.foldl ask1 ai = A1' at *
          refine s_pu (pu_move rfl) ?_
          first | refine s_pu (pu_extractL rfl) ?_ | refine s_pu (pu_extract rfl rfl) ?_
          first | refine s_pu (pu_extractL rfl) ?_ | refine s_pu (pu_extract rfl rfl) ?_
          refine s_pu (pu_assign rfl) ?_
          refine s_pu (pu_assign rfl) ?_
          refine swl_sub _ (.cons (t := 1) rfl (.cons (t := 2) rfl (.cons (t := 7) rfl (.cons (t := 9) rfl (.cons (t := 10) rfl (.cons (t := 11) rfl (.cons (t := 54) rfl (.cons (t := 55) rfl (.cons (t := 56) rfl .nil))))))))) ?_
          refine swl_nil ?_
          refine then_n ?_
          refine swp_seq ?_
          refine swp_seq ?_
          refine swp_fact (fun m h => own_shape (by repeat (first | with_reducible exact Take.here | apply Take.there)) h) fun hs1 => ?_
          refine swp_ent (Split.ent' (K := [own 3 1 lv ([(c : Int)] : List Int).length (([(c : Int)] : List Int).flatMap (icsk .i64)), gA p v' vn Gm.length A1', ro μa]) (by repeat (first | exact Split.nil | (apply Split.cons; (repeat (first | with_reducible exact Take.here | apply Take.there)))))) ?_
          refine swp_region ?_
          refine s_pu (pu_move rfl) ?_
          refine s_pu (pu_neq rfl rfl) ?_
          refine s_pu (pu_move rfl) ?_
          refine s_split 70 rfl (fun h70 => by exfalso; simp at h70) (fun h70 => ?_)
          refine s_on rfl rfl ?_
          refine s_pu (pu_move rfl) ?_
          refine s_on rfl rfl ?_
          refine s_pu (pu_move rfl) ?_
          refine s_on rfl rfl ?_
          refine s_ef (ef_bldS (qs := [(0, _)]) rfl rfl rfl) ?_
          intro b73
          refine s_on rfl rfl ?_
          refine s_ef (ef_fn (samelist_i lv _ ([(c : Int)] : List Int) ([(c : Int)] : List Int) [own 3 1 lv ([(c : Int)] : List Int).length (([(c : Int)] : List Int).flatMap (icsk .i64)), blk b73 3 [.int .i64 (c : Nat)]] (ints_own hs1 .here) (ints_blk (cs := [(c : Int)]) rfl (by show 1 ≤ _; decide))) rfl rfl (by repeat (first | exact Split.nil | (apply Split.cons; (repeat (first | with_reducible exact Take.here | apply Take.there)))))) ?_
          rintro v74 L1 ⟨rfl, rfl⟩
          refine swl_app ?_
          refine s_on rfl rfl ?_
          refine s_pu (pu_not rfl) ?_
          first | refine s_pu (pu_pick_t rfl rfl) ?_ | refine s_pu (pu_pick_f rfl rfl) ?_
          refine swl_sub _ (.cons (t := 1) rfl (.cons (t := 2) rfl (.cons (t := 7) rfl (.cons (t := 9) rfl (.cons (t := 54) rfl (.cons (t := 55) rfl (.cons (t := 56) rfl (.cons (t := 76) rfl .nil)))))))) ?_
          refine swl_nil ?_
          refine then_n ?_
          refine swp_cond (b := _) rfl (fun h76 => by exfalso; simp at h76) (fun h76 => ?_)
          refine swp_skip ?_
          refine then_n ?_
          refine swp_seq ?_
          refine swp_ent (Split.ent' (K := [gA p v' vn Gm.length A1', ro μa]) (by repeat (first | exact Split.nil | (apply Split.cons; (repeat (first | with_reducible exact Take.here | apply Take.there)))))) ?_
          refine swp_ex fun va1 => ?_
          simp only [List.cons_append, List.nil_append]
          obtain ⟨gb, off, cap, x, hgv, hxx, hxc, hxr, hnx⟩ := row_at ((hS.le hli).le ha).hG (show c < Gm.length by omega)
          have hxl2 := hrm x (List.mem_of_getElem? hxx)
          have hxo := rowOf_at hnx
          have hxg := hgood c _ hnx
          refine swp_region ?_
          refine s_pu (pu_move rfl) ?_
          first | refine s_pu (pu_nilCheck rfl) ?_ | refine s_pu (pu_nilCheck_fn rfl) ?_ | refine s_pu (pu_nilCheck_if rfl) ?_
          first | refine s_pu (pu_fieldAddr0 rfl) ?_ | refine s_pu (pu_fieldAddr rfl) ?_
          refine s_rd (rd_load rfl rfl) ?_
          refine s_pu (pu_move rfl) ?_
          refine s_pu (pu_indexAddr (off + c * 1) (congrArg some hgv) rfl (by omega) (by omega) (by rw [Int.toNat_natCast])) ?_
          refine s_rd (rd_ro rfl hxc) ?_
          refine s_pu (pu_len_row hxr rfl) ?_
          refine s_pu (pu_move rfl) ?_
          refine swl_sub _ (.cons (t := 1) rfl (.cons (t := 2) rfl (.cons (t := 7) rfl (.cons (t := 9) rfl (.cons (t := 54) rfl (.cons (t := 55) rfl (.cons (t := 56) rfl (.cons (t := 83) rfl (.cons (t := 84) rfl (.cons (t := 85) rfl .nil)))))))))) ?_
          refine swl_nil ?_
          refine then_n ?_
          refine swp_block ?_
          refine swp_ent (Split.ent' (K := [blk p 33 [v', vn, va1], own 3 1 va1 Gm.length (askV Gm.length A1'), ro μa]) (by repeat (first | exact Split.nil | (apply Split.cons; (repeat (first | with_reducible exact Take.here | apply Take.there)))))) ?_
          refine swp_ent gA_close ?_
          refine swp_sub _ (.cons (t := 1) rfl (.cons (t := 2) rfl (.cons (t := 7) rfl (.cons (t := 9) rfl (.cons (t := 54) rfl (.cons (t := 55) rfl (.cons (t := 56) rfl (.cons (t := 83) rfl (.cons (t := 84) rfl (.cons (t := 85) rfl .nil)))))))))) ?_
          refine swp_loop (ι := Nat × PH × (Nat → Nat)) (fun k env L => env = [(1, vx), (2, .int .u8 tn), (7, .pointer (some ⟨p, 0, none⟩)), (9, .int .i64 (c : Nat)), (54, vx), (55, .int .i64 (xs.length : Nat)), (56, .int .i64 (i : Nat)), (83, x.1), (84, .int .i64 (x.2.length : Nat)), (85, .int .i64 (k.1 : Nat))] ∧ Ent L [gA p v' vn Gm.length k.2.2, ro k.2.1] ∧ k.1 ≤ x.2.length ∧ Le μa k.2.1 ∧ ∀ d, k.2.2 d ≤ wpK 0 i (k.1 + 2)) (fun k => x.2.length - k.1) (0, μa, A1') ⟨rfl, Ent.refl _, Nat.zero_le _, Le.refl _, a1⟩ ?_
          rintro ⟨j, μj, aj⟩ env L ⟨rfl, hLj, hj, hlj, haj⟩
          dsimp only at hLj hj hlj haj ⊢
          refine swp_ent hLj ?_
          refine swp_seq ?_
          refine swp_region ?_
          refine s_pu (pu_lss rfl rfl) ?_
          refine swl_sub _ (.cons (t := 1) rfl (.cons (t := 2) rfl (.cons (t := 7) rfl (.cons (t := 9) rfl (.cons (t := 54) rfl (.cons (t := 55) rfl (.cons (t := 56) rfl (.cons (t := 83) rfl (.cons (t := 84) rfl (.cons (t := 85) rfl (.cons (t := 86) rfl .nil))))))))))) ?_
          refine swl_nil ?_
          refine then_n ?_
          refine swp_seq ?_
          refine swp_cond (b := _) rfl (fun h86 => ?_) (fun h86 => ?_)
          · skip   -- 86 T
            have h86' : j < x.2.length := by have := of_decide_eq_true h86; omega
            obtain ⟨u, hu⟩ : ∃ u, x.2[j]? = some u := ⟨_, List.getElem?_eq_getElem h86'⟩
            obtain ⟨ub, uo, uc, huv, huc⟩ := (hxr.le hlj).at_ hu
            have hur := hxg u (List.mem_of_getElem? hu)
            obtain ⟨u, rfl⟩ : ∃ k : Nat, u = k := ⟨u.toNat, by omega⟩
            have hun : u < (nums Gm).length := by omega
            have hup : up (nums Gm) c u = true := up_row hgood (by rw [hxo]; exact List.mem_of_getElem? hu)
            refine swp_skip ?_
            refine then_n ?_
            refine swp_seq ?_
            refine swp_block ?_
            refine swp_seq ?_
            refine swp_region ?_
            refine s_pu (pu_indexAddr (uo + j * 1) (congrArg some huv) rfl (by omega) (by omega) (by rw [Int.toNat_natCast])) ?_
            refine s_rd (rd_ro rfl huc) ?_
            refine s_pu (pu_assign rfl) ?_
            refine swl_sub _ (.cons (t := 1) rfl (.cons (t := 2) rfl (.cons (t := 7) rfl (.cons (t := 9) rfl (.cons (t := 13) rfl (.cons (t := 54) rfl (.cons (t := 55) rfl (.cons (t := 56) rfl (.cons (t := 83) rfl (.cons (t := 84) rfl (.cons (t := 85) rfl .nil))))))))))) ?_
            refine swl_nil ?_
            refine then_n ?_
            refine swp_seq ?_
            refine swp_region ?_
            refine s_pu (pu_move rfl) ?_
            refine s_pu (pu_iface rfl) ?_
            refine s_pu (pu_move rfl) ?_
            refine s_pu (pu_move rfl) ?_
            refine s_ef (ef_fn (g_merge (hS.le (hli.trans (ha.trans hlj))) p aj (fun d => by have := wpK_top2 (haj d) (by omega) (by omega); omega) c u (hT2.le (hli.trans (ha.trans hlj)))) rfl rfl (by repeat (first | exact Split.nil | (apply Split.cons; (repeat (first | with_reducible exact Take.here | apply Take.there)))))) ?_
            rintro v94 L1 ⟨lw, zt, μb, hzt, hb, rfl, rfl⟩
            refine swl_app ?_
            rw [onlyE_in hcn hun, sides_self hgood hcn hun hup]
            have a2 : ∀ d, (zt.foldl ask1 aj) d ≤ wpK 0 i (j + 1 + 2) := fun d => by have := ask_le hzt.1 (haj d); rw [wpK_add] at this; rwa [show j + 2 + 1 = j + 1 + 2 by omega] at this
            generalize zt.foldl ask1 aj = A2 at *
            refine s_pu (pu_move rfl) ?_
            first | refine s_pu (pu_extractL rfl) ?_ | refine s_pu (pu_extract rfl rfl) ?_
            first | refine s_pu (pu_extractL rfl) ?_ | refine s_pu (pu_extract rfl rfl) ?_
            refine s_pu (pu_assign rfl) ?_
            refine s_pu (pu_assign rfl) ?_
            refine swl_sub _ (.cons (t := 1) rfl (.cons (t := 2) rfl (.cons (t := 7) rfl (.cons (t := 9) rfl (.cons (t := 13) rfl (.cons (t := 14) rfl (.cons (t := 15) rfl (.cons (t := 54) rfl (.cons (t := 55) rfl (.cons (t := 56) rfl (.cons (t := 83) rfl (.cons (t := 84) rfl (.cons (t := 85) rfl .nil))))))))))))) ?_
            refine swl_nil ?_
            refine then_n ?_
            refine swp_seq ?_
            refine swp_fact (fun m h => own_shape (by repeat (first | with_reducible exact Take.here | apply Take.there)) h) fun hs2 => ?_
            refine swp_ent (Split.ent' (K := [own 3 1 lw ([(u : Int)] : List Int).length (([(u : Int)] : List Int).flatMap (icsk .i64)), gA p v' vn Gm.length A2, ro μb]) (by repeat (first | exact Split.nil | (apply Split.cons; (repeat (first | with_reducible exact Take.here | apply Take.there)))))) ?_
            refine swp_region ?_
            refine s_pu (pu_move rfl) ?_
            refine s_pu (pu_neq rfl rfl) ?_
            refine s_pu (pu_move rfl) ?_
            refine s_split 99 rfl (fun h99 => by exfalso; simp at h99) (fun h99 => ?_)
            refine s_on rfl rfl ?_
            refine s_pu (pu_move rfl) ?_
            refine s_on rfl rfl ?_
            refine s_pu (pu_move rfl) ?_
            refine s_on rfl rfl ?_
            refine s_ef (ef_bldS (qs := [(0, _)]) rfl rfl rfl) ?_
            intro b102
            refine s_on rfl rfl ?_
            refine s_ef (ef_fn (samelist_i lw _ ([(u : Int)] : List Int) ([(u : Int)] : List Int) [own 3 1 lw ([(u : Int)] : List Int).length (([(u : Int)] : List Int).flatMap (icsk .i64)), blk b102 3 [.int .i64 (u : Nat)]] (ints_own hs2 .here) (ints_blk (cs := [(u : Int)]) rfl (by show 1 ≤ _; decide))) rfl rfl (by repeat (first | exact Split.nil | (apply Split.cons; (repeat (first | with_reducible exact Take.here | apply Take.there)))))) ?_
            rintro v103 L1 ⟨rfl, rfl⟩
            refine swl_app ?_
            refine s_on rfl rfl ?_
            refine s_pu (pu_not rfl) ?_
            first | refine s_pu (pu_pick_t rfl rfl) ?_ | refine s_pu (pu_pick_f rfl rfl) ?_
            refine swl_sub _ (.cons (t := 1) rfl (.cons (t := 2) rfl (.cons (t := 7) rfl (.cons (t := 9) rfl (.cons (t := 54) rfl (.cons (t := 55) rfl (.cons (t := 56) rfl (.cons (t := 83) rfl (.cons (t := 84) rfl (.cons (t := 85) rfl (.cons (t := 105) rfl .nil))))))))))) ?_
            refine swl_nil ?_
            refine then_n ?_
            refine swp_cond (b := _) rfl (fun h105 => by exfalso; simp at h105) (fun h105 => ?_)
            refine swp_skip ?_
            refine block_n ?_
            refine then_n ?_
            refine swp_region ?_
            refine s_pu (pu_add_as ((j + 1 : Nat) : Int) rfl rfl (by omega) (by omega) (by omega)) ?_
            refine s_pu (pu_move rfl) ?_
            refine swl_sub _ (.cons (t := 1) rfl (.cons (t := 2) rfl (.cons (t := 7) rfl (.cons (t := 9) rfl (.cons (t := 54) rfl (.cons (t := 55) rfl (.cons (t := 56) rfl (.cons (t := 83) rfl (.cons (t := 84) rfl (.cons (t := 85) rfl .nil)))))))))) ?_
            refine swl_nil ?_
            exact then_n ⟨(j + 1, μb, A2), ⟨rfl, Split.ent' (by repeat (first | exact Split.nil | (apply Split.cons; (repeat (first | with_reducible exact Take.here | apply Take.there))))), h86', hlj.trans hb, a2⟩, by show x.2.length - (j + 1) < x.2.length - j; omega⟩
          · skip   -- 86 F
            have h86' := of_decide_eq_false h86
            refine swp_exit ?_
            refine then_x ?_
            refine then_x ?_
            refine block_hit rfl ?_
            refine block_n ?_
            refine then_n ?_
            refine swp_region ?_
            refine s_pu (pu_add_as ((i + 1 : Nat) : Int) rfl rfl (by omega) (by omega) (by omega)) ?_
            refine s_pu (pu_move rfl) ?_
            refine swl_sub _ (.cons (t := 1) rfl (.cons (t := 2) rfl (.cons (t := 7) rfl (.cons (t := 54) rfl (.cons (t := 55) rfl (.cons (t := 56) rfl .nil)))))) ?_
            refine swl_nil ?_
            exact then_n ⟨(i + 1, μj, aj), ⟨rfl, Split.ent' (by repeat (first | exact Split.nil | (apply Split.cons; (repeat (first | with_reducible exact Take.here | apply Take.there))))), h57', hli.trans (ha.trans hlj), fun d => wpK_a (haj d) (by omega)⟩, by show xs.length - (i + 1) < xs.length - i; omega⟩
        · skip   -- 57 F
          have h57' := of_decide_eq_false h57
          have l2i := hli
          obtain ⟨K0, hK0, hle0⟩ : ∃ K0, K0 ≤ 20000000000000000 ∧ ∀ d, ai d ≤ K0 := ⟨20000000000000000, Nat.le_refl _, fun d => wpK_top2 (hai d) (by omega) (by omega)⟩
          clear hai
          obtain ⟨kk, hkk, hkl⟩ : ∃ kk : Nat, tn % (xs.length : Int) = kk ∧ kk < xs.length := ⟨(tn % (xs.length : Int)).toNat, by
            have := Int.emod_nonneg tn (b := (xs.length : Int)) (by omega); omega, by
            have := Int.emod_nonneg tn (b := (xs.length : Int)) (by omega)
            have := Int.emod_lt_of_pos tn (b := (xs.length : Int)) (by omega); omega⟩
          have rxi := rx.le l2i
          obtain ⟨vlo, hlo1, hlo2⟩ := Row.lo (P := Tryd.prog) (t := 31) rxi kk (Nat.le_of_lt hkl)
          obtain ⟨vhi, hhi1, hhi2⟩ := Row.hi (P := Tryd.prog) (t := 31) rxi kk (Nat.le_of_lt hkl)
          have hdrop : ∀ (k : Nat) (l : List Int), (l.flatMap (icsk .i64)).drop k = (l.drop k).flatMap (icsk .i64) := fun k => by
            induction k with
            | zero => intro l; rfl
            | succ k ih =>
              intro l
              cases l with
              | nil => rfl
              | cons a l => rw [List.flatMap_cons]; exact ih l
          rw [Nat.mul_one, hdrop] at hlo1
          rw [Nat.mul_one, flat_take (icsk_len .i64)] at hhi1
          refine swp_exit ?_
          refine then_x ?_
          refine then_x ?_
          refine block_hit rfl ?_
          refine then_n ?_
          refine swp_seq ?_
          refine swp_region ?_
          refine s_pu (pu_move rfl) ?_
          refine s_pu (pu_conv_i64 rfl (by omega) (by omega)) ?_
          refine s_pu (pu_move rfl) ?_
          refine s_pu (pu_len_row rxi rfl) ?_
          refine s_pu (pu_rem_as ((kk : Nat) : Int) rfl rfl (by omega) (by omega) hkk) ?_
          refine s_pu (pu_assign rfl) ?_
          refine swl_sub _ (.cons (t := 1) rfl (.cons (t := 7) rfl (.cons (t := 16) rfl .nil))) ?_
          refine swl_nil ?_
          refine then_n ?_
          refine swp_seq ?_
          refine swp_draw [] _ [] (by simp only [List.append_nil]; exact Ent.refl _) (by kernel_rfl) ?_
          refine d_pu 1 rfl (pu_move rfl) (by kernel_rfl) (by kernel_rfl) (by kernel_rfl) ?_
          refine d_pu 2 rfl (pu_move rfl) (by kernel_rfl) (by kernel_rfl) (by kernel_rfl) ?_
          refine d_pu 3 rfl (hlo2 _ _ _ .i64 _ rfl rfl rfl) (by kernel_rfl) (by kernel_rfl) (by kernel_rfl) ?_
          refine d_pu 5 rfl (pu_move rfl) (by kernel_rfl) (by kernel_rfl) (by kernel_rfl) ?_
          refine d_pu 6 rfl (pu_move rfl) (by kernel_rfl) (by kernel_rfl) (by kernel_rfl) ?_
          refine d_pu 7 rfl (hhi2 _ _ _ .i64 _ rfl rfl rfl) (by kernel_rfl) (by kernel_rfl) (by kernel_rfl) ?_
          refine d_pu 9 rfl (pu_move rfl) (by kernel_rfl) (by kernel_rfl) (by kernel_rfl) ?_
          first | refine d_fint 0 rfl (by kernel_rfl) (by kernel_rfl) (ef_bldS (qs := []) rfl rfl rfl) ?_ | refine d_finf 0 rfl (by kernel_rfl) (by kernel_rfl) (ef_bldS (qs := []) rfl rfl rfl) ?_
          intro b113
          refine d_ent (own_empty (e := 3) (n := 1)) ?_
          first | refine d_fint 4 rfl (by kernel_rfl) (by kernel_rfl) (ef_append_ro hlo1 rfl rfl (by repeat (first | exact Split.nil | (apply Split.cons; (repeat (first | with_reducible exact Take.here | apply Take.there))))) (icsk_one _) (by simp only [maxLen]; omega) (by omega)) ?_ | refine d_finf 4 rfl (by kernel_rfl) (by kernel_rfl) (ef_append_ro hlo1 rfl rfl (by repeat (first | exact Split.nil | (apply Split.cons; (repeat (first | with_reducible exact Take.here | apply Take.there))))) (icsk_one _) (by simp only [maxLen]; omega) (by omega)) ?_
          rintro v117 -
          rw [Nat.zero_add, List.nil_append]
          first | refine d_fint 8 rfl (by kernel_rfl) (by kernel_rfl) (ef_append_ro hhi1 rfl rfl (by repeat (first | exact Split.nil | (apply Split.cons; (repeat (first | with_reducible exact Take.here | apply Take.there))))) (icsk_one _) (by simp only [maxLen]; omega) (by omega)) ?_ | refine d_finf 8 rfl (by kernel_rfl) (by kernel_rfl) (ef_append_ro hhi1 rfl rfl (by repeat (first | exact Split.nil | (apply Split.cons; (repeat (first | with_reducible exact Take.here | apply Take.there))))) (icsk_one _) (by simp only [maxLen]; omega) (by omega)) ?_
          rintro v121 -
          skip
          first | refine d_fint 10 rfl (by kernel_rfl) (by kernel_rfl) (ef_append_ro rxi rfl rfl (by repeat (first | exact Split.nil | (apply Split.cons; (repeat (first | with_reducible exact Take.here | apply Take.there))))) (icsk_one _) (by simp only [maxLen]; omega) (by omega)) ?_ | refine d_finf 10 rfl (by kernel_rfl) (by kernel_rfl) (ef_append_ro rxi rfl rfl (by repeat (first | exact Split.nil | (apply Split.cons; (repeat (first | with_reducible exact Take.here | apply Take.there))))) (icsk_one _) (by simp only [maxLen]; omega) (by omega)) ?_
          rintro v123 -
          rw [show (xs.drop kk).flatMap (icsk .i64) ++ (xs.take kk).flatMap (icsk .i64) ++ xs.flatMap (icsk .i64) = (xs.drop kk ++ xs.take kk ++ xs).flatMap (icsk .i64) by rw [List.flatMap_append, List.flatMap_append], show xs.length - kk + kk + xs.length = (xs.drop kk ++ xs.take kk ++ xs).length by rw [List.length_append, List.length_append, List.length_drop, List.length_take]; omega]
          refine d_pu 11 rfl (pu_assign rfl) (by kernel_rfl) (by kernel_rfl) (by kernel_rfl) ?_
          refine d_sub _ (.cons (t := 1) rfl (.cons (t := 7) rfl (.cons (t := 16) rfl (.cons (t := 17) rfl .nil)))) ?_
          first | refine d_nilt (by kernel_rfl) ?_ | refine d_nilf (by kernel_rfl) ?_
          refine then_n ?_
          refine swp_seq ?_
          refine swp_seq ?_
          have hTm : ∀ c, c ∈ xs ↔ c ∈ xs.drop kk ++ xs.take kk ++ xs := fun c => by
            rw [List.mem_append]
            refine ⟨.inr, fun h => h.elim (fun h => ?_) id⟩
            rcases List.mem_append.1 h with h | h
            · exact List.mem_of_mem_drop h
            · exact List.mem_of_mem_take h
          have hTne : xs.drop kk ++ xs.take kk ++ xs ≠ [] := fun e => by
            rw [List.append_eq_nil_iff] at e
            exact hxne (by rw [e.2]; rfl)
          generalize xs.drop kk ++ xs.take kk ++ xs = T at *
          refine swp_share_own (v := v123) (μ := μi) (by repeat (first | exact Split.nil | (apply Split.cons; (repeat (first | with_reducible exact Take.here | apply Take.there))))) fun μt ht rt => ?_
          have hxne' : xs ≠ [] := fun e => hxne (by rw [e]; rfl)
          have hxE : askedE (nums Gm).length [xs] = 0 := by
            rw [askedE_one, if_neg]
            unfold unkB
            rw [Bool.not_eq_true, Bool.not_eq_false', List.all_eq_true]
            intro c hc
            have := hxin c hc
            unfold inR
            rw [decide_eq_true this.1, decide_eq_true (show c < ((nums Gm).length : Int) by omega)]; rfl
          have hxM : manyE (nums Gm) xs = 0 := by unfold manyE; rw [if_neg hxne]; exact hxE
          refine swp_ent (Split.ent' (K := [gA p v' vn Gm.length ai, ro μt]) (by repeat (first | exact Split.nil | (apply Split.cons; (repeat (first | with_reducible exact Take.here | apply Take.there)))))) ?_
          have l2t := l2i.trans ht
          refine swp_region ?_
          refine s_ef (ef_bldS (qs := [(0, _), (1, _)]) rfl rfl rfl) ?_
          intro b124
          refine s_pu (pu_len rfl) ?_
          refine s_pu (pu_move rfl) ?_
          refine swl_sub _ (.cons (t := 1) rfl (.cons (t := 7) rfl (.cons (t := 16) rfl (.cons (t := 17) rfl (.cons (t := 124) rfl (.cons (t := 125) rfl (.cons (t := 126) rfl .nil))))))) ?_
          refine swl_nil ?_
          refine then_n ?_
          refine swp_block ?_
          refine swp_sub _ (.cons (t := 1) rfl (.cons (t := 7) rfl (.cons (t := 16) rfl (.cons (t := 17) rfl (.cons (t := 124) rfl (.cons (t := 125) rfl (.cons (t := 126) rfl .nil))))))) ?_
          refine swp_loop (ι := Nat × PH × (Nat → Nat)) (fun k env L => env = [(1, vx), (7, .pointer (some ⟨p, 0, none⟩)), (16, .int .i64 (kk : Nat)), (17, v123), (124, .slice (some ⟨b124, 0, none⟩) 2 2), (125, .int .i64 2), (126, .int .i64 (k.1 : Nat))] ∧ Ent L [gA p v' vn Gm.length k.2.2, blk b124 45 [.func (.func 35) #[] #[], .func (.func 39) #[] #[]], ro k.2.1] ∧ k.1 ≤ 2 ∧ Le μt k.2.1 ∧ ∀ d, k.2.2 d ≤ K0 + 3 * k.1) (fun k => 2 - k.1) (0, μt, ai) ⟨rfl, Split.ent' (by repeat (first | exact Split.nil | (apply Split.cons; (repeat (first | with_reducible exact Take.here | apply Take.there))))), Nat.zero_le _, Le.refl _, fun d => by have := hle0 d; show ai d ≤ K0 + 3 * 0; omega⟩ ?_
          rintro ⟨i2, μf, af⟩ env L ⟨rfl, hLf, hif, hlf, haf⟩
          dsimp only at hLf hif hlf haf ⊢
          refine swp_ent hLf ?_
          refine swp_seq ?_
          refine swp_region ?_
          refine s_pu (pu_lss rfl rfl) ?_
          refine swl_sub _ (.cons (t := 1) rfl (.cons (t := 7) rfl (.cons (t := 16) rfl (.cons (t := 17) rfl (.cons (t := 124) rfl (.cons (t := 125) rfl (.cons (t := 126) rfl (.cons (t := 127) rfl .nil)))))))) ?_
          refine swl_nil ?_
          refine then_n ?_
          refine swp_seq ?_
          refine swp_cond (b := _) rfl (fun h127 => ?_) (fun h127 => ?_)
          · skip   -- 127 T
            have h127' : i2 < 2 := by have := of_decide_eq_true h127; omega
            obtain ⟨f, hf, hbf, A, hA, hA1, hA2, hA3, hA4⟩ : ∃ f, ([Value.func (.func 35) #[] #[], .func (.func 39) #[] #[]] : List Value)[i2]? = some (.func (.func f) #[] #[]) ∧ Body Tryd.prog f ∧ ∃ A : List Int → List Int,
                (∀ (μ' : PH) (a0 : Nat → Nat) (u : Value) (ys : List Int), Le μ2 μ' → (∀ d, a0 d ≤ 4611686018427387904) → Row μ' u 1 ys.length (ys.flatMap (icsk .i64)) → (∀ c, c ∈ xs ↔ c ∈ ys) → ys ≠ [] → Spec Tryd.prog f [gV p, u] [gA p v' vn Gm.length a0, ro μ'] (fun r L => ∃ lv zs μ'', askedIn (nums Gm).length zs ∧ Le μ' μ'' ∧ r = .tuple #[lv, .int .i64 0] ∧ L = [own 3 1 lv (A ys).length ((A ys).flatMap (icsk .i64)), gA p v' vn Gm.length (zs.foldl ask1 a0), ro μ''])) ∧
                A T = A xs ∧ indA (nums Gm) (A xs) = A xs ∧ askedE (nums Gm).length [A xs] = 0 ∧ (A xs).length ≤ Gm.length := by
              obtain rfl | rfl : i2 = 0 ∨ i2 = 1 := by omega
              · refine ⟨35, rfl, inferInstance, manyA (nums Gm), fun μ' a0 u ys hl h0 hu hm hne => ?_, (manyA_ext hTm hxne' hTne).1.symm, (many_ind hgood hxM).1, (many_ind hgood hxM).2, by have := manyA_len (nums Gm) xs; omega⟩
                have h := g_many (hS.le hl) p a0 h0 u ys (hT2.le hl) hu
                rw [← (manyA_ext hm hxne' hne).2, hxM] at h
                exact h
              · refine ⟨39, rfl, inferInstance, indA (nums Gm), fun μ' a0 u ys hl h0 hu hm hne => ?_, (indA_ext hTm).1.symm, (ind_ind hxE).1, (ind_ind hxE).2, by have := indA_len (nums Gm) xs; omega⟩
                have h := g_indep (hS.le hl) p a0 h0 u ys (hT2.le hl) hu
                rw [← (indA_ext hm).2, hxE] at h
                exact h
            have l2f := l2t.trans hlf
            refine swp_skip ?_
            refine then_n ?_
            refine swp_seq ?_
            refine swp_block ?_
            refine swp_seq ?_
            refine swp_region ?_
            refine s_pu (pu_indexAddr i2 rfl rfl (by omega) (by omega) (by omega)) ?_
            refine s_rd (rd_load rfl hf) ?_
            refine s_pu (pu_assign rfl) ?_
            refine swl_sub _ (.cons (t := 1) rfl (.cons (t := 7) rfl (.cons (t := 16) rfl (.cons (t := 17) rfl (.cons (t := 19) rfl (.cons (t := 124) rfl (.cons (t := 125) rfl (.cons (t := 126) rfl .nil)))))))) ?_
            refine swl_nil ?_
            refine then_n ?_
            refine swp_seq ?_
            refine swp_region ?_
            refine s_pu (pu_move rfl) ?_
            refine s_pu (pu_move rfl) ?_
            refine s_pu (pu_iface rfl) ?_
            refine s_pu (pu_move rfl) ?_
            refine s_ef (ef_fn (hb := hbf) (hA μf af vx xs l2f (fun d => by have := haf d; omega) (rx.le l2f) (fun _ => Iff.rfl) hxne') rfl rfl (by repeat (first | exact Split.nil | (apply Split.cons; (repeat (first | with_reducible exact Take.here | apply Take.there)))))) ?_
            rintro v135 L1 ⟨lv, zs, μa, hz, ha, rfl, rfl⟩
            refine swl_app ?_
            have a1 := asked_le hz haf
            generalize zs.foldl ask1 af = A1' at *
            refine swl_share_own (v := lv) (μ := μa) (by repeat (first | exact Split.nil | (apply Split.cons; (repeat (first | with_reducible exact Take.here | apply Take.there))))) fun μb hb rl => ?_
            have l2b := l2f.trans (ha.trans hb)
            refine s_pu (pu_move rfl) ?_
            first | refine s_pu (pu_extractL rfl) ?_ | refine s_pu (pu_extract rfl rfl) ?_
            first | refine s_pu (pu_extractL rfl) ?_ | refine s_pu (pu_extract rfl rfl) ?_
            refine s_pu (pu_assign rfl) ?_
            refine s_pu (pu_assign rfl) ?_
            refine swl_sub _ (.cons (t := 1) rfl (.cons (t := 7) rfl (.cons (t := 16) rfl (.cons (t := 17) rfl (.cons (t := 19) rfl (.cons (t := 20) rfl (.cons (t := 21) rfl (.cons (t := 124) rfl (.cons (t := 125) rfl (.cons (t := 126) rfl .nil)))))))))) ?_
            refine swl_nil ?_
            refine then_n ?_
            refine swp_seq ?_
            refine swp_region ?_
            refine s_pu (pu_move rfl) ?_
            refine s_pu (pu_move rfl) ?_
            refine s_pu (pu_iface rfl) ?_
            refine s_pu (pu_move rfl) ?_
            refine s_ef (ef_fn (hb := hbf) (hA μb A1' v123 T l2b (fun d => by have := a1 d; omega) (rt.le (hlf.trans (ha.trans hb))) hTm hTne) rfl rfl (by repeat (first | exact Split.nil | (apply Split.cons; (repeat (first | with_reducible exact Take.here | apply Take.there)))))) ?_
            rintro v143 L1 ⟨lw, zt, μc, hzt, hc, rfl, rfl⟩
            refine swl_app ?_
            rw [hA1]
            have a2 := asked_le hzt a1
            generalize zt.foldl ask1 A1' = A2 at *
            refine swl_share_own (v := lw) (μ := μc) (by repeat (first | exact Split.nil | (apply Split.cons; (repeat (first | with_reducible exact Take.here | apply Take.there))))) fun μd hd rm => ?_
            have l2d := l2b.trans (hc.trans hd)
            refine s_pu (pu_move rfl) ?_
            first | refine s_pu (pu_extractL rfl) ?_ | refine s_pu (pu_extract rfl rfl) ?_
            first | refine s_pu (pu_extractL rfl) ?_ | refine s_pu (pu_extract rfl rfl) ?_
            refine s_pu (pu_assign rfl) ?_
            refine s_pu (pu_assign rfl) ?_
            refine swl_sub _ (.cons (t := 1) rfl (.cons (t := 7) rfl (.cons (t := 16) rfl (.cons (t := 17) rfl (.cons (t := 20) rfl (.cons (t := 21) rfl (.cons (t := 22) rfl (.cons (t := 23) rfl (.cons (t := 124) rfl (.cons (t := 125) rfl (.cons (t := 126) rfl .nil))))))))))) ?_
            refine swl_nil ?_
            refine then_n ?_
            refine swp_seq ?_
            refine swp_region ?_
            refine s_pu (pu_move rfl) ?_
            refine s_pu (pu_iface rfl) ?_
            refine s_pu (pu_move rfl) ?_
            refine s_ef (ef_fn (g_indep (hS.le l2d) p A2 (fun d => by have := a2 d; omega) lv (A xs) (hT2.le l2d) (rl.le (hc.trans hd))) rfl rfl (by repeat (first | exact Split.nil | (apply Split.cons; (repeat (first | with_reducible exact Take.here | apply Take.there)))))) ?_
            rintro v150 L1 ⟨ln, zu, μe, hzu, he, rfl, rfl⟩
            refine swl_app ?_
            rw [hA2, hA3]
            have a3 := asked_le hzu a2
            generalize zu.foldl ask1 A2 = A3 at *
            refine swl_share_own (v := ln) (μ := μe) (by repeat (first | exact Split.nil | (apply Split.cons; (repeat (first | with_reducible exact Take.here | apply Take.there))))) fun μg hg2 rn => ?_
            have l2g := l2d.trans (he.trans hg2)
            refine s_pu (pu_move rfl) ?_
            first | refine s_pu (pu_extractL rfl) ?_ | refine s_pu (pu_extract rfl rfl) ?_
            first | refine s_pu (pu_extractL rfl) ?_ | refine s_pu (pu_extract rfl rfl) ?_
            refine s_pu (pu_assign rfl) ?_
            refine s_pu (pu_assign rfl) ?_
            refine swl_sub _ (.cons (t := 1) rfl (.cons (t := 7) rfl (.cons (t := 16) rfl (.cons (t := 17) rfl (.cons (t := 20) rfl (.cons (t := 21) rfl (.cons (t := 22) rfl (.cons (t := 23) rfl (.cons (t := 24) rfl (.cons (t := 25) rfl (.cons (t := 124) rfl (.cons (t := 125) rfl (.cons (t := 126) rfl .nil))))))))))))) ?_
            refine swl_nil ?_
            refine then_n ?_
            refine swp_seq ?_
            refine swp_ent (Split.ent' (K := [gA p v' vn Gm.length A3, blk b124 45 [.func (.func 35) #[] #[], .func (.func 39) #[] #[]], ro μg]) (by repeat (first | exact Split.nil | (apply Split.cons; (repeat (first | with_reducible exact Take.here | apply Take.there)))))) ?_
            refine swp_region ?_
            refine s_pu (pu_move rfl) ?_
            refine s_pu (pu_neq rfl rfl) ?_
            refine s_pu (pu_move rfl) ?_
            refine s_split 155 rfl (fun h155 => by exfalso; simp at h155) (fun h155 => ?_)
            refine s_on rfl rfl ?_
            refine s_pu (pu_move rfl) ?_
            refine s_on rfl rfl ?_
            refine s_pu (pu_neq rfl rfl) ?_
            first | refine s_pu (pu_pick_t rfl rfl) ?_ | refine s_pu (pu_pick_f rfl rfl) ?_
            refine s_pu (pu_move rfl) ?_
            refine s_split 159 rfl (fun h159 => by exfalso; simp at h159) (fun h159 => ?_)
            refine s_on rfl rfl ?_
            refine s_pu (pu_move rfl) ?_
            refine s_on rfl rfl ?_
            refine s_pu (pu_neq rfl rfl) ?_
            first | refine s_pu (pu_pick_t rfl rfl) ?_ | refine s_pu (pu_pick_f rfl rfl) ?_
            refine s_pu (pu_move rfl) ?_
            refine s_split 163 rfl (fun h163 => by exfalso; simp at h163) (fun h163 => ?_)
            refine s_on rfl rfl ?_
            refine s_pu (pu_move rfl) ?_
            refine s_on rfl rfl ?_
            refine s_pu (pu_move rfl) ?_
            refine s_on rfl rfl ?_
            refine s_ef (ef_fn (samelist_i lv lw (A xs) (A xs) [ro μg] (Ints.row (rl.le (hc.trans (hd.trans (he.trans hg2))))) (Ints.row (rm.le (he.trans hg2)))) rfl rfl (by repeat (first | exact Split.nil | (apply Split.cons; (repeat (first | with_reducible exact Take.here | apply Take.there)))))) ?_
            rintro v166 L1 ⟨rfl, rfl⟩
            refine swl_app ?_
            refine s_on rfl rfl ?_
            refine s_pu (pu_not rfl) ?_
            first | refine s_pu (pu_pick_t rfl rfl) ?_ | refine s_pu (pu_pick_f rfl rfl) ?_
            refine s_pu (pu_move rfl) ?_
            refine s_split 169 rfl (fun h169 => by exfalso; simp at h169) (fun h169 => ?_)
            refine s_on rfl rfl ?_
            refine s_pu (pu_move rfl) ?_
            refine s_on rfl rfl ?_
            refine s_pu (pu_move rfl) ?_
            refine s_on rfl rfl ?_
            refine s_ef (ef_fn (samelist_i ln lv (A xs) (A xs) [ro μg] (Ints.row rn) (Ints.row (rl.le (hc.trans (hd.trans (he.trans hg2)))))) rfl rfl (by repeat (first | exact Split.nil | (apply Split.cons; (repeat (first | with_reducible exact Take.here | apply Take.there)))))) ?_
            rintro v172 L1 ⟨rfl, rfl⟩
            refine swl_app ?_
            refine s_on rfl rfl ?_
            refine s_pu (pu_not rfl) ?_
            first | refine s_pu (pu_pick_t rfl rfl) ?_ | refine s_pu (pu_pick_f rfl rfl) ?_
            refine swl_sub _ (.cons (t := 1) rfl (.cons (t := 7) rfl (.cons (t := 16) rfl (.cons (t := 17) rfl (.cons (t := 124) rfl (.cons (t := 125) rfl (.cons (t := 126) rfl (.cons (t := 174) rfl .nil)))))))) ?_
            refine swl_nil ?_
            refine then_n ?_
            refine swp_cond (b := _) rfl (fun h174 => by exfalso; simp at h174) (fun h174 => ?_)
            refine swp_skip ?_
            refine block_n ?_
            refine then_n ?_
            refine swp_region ?_
            refine s_pu (pu_add_as ((i2 + 1 : Nat) : Int) rfl rfl (by omega) (by omega) (by omega)) ?_
            refine s_pu (pu_move rfl) ?_
            refine swl_sub _ (.cons (t := 1) rfl (.cons (t := 7) rfl (.cons (t := 16) rfl (.cons (t := 17) rfl (.cons (t := 124) rfl (.cons (t := 125) rfl (.cons (t := 126) rfl .nil))))))) ?_
            refine swl_nil ?_
            exact then_n ⟨(i2 + 1, μg, A3), ⟨rfl, Split.ent' (by repeat (first | exact Split.nil | (apply Split.cons; (repeat (first | with_reducible exact Take.here | apply Take.there))))), h127', hlf.trans (ha.trans (hb.trans (hc.trans (hd.trans (he.trans hg2))))), fun d => by have := a3 d; show A3 d ≤ K0 + 3 * (i2 + 1); omega⟩, by show 2 - (i2 + 1) < 2 - i2; omega⟩
          · skip   -- 127 F
            have l2f := l2t.trans hlf
            obtain ⟨c0, hc0⟩ : ∃ c, xs[0]? = some c := ⟨_, List.getElem?_eq_getElem (by omega)⟩
            obtain ⟨ck, hck⟩ : ∃ c, xs[kk]? = some c := ⟨_, List.getElem?_eq_getElem hkl⟩
            obtain ⟨pb0, po0, pc0, hpv0, hpc0⟩ := (rx.le l2f).at_ hc0
            obtain ⟨pbk, pok, pck, hpvk, hpck⟩ := (rx.le l2f).at_ hck
            have hr0 := hxin c0 (List.mem_of_getElem? hc0)
            have hrk := hxin ck (List.mem_of_getElem? hck)
            obtain ⟨c0, rfl⟩ : ∃ k : Nat, c0 = k := ⟨c0.toNat, by omega⟩
            obtain ⟨ck, rfl⟩ : ∃ k : Nat, ck = k := ⟨ck.toNat, by omega⟩
            obtain ⟨hmt1, hmt2⟩ := many_two hgood (a := c0) (b := ck) (by omega) (by omega)
            refine swp_ent (Split.ent' (K := [gA p v' vn Gm.length af, ro μf]) (by repeat (first | exact Split.nil | (apply Split.cons; (repeat (first | with_reducible exact Take.here | apply Take.there)))))) ?_
            refine swp_exit ?_
            refine then_x ?_
            refine then_x ?_
            refine block_hit rfl ?_
            refine then_n ?_
            refine swp_seq ?_
            refine swp_draw [4, 8] _ [] (by simp only [List.append_nil]; exact Ent.refl _) (by kernel_rfl) ?_
            refine d_pu 0 rfl (pu_move rfl) (by kernel_rfl) (by kernel_rfl) (by kernel_rfl) ?_
            refine d_pu 1 rfl (pu_iface rfl) (by kernel_rfl) (by kernel_rfl) (by kernel_rfl) ?_
            refine d_pu 2 rfl (pu_move rfl) (by kernel_rfl) (by kernel_rfl) (by kernel_rfl) ?_
            refine d_pu 3 rfl (pu_indexAddr (po0 + 0 * 1) (congrArg some hpv0) rfl (by omega) (by omega) rfl) (by kernel_rfl) (by kernel_rfl) (by kernel_rfl) ?_
            refine d_rd 4 rfl (rd_ro rfl hpc0) rfl (by kernel_rfl) (by kernel_rfl) (by kernel_rfl) ?_
            refine d_pu 5 rfl (pu_move rfl) (by kernel_rfl) (by kernel_rfl) (by kernel_rfl) ?_
            refine d_pu 6 rfl (pu_move rfl) (by kernel_rfl) (by kernel_rfl) (by kernel_rfl) ?_
            refine d_pu 7 rfl (pu_indexAddr (pok + kk * 1) (congrArg some hpvk) rfl (by omega) (by omega) (by rw [Int.toNat_natCast])) (by kernel_rfl) (by kernel_rfl) (by kernel_rfl) ?_
            refine d_rd 8 rfl (rd_ro rfl hpck) rfl (by kernel_rfl) (by kernel_rfl) (by kernel_rfl) ?_
            first | refine d_fint 9 rfl (by kernel_rfl) (by kernel_rfl) (ef_bldS (qs := [(0, _), (1, _)]) rfl rfl rfl) ?_ | refine d_finf 9 rfl (by kernel_rfl) (by kernel_rfl) (ef_bldS (qs := [(0, _), (1, _)]) rfl rfl rfl) ?_
            intro b186
            refine d_share (b := b186) (μ := μf) (by repeat (first | exact Split.nil | (apply Split.cons; (repeat (first | with_reducible exact Take.here | apply Take.there))))) fun μq hq kq => ?_
            have rq := row_of_blk (n := 1) (l := 2) (cs := ([(c0 : Int), (ck : Int)] : List Int).flatMap (icsk .i64)) kq (by rfl) (by decide)
            have l2q := l2f.trans hq
            first | refine d_fint 10 rfl (by kernel_rfl) (by kernel_rfl) (ef_fn (g_many (hS.le l2q) p af (fun d => by have := haf d; omega) _ [(c0 : Int), (ck : Int)] (hT2.le l2q) rq) rfl rfl (by repeat (first | exact Split.nil | (apply Split.cons; (repeat (first | with_reducible exact Take.here | apply Take.there)))))) ?_ | refine d_finf 10 rfl (by kernel_rfl) (by kernel_rfl) (ef_fn (g_many (hS.le l2q) p af (fun d => by have := haf d; omega) _ [(c0 : Int), (ck : Int)] (hT2.le l2q) rq) rfl rfl (by repeat (first | exact Split.nil | (apply Split.cons; (repeat (first | with_reducible exact Take.here | apply Take.there)))))) ?_
            rintro v187 L1 ⟨lv, zs, μa, hz, ha, rfl, rfl⟩
            refine swd_app ?_
            refine d_pu 11 rfl (pu_move rfl) (by kernel_rfl) (by kernel_rfl) (by kernel_rfl) ?_
            first | refine d_pu 12 rfl (pu_extractL rfl) (by kernel_rfl) (by kernel_rfl) (by kernel_rfl) ?_ | refine d_pu 12 rfl (pu_extract rfl rfl) (by kernel_rfl) (by kernel_rfl) (by kernel_rfl) ?_
            first | refine d_pu 13 rfl (pu_extractL rfl) (by kernel_rfl) (by kernel_rfl) (by kernel_rfl) ?_ | refine d_pu 13 rfl (pu_extract rfl rfl) (by kernel_rfl) (by kernel_rfl) (by kernel_rfl) ?_
            refine d_pu 14 rfl (pu_assign rfl) (by kernel_rfl) (by kernel_rfl) (by kernel_rfl) ?_
            refine d_pu 15 rfl (pu_assign rfl) (by kernel_rfl) (by kernel_rfl) (by kernel_rfl) ?_
            refine d_sub _ (.cons (t := 1) rfl (.cons (t := 7) rfl (.cons (t := 16) rfl (.cons (t := 26) rfl (.cons (t := 27) rfl .nil))))) ?_
            first | refine d_nilt (by kernel_rfl) ?_ | refine d_nilf (by kernel_rfl) ?_
            refine then_n ?_
            refine swp_seq ?_
            rw [hmt1, hmt2]
            have a1 := asked_le hz haf
            generalize zs.foldl ask1 af = A1' at *
            refine swp_share_own (v := lv) (μ := μa) (by repeat (first | exact Split.nil | (apply Split.cons; (repeat (first | with_reducible exact Take.here | apply Take.there))))) fun μb hb rl => ?_
            have lfb := hq.trans (ha.trans hb)
            refine swp_ent (Split.ent' (K := [gA p v' vn Gm.length A1', ro μb]) (by repeat (first | exact Split.nil | (apply Split.cons; (repeat (first | with_reducible exact Take.here | apply Take.there)))))) ?_
            refine swp_draw [4, 8] _ [] (by simp only [List.append_nil]; exact Ent.refl _) (by kernel_rfl) ?_
            refine d_pu 0 rfl (pu_move rfl) (by kernel_rfl) (by kernel_rfl) (by kernel_rfl) ?_
            refine d_pu 1 rfl (pu_iface rfl) (by kernel_rfl) (by kernel_rfl) (by kernel_rfl) ?_
            refine d_pu 2 rfl (pu_move rfl) (by kernel_rfl) (by kernel_rfl) (by kernel_rfl) ?_
            refine d_pu 3 rfl (pu_indexAddr (po0 + 0 * 1) (congrArg some hpv0) rfl (by omega) (by omega) rfl) (by kernel_rfl) (by kernel_rfl) (by kernel_rfl) ?_
            refine d_rd 4 rfl (rd_ro rfl (hpc0.le lfb)) rfl (by kernel_rfl) (by kernel_rfl) (by kernel_rfl) ?_
            refine d_pu 5 rfl (pu_move rfl) (by kernel_rfl) (by kernel_rfl) (by kernel_rfl) ?_
            refine d_pu 6 rfl (pu_move rfl) (by kernel_rfl) (by kernel_rfl) (by kernel_rfl) ?_
            refine d_pu 7 rfl (pu_indexAddr (pok + kk * 1) (congrArg some hpvk) rfl (by omega) (by omega) (by rw [Int.toNat_natCast])) (by kernel_rfl) (by kernel_rfl) (by kernel_rfl) ?_
            refine d_rd 8 rfl (rd_ro rfl (hpck.le lfb)) rfl (by kernel_rfl) (by kernel_rfl) (by kernel_rfl) ?_
            first | refine d_fint 9 rfl (by kernel_rfl) (by kernel_rfl) (ef_fn (g_merge (hS.le (l2f.trans lfb)) p A1' (fun d => by have := a1 d; omega) c0 ck (hT2.le (l2f.trans lfb))) rfl rfl (by repeat (first | exact Split.nil | (apply Split.cons; (repeat (first | with_reducible exact Take.here | apply Take.there)))))) ?_ | refine d_finf 9 rfl (by kernel_rfl) (by kernel_rfl) (ef_fn (g_merge (hS.le (l2f.trans lfb)) p A1' (fun d => by have := a1 d; omega) c0 ck (hT2.le (l2f.trans lfb))) rfl rfl (by repeat (first | exact Split.nil | (apply Split.cons; (repeat (first | with_reducible exact Take.here | apply Take.there)))))) ?_
            rintro v200 L1 ⟨lw, zt, μc, hzt, hc, rfl, rfl⟩
            refine swd_app ?_
            refine d_pu 10 rfl (pu_move rfl) (by kernel_rfl) (by kernel_rfl) (by kernel_rfl) ?_
            first | refine d_pu 11 rfl (pu_extractL rfl) (by kernel_rfl) (by kernel_rfl) (by kernel_rfl) ?_ | refine d_pu 11 rfl (pu_extract rfl rfl) (by kernel_rfl) (by kernel_rfl) (by kernel_rfl) ?_
            first | refine d_pu 12 rfl (pu_extractL rfl) (by kernel_rfl) (by kernel_rfl) (by kernel_rfl) ?_ | refine d_pu 12 rfl (pu_extract rfl rfl) (by kernel_rfl) (by kernel_rfl) (by kernel_rfl) ?_
            refine d_pu 13 rfl (pu_assign rfl) (by kernel_rfl) (by kernel_rfl) (by kernel_rfl) ?_
            refine d_pu 14 rfl (pu_assign rfl) (by kernel_rfl) (by kernel_rfl) (by kernel_rfl) ?_
            refine d_sub _ (.cons (t := 26) rfl (.cons (t := 27) rfl (.cons (t := 28) rfl (.cons (t := 29) rfl .nil)))) ?_
            first | refine d_nilt (by kernel_rfl) ?_ | refine d_nilf (by kernel_rfl) ?_
            refine then_n ?_
            refine swp_seq ?_
            rw [onlyE_in (show c0 < (nums Gm).length by omega) (show ck < (nums Gm).length by omega)]
            refine swp_share_own (v := lw) (μ := μc) (by repeat (first | exact Split.nil | (apply Split.cons; (repeat (first | with_reducible exact Take.here | apply Take.there))))) fun μd hd rm => ?_
            refine swp_ent (Split.ent' (K := [ro μd]) (by repeat (first | exact Split.nil | (apply Split.cons; (repeat (first | with_reducible exact Take.here | apply Take.there)))))) ?_
            refine swp_region ?_
            refine s_pu (pu_move rfl) ?_
            refine s_pu (pu_eql rfl rfl) ?_
            refine s_pu (pu_move rfl) ?_
            refine s_split 205 rfl (fun h205 => ?_) (fun h205 => by exfalso; simp at h205)
            refine s_on rfl rfl ?_
            refine s_pu (pu_move rfl) ?_
            refine s_on rfl rfl ?_
            refine s_pu (pu_eql rfl rfl) ?_
            first | refine s_pu (pu_pick_t rfl rfl) ?_ | refine s_pu (pu_pick_f rfl rfl) ?_
            refine s_pu (pu_move rfl) ?_
            refine s_split 209 rfl (fun h209 => ?_) (fun h209 => by exfalso; simp at h209)
            refine s_on rfl rfl ?_
            refine s_pu (pu_move rfl) ?_
            refine s_on rfl rfl ?_
            refine s_pu (pu_move rfl) ?_
            refine s_on rfl rfl ?_
            refine s_ef (ef_fn (samelist_i lv lw _ _ [ro μd] (Ints.row (rl.le (hc.trans hd))) (Ints.row rm)) rfl rfl (by repeat (first | exact Split.nil | (apply Split.cons; (repeat (first | with_reducible exact Take.here | apply Take.there)))))) ?_
            rintro v212 L1 ⟨rfl, rfl⟩
            refine swl_app ?_
            first | refine s_pu (pu_pick_t rfl rfl) ?_ | refine s_pu (pu_pick_f rfl rfl) ?_
            refine s_pu (pu_assign rfl) ?_
            refine swl_sub _ (.cons (t := 6) rfl .nil) ?_
            refine swl_nil ?_
            refine then_n ?_
            refine swp_ret ?_
            exact done_ret [ro μd] (.tmp rfl .nil) ⟨congrArg Value.bool (decide_eq_true rfl), μd, [], h1.trans (h2.trans (l2f.trans (lfb.trans (hc.trans hd)))), rfl⟩ (by repeat (first | exact Split.nil | (apply Split.cons; (repeat (first | with_reducible exact Take.here | apply Take.there)))))
end SX
namespace Go.Proofs.YtieggbckcacihaaDoor
open Go.ChangeShapes Go.WideShapes Go.ChangeAt Go.RowKit
theorem ownKnobF : ownKnob Tryd.prog.godebug = none := by kernel_rfl
theorem gTab : Tryd.prog.globalNamed "math/bits.deBruijn64tab" = some 0 := by kernel_rfl
theorem tTab : (Tryd.prog.globals[0]?).map (·.type) = some 136 := by kernel_rfl
theorem datum {H : Type} : (Rows.laid_math_bits_deBruijn64tab : DataW H) = .agg (Lib.deBruijn64tab.map fun n => .lit (.int .u8 (n : Nat))) := rfl
theorem tab_of {W : World} (h : laidMetH Tryd.prog Rows.walkAncestorRow.laid W) : SX.RowAt (fun b => W.heap[b]?) 0 0 SX.tabV := by
  rw [MakeChecks.laidMetH_plain _ _ _ (by kernel_rfl)] at h
  obtain ⟨ps, ⟨g0, t0, cs0, f0, p0, q0, hg0, ht0, hv0, hd0, _, _⟩, _, _⟩ := h
  obtain rfl := Option.some.inj (gTab.symm.trans hg0)
  obtain rfl := Option.some.inj (tTab.symm.trans ht0)
  obtain ⟨xs, m, rfl, hx, _, hn, hel⟩ := DataW.trod_array Tryd.underlying136 hd0
  simp only [Prod.mk.injEq] at hx
  have hx1 := hx.1
  rw [datum] at hx1
  simp only [DataW.agg.injEq] at hx1
  have c5 : Tryd.prog.cellsOf 5 = 1 := by kernel_rfl
  have hlen : Lib.deBruijn64tab.length = 64 := rfl
  intro j u hj
  have hj64 : j < 64 := by
    have := (List.getElem?_eq_some_iff.1 hj).1
    simpa [SX.tabV, hlen] using this
  obtain ⟨k, hk⟩ : ∃ k, Lib.deBruijn64tab[j]? = some k := ⟨_, List.getElem?_eq_getElem (by omega)⟩
  have hu : u = .int .u8 (k : Nat) := by
    unfold SX.tabV at hj
    rw [List.getElem?_map, hk] at hj
    exact (Option.some.inj hj).symm
  obtain ⟨y, hy⟩ : ∃ y, xs[j]? = some y := ⟨_, List.getElem?_eq_getElem (by omega)⟩
  have h1 := hel j hj64
  rw [hy, c5, Nat.mul_one] at h1
  obtain ⟨n, e1, e2, _⟩ := DataW.trod_int Tryd.underlying5 h1
  have e3 : (xs.map (·.1))[j]? = some (.lit (.int .u8 n)) := by rw [List.getElem?_map, hy, e2]; rfl
  rw [← hx1, List.getElem?_map, hk] at e3
  have hnk : n = (k : Int) := by
    have := Option.some.inj e3
    simpa using this.symm
  have hc := World.var?_cell hg0 hv0 j
  have hcs : cs0[j]? = some (.int .u8 n) := by
    have : (cs0.toList.drop j)[0]? = some (.int .u8 n) := by
      have := congrArg (·[0]?) e1
      simpa [List.getElem?_take] using this
    rw [List.getElem?_drop, Nat.add_zero] at this
    simpa using this
  rw [hcs] at hc
  rw [Nat.zero_add, hu, ← hnk]
  exact (SX.spot_of_cell hc).2
theorem door_met (os : Os) (args : Array Value) : laidMetH Tryd.prog Rows.walkAncestorRow.laid ((World.doorLaid Tryd.prog 400 os).forCall (fun _ _ => 0) ⟨#[], args, []⟩).memory :=
  laidMetH_of_parts3 (fuel := 8) (laidMet_of_run' 8 (by kernel_rfl) (by kernel_rfl)) (by kernel_rfl) (by kernel_rfl)
end Go.Proofs.YtieggbckcacihaaDoor
