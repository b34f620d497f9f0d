/- A part of the proof: walks of the program's functions, and the rules by which they go. -/
import Derived.Test.YtllgakmdhjgmoaaGreatB4978209c
import Derived.Test.YtllgakmdhjgmoaaGreatBd9eac427
import Derived.Test.YtllgakmdhjgmoaaGreatB0ca829ae
namespace SX
open Go Go.Proofs
def brk (k : Nat) (W : Assn) : Nat → Assn := fun i => if i = k then W else (fun _ => False : Assn)
theorem brk_hit (k : Nat) (W : Assn) : brk k W k = W := if_pos rfl
theorem brk_miss {k i : Nat} (W : Assn) (h : ¬ i = k) {m : PH} (hm : brk k W i m) : False := by
  have e : brk k W i = (fun _ => False : Assn) := if_neg h
  rw [e] at hm; exact hm
abbrev logN : ByteArray := ⟨#[108, 111, 103]⟩
/-- the rest of the log is cut off -/
def cutRest (d : Dk) (n len : Nat) : Dk × Int := if n = len then (d, 0) else cutD d logN (n : Nat)
def settleD (d : Dk) (n len : Nat) : Dk × Int :=
  if (cutRest d n len).2 ≠ 0 then cutRest d n len else
  if (syncD (cutRest d n len).1 logN).2 ≠ 0 then syncD (cutRest d n len).1 logN else syncNamesD (syncD (cutRest d n len).1 logN).1
abbrev recL (q b5 b3 b2 p : Nat) (W : SW) (d : Dk) (n : Nat) (s : List UInt8) : List Assn := [FSA q d, blk b5 3 [.int .i64 (n : Nat)], blk b3 9 [.string (str s)], blk b2 31 [pv p], stH p W]
theorem rec1_spec (b5 b3 b2 p : Nat) (W : SW) (d : Dk) (hd : d.Ok) (n : Nat) (s : List UInt8) : Spec Tryz.prog 84 [pv b5, pv b3, pv b2] (recL W.q b5 b3 b2 p W d n s) (fun r L => r = .int .i64 (cutRest d n s.length).2 ∧ L = recL W.q b5 b3 b2 p W (cutRest d n s.length).1 n s) := by
 refine Spec.of 14 Tryz.func84 rfl rfl rfl ?_
 refine swp_sr ?_
 refine s_as rfl ?_
 refine swl_sub _ (sc0 0 rfl (sc0 1 rfl (sc0 2 rfl .nil))) ?_
 refine swl_nn ?_
 refine swp_seq ?_
 refine swp_sr ?_
 refine s_rd (rd_load rfl rfl) ?_
 refine s_rd (rd_load rfl rfl) ?_
 refine s_pu (pu_strln rfl) ?_
 refine s_pu (pu_eql rfl rfl) ?_
 refine swl_sub _ (sc0 0 rfl (sc0 2 rfl (sc0 7 rfl .nil))) ?_
 refine swl_nn ?_
 refine swp_cond (b := _) rfl (fun h7 => ?_) (fun h7 => ?_)
 ·skip
  refine swp_sr ?_
  refine s_as rfl ?_
  refine swl_sub _ (sc0 3 rfl .nil) ?_
  refine swl_nn ?_
  refine swp_ret ?_
  refine then_r ?_
  have h7' : n = s.length := by have := of_decide_eq_true h7; omega
  have e : cutRest d n s.length = (d, 0) := by unfold cutRest; rw [if_pos h7']
  rw [e]
  exact done_ret (recL W.q b5 b3 b2 p W d n s) (.tmp rfl .nil) ⟨rfl, rfl⟩ sp0
 ·skip
  have h7' : ¬ n = s.length := fun e => (of_decide_eq_false h7) om0
  have e : cutRest d n s.length = cutD d logN (n : Nat) := by unfold cutRest; rw [if_neg h7']
  rw [e]
  refine swp_skip ?_
  refine then_n ?_
  refine swp_seq ?_
  refine swp_draw [0, 3, 4] _ [] (by simp only [List.append_nil]; exact Ent.refl _) kr0 ?_
  refine d_rd 0 rfl (rd_load rfl rfl) rfl kr0 kr0 kr0 ?_
  refine d_pu 1 rfl (pu_nilCheck rfl) kr0 kr0 kr0 ?_
  refine d_pu 2 rfl (pu_fieldAddr0 rfl) kr0 kr0 kr0 ?_
  refine d_rd 3 rfl (rd_load rfl rfl) rfl kr0 kr0 kr0 ?_
  refine d_rd 4 rfl (rd_load rfl rfl) rfl kr0 kr0 kr0 ?_
  refine d_fint 5 rfl kr0 kr0 (ef_fn (cut_spec W.q d hd logN (n : Nat)) rfl rfl sp0) ?_
  rintro v13 L1 ⟨rfl, rfl⟩
  refine swd_app ?_
  refine d_pu 6 rfl (pu_assign rfl) kr0 kr0 kr0 ?_
  refine d_sub _ (sc0 3 rfl .nil) ?_
  refine d_nilf kr0 ?_
  refine then_n ?_
  refine swp_ret ?_
  exact done_ret (recL W.q b5 b3 b2 p W (cutD d logN (n : Nat)).1 n s) (.tmp rfl .nil) ⟨rfl, rfl⟩ sp0
theorem rec2_spec (b5 b3 b2 p : Nat) (W : SW) (d : Dk) (hd : d.Ok) (n : Nat) (s : List UInt8) : Spec Tryz.prog 86 [pv b2] (recL W.q b5 b3 b2 p W d n s) (fun r L => r = .int .i64 (syncD d logN).2 ∧ L = recL W.q b5 b3 b2 p W (syncD d logN).1 n s) := by
 refine Spec.of 7 Tryz.func86 rfl rfl rfl ?_
 refine swp_sr ?_
 refine s_as rfl ?_
 refine swl_sub _ (sc0 0 rfl .nil) ?_
 refine swl_nn ?_
 refine swp_sr ?_
 refine s_rd (rd_load rfl rfl) ?_
 refine s_pu (pu_nilCheck rfl) ?_
 refine s_pu (pu_fieldAddr0 rfl) ?_
 refine s_rd (rd_load rfl rfl) ?_
 refine s_ef (ef_fn (sync_spec W.q d hd logN) rfl rfl sp0) ?_
 rintro v6 L1 ⟨rfl, rfl⟩
 refine swl_app ?_
 refine s_as rfl ?_
 refine swl_sub _ (sc0 1 rfl .nil) ?_
 refine swl_nn ?_
 refine swp_ret ?_
 exact done_ret (recL W.q b5 b3 b2 p W (syncD d logN).1 n s) (.tmp rfl .nil) ⟨rfl, rfl⟩ sp0
theorem rec3_spec (b5 b3 b2 p : Nat) (W : SW) (d : Dk) (hd : d.Ok) (n : Nat) (s : List UInt8) : Spec Tryz.prog 38 [pv W.q] (recL W.q b5 b3 b2 p W d n s) (fun r L => r = .int .i64 (syncNamesD d).2 ∧ L = recL W.q b5 b3 b2 p W (syncNamesD d).1 n s) :=
  Spec.mono (Spec.fr (syncn_spec W.q d hd) [blk b5 3 [.int .i64 (n : Nat)], blk b3 9 [.string (str s)], blk b2 31 [pv p], stH p W]) (by rintro r L ⟨L', ⟨rfl, rfl⟩, rfl⟩; exact ⟨rfl, rfl⟩)
theorem settle_steps (b5 b3 b2 p : Nat) (W : SW) (d : Dk) (hd : d.Ok) (n : Nat) (s : List UInt8) :
    StepsF [.func (.func 84) #[] #[pv b5, pv b3, pv b2], .func (.func 86) #[] #[pv b2], .func (.func 38) #[pv W.q] #[]] (recL W.q b5 b3 b2 p W d n s) (fun e L => e = (settleD d n s.length).2 ∧ L = recL W.q b5 b3 b2 p W (settleD d n s.length).1 n s) := by
  have hd1 : (cutRest d n s.length).1.Ok := by unfold cutRest; split; exact hd; exact cutD_ok hd _ _
  refine ⟨84, inferInstance, [], [pv b5, pv b3, pv b2], rfl, Spec.mono (rec1_spec b5 b3 b2 p W d hd n s) ?_⟩
  rintro r L ⟨rfl, rfl⟩
  refine ⟨_, rfl, ?_⟩
  by_cases h1 : (cutRest d n s.length).2 = 0
  · refine .inl ⟨h1, 86, inferInstance, [], [pv b2], rfl, Spec.mono (rec2_spec b5 b3 b2 p W _ hd1 n s) ?_⟩
    rintro r L ⟨rfl, rfl⟩
    refine ⟨_, rfl, ?_⟩
    by_cases h2 : (syncD (cutRest d n s.length).1 logN).2 = 0
    · refine .inl ⟨h2, 38, inferInstance, [pv W.q], [], rfl, Spec.mono (rec3_spec b5 b3 b2 p W _ (syncD_ok hd1 _) n s) ?_⟩
      rintro r L ⟨rfl, rfl⟩
      have e : settleD d n s.length = syncNamesD (syncD (cutRest d n s.length).1 logN).1 := by unfold settleD; rw [if_neg (not_not_intro h1), if_neg (not_not_intro h2)]
      refine ⟨_, rfl, ?_⟩
      by_cases h3 : (syncNamesD (syncD (cutRest d n s.length).1 logN).1).2 = 0
      · exact .inl ⟨h3, by rw [e]; exact ⟨h3.symm, rfl⟩⟩
      · exact .inr ⟨h3, by rw [e]; exact ⟨rfl, rfl⟩⟩
    · have e : settleD d n s.length = syncD (cutRest d n s.length).1 logN := by unfold settleD; rw [if_neg (not_not_intro h1), if_pos h2]
      exact .inr ⟨h2, by rw [e]; exact ⟨rfl, rfl⟩⟩
  · have e : settleD d n s.length = cutRest d n s.length := by unfold settleD; rw [if_pos h1]
    exact .inr ⟨h1, by rw [e]; exact ⟨rfl, rfl⟩⟩
/-- the store while its log is read -/
abbrev RecX (μ : PH) (W : SW) (l : List Fm) : Type := {x : SW × PH // Le μ x.2 ∧ x.1.Ok x.2 ∧ x.1.q = W.q ∧ x.1.dead = W.dead ∧ stands W.pl l = some x.1.pl}
abbrev recK (q b5 b3 b2 p : Nat) (d : Dk) (s : List UInt8) (n : Nat) (x : SW × PH) : List Assn := recL q b5 b3 b2 p x.1 d n s ++ [ttA x.1, ccA x.1, ro x.2]
def recC (μ : PH) (W : SW) (b5 b3 b2 p : Nat) (d : Dk) (s : List UInt8) (l : List Fm) : Assn := exA fun x : RecX μ W l => recK W.q b5 b3 b2 p d s (sizeF l) x.1
abbrev FinX (μ : PH) (W : SW) (l : List Fm) : Type := {x : SW × PH // Le μ x.2 ∧ x.1.Ok x.2 ∧ x.1.q = W.q ∧ x.1.dead = W.dead ∧ x.1.pl = (runS W.pl l).1}
def recF (μ : PH) (W : SW) (b5 b3 b2 p : Nat) (d : Dk) (s : List UInt8) : Assn := exA fun x : FinX μ W (scan s) => recK W.q b5 b3 b2 p d s (runS W.pl (scan s)).2 x.1
theorem StandQ.two {μ μ' : PH} {W W' : SW} {f : Fm} {r : Value} (h : StandQ μ W f r W' μ') : ∃ b : Bool, r = .bool b ∧ (b = false → stand1 W.pl f = none ∧ W'.pl = W.pl) ∧ (b = true → stand1 W.pl f = some W'.pl) := by
  obtain ⟨_, _, _, _, h⟩ := h
  rcases h with ⟨h1, h2, h3⟩ | ⟨s, h1, h2, h3⟩
  · exact ⟨false, h2, fun _ => ⟨h1, h3⟩, fun k => (by cases k)⟩
  · exact ⟨true, h2, fun k => (by cases k), fun _ => by rw [h3]; exact h1⟩
set_option maxHeartbeats 4000000 in
theorem recover_spec (μ : PH) (p : Nat) (W : SW) (hW : W.Ok μ) (d : Dk) (hd : d.Ok) (s : List UInt8) (hs : s.length ≤ 1073741824) : Spec Tryz.prog 39 [pv p, .string (str s)] [FSA W.q d, stH p W, ttA W, ccA W, ro μ]
  (fun r L => ∃ W' μ', Le μ μ' ∧ W'.Ok μ' ∧ W'.q = W.q ∧ W'.dead = W.dead ∧ W'.pl = (runS W.pl (scan s)).1 ∧ r = .int .i64 (settleD d (runS W.pl (scan s)).2 s.length).2 ∧ L = [FSA W.q (settleD d (runS W.pl (scan s)).2 s.length).1, stH p W', ttA W', ccA W', ro μ']) := by
 refine Spec.of 29 Tryz.func39 rfl rfl rfl ?_
 refine swp_sr ?_
 refine s_ef (ef_box rfl rfl) ?_
 intro b2
 refine s_ef (ef_box rfl rfl) ?_
 intro b3
 refine s_as rfl ?_
 refine swl_sub _ (sc0 2 rfl (sc0 3 rfl .nil)) ?_
 refine swl_nn ?_
 refine swp_sr ?_
 refine s_ef (ef_alloc) ?_
 intro b5
 refine s_ef0 (ef_store rfl rfl rfl) ?_
 refine swl_sub _ (sc0 2 rfl (sc0 3 rfl (sc0 5 rfl .nil))) ?_
 refine swl_nn ?_
 refine swp_cut (fun env L => Sub env [(2, pv b2), (3, pv b3), (5, pv b5)] ∧ Ent L [recF μ W b5 b3 b2 p d s]) ?_ ?_
 ·skip
  refine swp_sr ?_
  refine s_rd (rd_load rfl rfl) ?_
  refine s_ef (ef_fn (each_spec s) rfl rfl sp0) ?_
  rintro v9 L1 ⟨be, rfl, rfl⟩
  refine swl_app ?_
  refine swl_sub _ (sc0 2 rfl (sc0 3 rfl (sc0 5 rfl (sc0 9 rfl .nil)))) ?_
  refine swl_nn ?_
  refine swp_block ?_
  refine swp_rangeK (each_iter be s hs) (B := recK W.q b5 b3 b2 p d s 0 (W, μ)) (fun pre => recC μ W b5 b3 b2 p d s (pre.map (·.2))) (fun _ => False) (brk 0 (recF μ W b5 b3 b2 p d s)) rfl rfl (fun _ => rfl) ((Split.ent (K := [blk be 9 [.string (str s)], FSA W.q d, blk b5 3 [.int .i64 0], blk b3 9 [.string (str s)], blk b2 31 [pv p], stH p W, ttA W, ccA W, ro μ]) sp0).trans (by rw [List.append_nil]; exact Ent.refl _)) (ent_ex1 (F := fun x : RecX μ W [] => recK W.q b5 b3 b2 p d s 0 x.1) ⟨(W, μ), Le.refl _, hW, rfl, rfl, rfl⟩) ?_ ?_ ?_ ?_
  ·skip
   rintro ln pre x ⟨⟨post, hpost⟩, hx1, hx2, hx3⟩
   refine swp_ex fun ⟨⟨W1, μ1⟩, h1, h2, h3, h4, h5⟩ => ?_
   refine swp_app ?_
   dsimp only at h1 h2 h3 h4 h5 ⊢
   simp only [recK, recL, List.cons_append, List.nil_append]
   refine swp_sr ?_
   refine s_as rfl ?_
   refine swl_sub _ (sc0 2 rfl (sc0 5 rfl (sc0 6 rfl (sc0 11 rfl .nil)))) ?_
   refine swl_nn ?_
   refine swp_region ?_
   refine s_ef (ef_alloc) ?_
   intro b7
   refine s_ef0 (ef_storeA rfl rfl rfl rfl) ?_
   refine swl_sub _ (sc0 2 rfl (sc0 5 rfl (sc0 6 rfl (sc0 7 rfl .nil)))) ?_
   refine swl_nn ?_
   refine swp_block ?_
   refine swp_seq ?_
   refine swp_sr ?_
   refine s_rd (rd_load rfl rfl) ?_
   refine s_rd (rd_loadW rfl rfl) ?_
   refine s_ef (ef_fn (stand_spec μ1 p W1 h2 x.2 om0) rfl rfl sp0) ?_
   rintro v14 L1 ⟨W2, μ2, hst, rfl⟩
   obtain ⟨bv, rfl, hb1, hb2⟩ := hst.two
   obtain ⟨g1, g2, g3, g4, _⟩ := hst
   refine swl_app ?_
   refine s_pu (pu_not rfl) ?_
   refine swl_sub _ (sc0 5 rfl (sc0 6 rfl (sc0 7 rfl (sc0 15 rfl .nil)))) ?_
   refine swl_nn ?_
   refine swp_cond (b := _) rfl (fun h15 => ?_) (fun h15 => ?_)
   ·skip
    refine swp_exit ?_
    refine then_x ?_
    refine block_miss rfl ?_
    refine rnd_x ?_
    have hbv : bv = false := by simpa using h15
    obtain ⟨k1, k2⟩ := hb1 hbv
    have hrun : runS W.pl (scan s) = (W1.pl, sizeF (pre.map (·.2))) := by rw [hpost]; exact runS_stop h5 k1
    rw [brk_hit]
    refine (Split.ent' (K := [FSA W.q d, blk b5 3 [.int .i64 (sizeF (pre.map (·.2)) : Nat)], blk b3 9 [.string (str s)], blk b2 31 [pv p], stH p W2, ttA W2, ccA W2, ro μ2]) sp0).trans ?_
    have e2 : sizeF (pre.map (·.2)) = (runS W.pl (scan s)).2 := by rw [hrun]
    rw [e2]
    exact ent_ex1 (F := fun x : FinX μ W (scan s) => recK W.q b5 b3 b2 p d s (runS W.pl (scan s)).2 x.1) ⟨(W2, μ2), h1.trans g1, g2, g3.trans h3, g4.trans h4, by rw [hrun]; exact k2⟩
   ·skip
    refine swp_skip ?_
    refine then_n ?_
    refine swp_region ?_
    refine s_mv rfl ?_
    refine s_rd (rd_loadW rfl rfl) ?_
    have hsz : x.1 + (x.2.2.length + 9) = sizeF ((pre ++ [x]).map (·.2)) := by
     rw [List.map_append, sizeF_app, ← hx1]
     show _ = x.1 + (x.2.2.length + 9 + 0)
     omega
    refine s_ef (ef_fn (fsize_spec x.2 hx2) rfl rfl sp0) ?_
    rintro v18 L2 ⟨rfl, rfl⟩
    refine swl_app ?_
    refine s_pu (pu_add_as ((sizeF ((pre ++ [x]).map (·.2)) : Nat) : Int) rfl rfl om0 om0 om0) ?_
    refine s_ef0 (ef_store rfl rfl rfl) ?_
    refine swl_sub _ .nil ?_
    refine swl_nil ?_
    refine block_n ?_
    refine rnd_n ?_
    have hbv : bv = true := by simpa using h15
    have k1 := hb2 hbv
    refine (Split.ent' (K := [FSA W.q d, blk b5 3 [.int .i64 (sizeF ((pre ++ [x]).map (·.2)) : Nat)], blk b3 9 [.string (str s)], blk b2 31 [pv p], stH p W2, ttA W2, ccA W2, ro μ2]) sp0).trans ?_
    exact ent_ex1 (F := fun y : RecX μ W ((pre ++ [x]).map (·.2)) => recK W.q b5 b3 b2 p d s (sizeF ((pre ++ [x]).map (·.2))) y.1) ⟨(W2, μ2), h1.trans g1, g2, g3.trans h3, g4.trans h4, by rw [List.map_append]; exact stands_snoc h5 k1⟩
  ·skip
   rintro ys hys
   refine block_n ?_
   refine then_n ⟨⟨rfl, rfl, rfl, trivial⟩, ?_⟩
   rw [hys]
   refine ent_open fun ⟨⟨W1, μ1⟩, h1, h2, h3, h4, h5⟩ => ?_
   have hrun := runS_all h5
   have e2 : sizeF (scan s) = (runS W.pl (scan s)).2 := by rw [hrun]
   rw [e2]
   simp only [recK, recL, List.cons_append, List.nil_append]
   refine (Split.ent' (K := [FSA W.q d, blk b5 3 [.int .i64 ((runS W.pl (scan s)).2 : Nat)], blk b3 9 [.string (str s)], blk b2 31 [pv p], stH p W1, ttA W1, ccA W1, ro μ1]) sp0).trans ?_
   exact ent_ex1 (F := fun x : FinX μ W (scan s) => recK W.q b5 b3 b2 p d s (runS W.pl (scan s)).2 x.1) ⟨(W1, μ1), h1, h2, h3, h4, by rw [hrun]⟩
  ·exact swp_fact (p := False) (fun m h => by obtain ⟨_, _, h, _⟩ := h; exact h) False.elim
  ·intro j
   by_cases hj : j = 0
   ·subst hj
    refine swp_exit ?_
    refine block_hit rfl ?_
    exact then_n ⟨⟨rfl, rfl, rfl, trivial⟩, by rw [brk_hit]; exact Split.ent' sp0⟩
   ·exact swp_fact (p := False) (fun m h => by obtain ⟨_, _, h, _⟩ := h; exact brk_miss _ hj h) False.elim
 rintro env L ⟨hsub, hE⟩
 refine swp_sub _ hsub ?_
 refine swp_ent hE ?_
 clear hsub hE env L
 refine swp_ex fun ⟨⟨W1, μ1⟩, h1, h2, h3, h4, h5⟩ => ?_
 refine swp_app ?_
 dsimp only at h1 h2 h3 h4 h5 ⊢
 simp only [recK, recL, List.cons_append, List.nil_append]
 generalize (runS W.pl (scan s)).2 = n at *
 rw [← h3]
 refine swp_sr ?_
 refine s_pu (pu_func (vs := []) (us := [_, _, _]) rfl rfl) ?_
 refine s_pu (pu_func (vs := []) (us := [_]) rfl rfl) ?_
 refine s_rd (rd_load rfl rfl) ?_
 refine s_pu (pu_nilCheck rfl) ?_
 refine s_pu (pu_fieldAddr0 rfl) ?_
 refine s_rd (rd_load rfl rfl) ?_
 refine s_pu (pu_func (vs := [_]) (us := []) rfl rfl) ?_
 refine s_ef (ef_bldS (qs := [(0, _), (1, _), (2, _)]) rfl rfl rfl) ?_
 intro b27
 refine s_ef (ef_fn (first_spec b27 3 [.func (.func 84) #[] #[pv b5, pv b3, pv b2], .func (.func 86) #[] #[pv b2], .func (.func 38) #[pv W1.q] #[]] (recL W1.q b5 b3 b2 p W1 d n s) _ (by show 3 ≤ 1000; decide) (settle_steps b5 b3 b2 p W1 d hd n s)) rfl rfl sp0) ?_
 rintro v28 L1 ⟨e, L2, rfl, ⟨rfl, rfl⟩, rfl⟩
 refine swl_app ?_
 refine s_as rfl ?_
 refine swl_sub _ (sc0 4 rfl .nil) ?_
 refine swl_nn ?_
 refine swp_ret ?_
 exact done_ret [FSA W1.q (settleD d n s.length).1, stH p W1, ttA W1, ccA W1, ro μ1] (.tmp rfl .nil) ⟨W1, μ1, h1, h2, rfl, h4, h5, rfl, rfl⟩ sp0
end SX
namespace SX
open Go Go.Proofs
theorem readD_len {d : Dk} (h : d.Ok) (s : ByteArray) : (readD d s).1.length ≤ 1073741824 := by
  unfold readD
  split
  · exact Nat.zero_le _
  · split
    · exact Nat.zero_le _
    · rename_i k hk
      have := (Dk.fl_ok h k).1
      unfold mostF at this
      show (d.fl k).bytes.length ≤ _
      omega
theorem readD_err {d : Dk} {s : ByteArray} (h : (readD d s).2 ≠ 0) : (readD d s).1 = [] := by
  unfold readD at h ⊢
  split
  · rfl
  · split
    · rfl
    · rename_i h1 _ _ hk
      rw [if_neg h1, hk] at h
      exact absurd rfl h
/-- a new log -/
def freshD (d : Dk) : Dk × Int := if (createD d logN).2 ≠ 0 then createD d logN else syncNamesD (createD d logN).1
/-- the trees and commits of a log -/
def openS (d : Dk) : St2 := (runS ([], []) (scan (readD d logN).1)).1
def openD (d : Dk) : Dk × Int := if (readD d logN).2 = 6 then freshD d else if (readD d logN).2 ≠ 0 then (d, (readD d logN).2) else
  settleD d (runS ([], []) (scan (readD d logN).1)).2 (readD d logN).1.length
theorem open1_spec (b1 q : Nat) (d : Dk) (hd : d.Ok) (hw : Few d) : Spec Tryz.prog 36 [pv b1] [FSA q d, blk b1 27 [pv q]] (fun r L => r = .int .i64 (createD d logN).2 ∧ L = [FSA q (createD d logN).1, blk b1 27 [pv q]]) := by
 refine Spec.of 4 Tryz.func36 rfl rfl rfl ?_
 refine swp_sr ?_
 refine s_as rfl ?_
 refine swl_sub _ (sc0 0 rfl .nil) ?_
 refine swl_nn ?_
 refine swp_sr ?_
 refine s_rd (rd_load rfl rfl) ?_
 refine s_ef (ef_fn (create_spec q d hd hw logN) rfl rfl sp0) ?_
 rintro v3 L1 ⟨rfl, rfl⟩
 refine swl_app ?_
 refine s_as rfl ?_
 refine swl_sub _ (sc0 1 rfl .nil) ?_
 refine swl_nn ?_
 refine swp_ret ?_
 exact done_ret [FSA q (createD d logN).1, blk b1 27 [pv q]] (.tmp rfl .nil) ⟨rfl, rfl⟩ sp0
theorem fresh_steps (b1 q : Nat) (d : Dk) (hd : d.Ok) (hw : Few d) :
    StepsF [.func (.func 36) #[] #[pv b1], .func (.func 38) #[pv q] #[]] [FSA q d, blk b1 27 [pv q]] (fun e L => e = (freshD d).2 ∧ L = [FSA q (freshD d).1, blk b1 27 [pv q]]) := by
  have hd1 := createD_ok hd logN
  refine ⟨36, inferInstance, [], [pv b1], rfl, Spec.mono (open1_spec b1 q d hd hw) ?_⟩
  rintro r L ⟨rfl, rfl⟩
  refine ⟨_, rfl, ?_⟩
  by_cases h1 : (createD d logN).2 = 0
  · refine .inl ⟨h1, 38, inferInstance, [pv q], [], rfl, Spec.mono (Spec.fr (syncn_spec q _ hd1) [blk b1 27 [pv q]]) ?_⟩
    rintro r L ⟨L', ⟨rfl, rfl⟩, rfl⟩
    have e : freshD d = syncNamesD (createD d logN).1 := by unfold freshD; rw [if_neg (not_not_intro h1)]
    refine ⟨_, rfl, ?_⟩
    by_cases h3 : (syncNamesD (createD d logN).1).2 = 0
    · exact .inl ⟨h3, by rw [e]; exact ⟨h3.symm, rfl⟩⟩
    · exact .inr ⟨h3, by rw [e]; exact ⟨rfl, rfl⟩⟩
  · have e : freshD d = createD d logN := by unfold freshD; rw [if_pos h1]
    exact .inr ⟨h1, by rw [e]; exact ⟨rfl, rfl⟩⟩
/-- what opening answers -/
def OpenQ (μ : PH) (q : Nat) (d : Dk) (e : Int) (W : SW) (μ' : PH) : Prop := Le μ μ' ∧ W.Ok μ' ∧ W.q = q ∧ W.dead = false ∧ e = (openD d).2 ∧ (e = 0 → W.pl = openS d)
abbrev newSW (q : Nat) : SW := ⟨q, .slice none 0 0, .slice none 0 0, [], [], false⟩
theorem newSW_ok (μ : PH) (q : Nat) : (newSW q).Ok μ := ⟨⟨none, 0, rfl⟩, ⟨none, 0, rfl⟩, fun x hx => (by cases hx), fun x hx => (by cases hx), Nat.zero_le _, Nat.zero_le _⟩
set_option maxHeartbeats 4000000 in
theorem open_spec (μ : PH) (q : Nat) (d : Dk) (hd : d.Ok) (hw : Few d) : Spec Tryz.prog 9 [pv q] [FSA q d, ro μ] (fun r L => ∃ p W μ' e, OpenQ μ q d e W μ' ∧ r = .tuple #[if e = 0 then pv p else .pointer none, .int .i64 e] ∧ L = [FSA q (openD d).1, stH p W, ttA W, ccA W, ro μ']) := by
 refine Spec.of 34 Tryz.func9 rfl rfl rfl ?_
 refine swp_sr ?_
 refine s_ef (ef_box rfl rfl) ?_
 intro b1
 refine s_as rfl ?_
 refine s_as rfl ?_
 refine swl_sub _ (sc0 1 rfl .nil) ?_
 refine swl_nn ?_
 refine swp_seq ?_
 refine swp_sr ?_
 refine s_rd (rd_load rfl rfl) ?_
 refine s_pu (pu_ptr_eq_nil rfl rfl) ?_
 refine swl_sub _ (sc0 1 rfl (sc0 8 rfl .nil)) ?_
 refine swl_nn ?_
 refine swp_cond (b := _) rfl (fun h8 => by cases h8) (fun h8 => ?_)
 refine swp_skip ?_
 refine then_n ?_
 refine swp_sr ?_
 refine s_rd (rd_load rfl rfl) ?_
 refine s_pu (pu_bld (qs := [(0, _)]) rfl) ?_
 refine s_ef (ef_box rfl rfl) ?_
 intro b11
 refine s_as rfl ?_
 refine swl_sub _ (sc0 1 rfl (sc0 4 rfl .nil)) ?_
 refine swl_ent (own_nil_ent (e := 22) (n := 1)) ?_
 refine swl_ent (own_nil_ent (e := 25) (n := 2)) ?_
 refine swl_ent (L' := [FSA q d, stH b11 (newSW q), ttA (newSW q), ccA (newSW q), blk b1 27 [pv q], ro μ]) ?_ ?_
 ·show Ent [own 25 2 (.slice none 0 0) 0 [], own 22 1 (.slice none 0 0) 0 [], blk b11 83 [pv q, .slice none 0 0, .slice none 0 0, .bool false], blk b1 27 [pv q], FSA q d, ro μ] [FSA q d, blk b11 83 [pv q, .slice none 0 0, .slice none 0 0, .bool false], own 22 1 (.slice none 0 0) 0 [], own 25 2 (.slice none 0 0) 0 [], blk b1 27 [pv q], ro μ]
  exact Split.ent' sp0
 refine swl_nn ?_
 refine swp_sr ?_
 refine s_rd (rd_load rfl rfl) ?_
 refine s_ef (ef_fn (read_spec q d hd logN) rfl rfl sp0) ?_
 rintro v14 L1 ⟨rfl, rfl⟩
 rw [show (⟨(readD d logN).1.toArray⟩ : ByteArray) = str (readD d logN).1 from rfl]
 refine swl_app ?_
 refine s_mv rfl ?_
 refine s_pu (pu_extractL rfl) ?_
 refine s_pu (pu_extractL rfl) ?_
 refine s_as rfl ?_
 refine s_as rfl ?_
 refine swl_sub _ (sc0 1 rfl (sc0 4 rfl (sc0 5 rfl (sc0 6 rfl .nil)))) ?_
 refine swl_nn ?_
 refine swp_cut (fun env L => ∃ W μ' e, OpenQ μ q d e W μ' ∧ Sub env [(4, pv b11), (6, .int .i64 e)] ∧ Ent L [FSA q (openD d).1, stH b11 W, ttA W, ccA W, ro μ']) ?_ ?_
 ·skip
  refine swp_sr ?_
  refine s_mv rfl ?_
  refine swl_sub _ (sc0 1 rfl (sc0 4 rfl (sc0 5 rfl (sc0 6 rfl (sc0 17 rfl .nil))))) ?_
  refine swl_nn ?_
  refine swp_block ?_
  refine swp_sr ?_
  refine s_pu (pu_eql rfl rfl) ?_
  refine s_as rfl ?_
  refine swl_sub _ (sc0 1 rfl (sc0 4 rfl (sc0 5 rfl (sc0 6 rfl (sc0 17 rfl (sc0 18 rfl .nil)))))) ?_
  refine swl_nn ?_
  refine swp_cond (b := _) rfl (fun h18 => ?_) (fun h18 => ?_)
  ·skip
   refine swp_region ?_
   refine s_pu (pu_func (vs := []) (us := [_]) rfl rfl) ?_
   refine s_rd (rd_load rfl rfl) ?_
   refine s_pu (pu_func (vs := [_]) (us := []) rfl rfl) ?_
   refine s_ef (ef_bldS (qs := [(0, _), (1, _)]) rfl rfl rfl) ?_
   intro b23
   refine s_ef (ef_fn (first_spec b23 2 [.func (.func 36) #[] #[pv b1], .func (.func 38) #[pv q] #[]] [FSA q d, blk b1 27 [pv q]] _ (by show 2 ≤ 1000; decide) (fresh_steps b1 q d hd hw)) rfl rfl sp0) ?_
   rintro v24 L1 ⟨e, L2, rfl, ⟨rfl, rfl⟩, rfl⟩
   refine swl_app ?_
   refine s_as rfl ?_
   refine swl_sub _ (sc0 4 rfl (sc0 6 rfl .nil)) ?_
   refine swl_nil ?_
   refine block_n ?_
   have h18' : (readD d logN).2 = 6 := by simpa using h18
   have he : openD d = freshD d := by unfold openD; rw [if_pos h18']
   have hs : openS d = ([], []) := by unfold openS; rw [readD_err (by rw [h18']; decide)]; rfl
   refine then_n ⟨newSW q, μ, _, ⟨Le.refl _, newSW_ok μ q, rfl, rfl, by rw [he], fun _ => by rw [hs]; rfl⟩, ⟨rfl, rfl, trivial⟩, ?_⟩
   rw [he]
   exact Split.ent' sp0
  ·skip
   refine swp_sr ?_
   refine s_pu (pu_eql rfl rfl) ?_
   refine s_as rfl ?_
   refine swl_sub _ (sc0 4 rfl (sc0 5 rfl (sc0 6 rfl (sc0 25 rfl .nil)))) ?_
   refine swl_nn ?_
   refine swp_cond (b := _) rfl (fun h25 => ?_) (fun h25 => ?_)
   ·skip
    refine swp_region ?_
    refine s_mv rfl ?_
    refine s_mv rfl ?_
    refine s_ef (ef_fn (recover_spec μ b11 (newSW q) (newSW_ok μ q) d hd (readD d logN).1 (readD_len hd logN)) rfl rfl sp0) ?_
    rintro v29 L1 ⟨W', μ', g1, g2, g3, g4, g5, rfl, rfl⟩
    refine swl_app ?_
    refine s_as rfl ?_
    refine swl_sub _ (sc0 4 rfl (sc0 6 rfl .nil)) ?_
    refine swl_nil ?_
    refine block_n ?_
    have h18' : (readD d logN).2 ≠ 6 := by simpa using h18
    have h25' : (readD d logN).2 = 0 := by simpa using h25
    have he : openD d = settleD d (runS ([], []) (scan (readD d logN).1)).2 (readD d logN).1.length := by unfold openD; rw [if_neg h18', if_neg (not_not_intro h25')]
    refine then_n ⟨W', μ', _, ⟨g1, g2, g3, g4, by rw [he]; rfl, fun _ => g5⟩, ⟨rfl, rfl, trivial⟩, ?_⟩
    rw [he]
    show Ent [FSA q (settleD d (runS ([], []) (scan (readD d logN).1)).2 (readD d logN).1.length).1, stH b11 W', ttA W', ccA W', ro μ', blk b1 27 [pv q]] _
    exact Split.ent' sp0
   ·skip
    refine swp_skip ?_
    refine block_n ?_
    have h18' : (readD d logN).2 ≠ 6 := by simpa using h18
    have h25' : (readD d logN).2 ≠ 0 := by simpa using h25
    have he : openD d = (d, (readD d logN).2) := by unfold openD; rw [if_neg h18', if_pos h25']
    refine then_n ⟨newSW q, μ, _, ⟨Le.refl _, newSW_ok μ q, rfl, rfl, by rw [he], fun k => absurd k h25'⟩, ⟨rfl, rfl, trivial⟩, ?_⟩
    rw [he]
    exact Split.ent' sp0
 rintro env L ⟨W, μ', e, hq, hsub, hE⟩
 refine swp_sub _ hsub ?_
 refine swp_ent hE ?_
 clear hsub hE env L
 refine swp_seq ?_
 refine swp_sr ?_
 refine s_mv rfl ?_
 refine s_pu (pu_neq rfl rfl) ?_
 refine swl_sub _ (sc0 4 rfl (sc0 6 rfl (sc0 31 rfl .nil))) ?_
 refine swl_nn ?_
 refine swp_cond (b := _) rfl (fun h31 => ?_) (fun h31 => ?_)
 ·skip
  refine swp_sr ?_
  refine s_mv rfl ?_
  refine s_as rfl ?_
  refine s_as rfl ?_
  refine swl_sub _ (sc0 2 rfl (sc0 3 rfl .nil)) ?_
  refine swl_nn ?_
  refine swp_ret ?_
  refine then_r ?_
  have h31' : e ≠ 0 := by simpa using h31
  exact done_ret [FSA q (openD d).1, stH b11 W, ttA W, ccA W, ro μ'] (.tmp rfl (.tmp rfl .nil)) ⟨b11, W, μ', e, hq, by rw [if_neg h31']; rfl, rfl⟩ sp0
 ·skip
  refine swp_skip ?_
  refine then_n ?_
  refine swp_sr ?_
  refine s_mv rfl ?_
  refine s_as rfl ?_
  refine s_as rfl ?_
  refine swl_sub _ (sc0 2 rfl (sc0 3 rfl .nil)) ?_
  refine swl_nn ?_
  refine swp_ret ?_
  have h31' : e = 0 := by simpa using h31
  subst h31'
  exact done_ret [FSA q (openD d).1, stH b11 W, ttA W, ccA W, ro μ'] (.tmp rfl (.tmp rfl .nil)) ⟨b11, W, μ', 0, hq, by rw [if_pos rfl]; rfl, rfl⟩ sp0
end SX
namespace SX
open Go Go.Proofs
theorem cloneT_spec (μ : PH) (v : Value) (t : List En) (hv : Row μ v 2 t.length (ens t)) (hl : t.length ≤ 1048576) : Spec Tryz.prog 47 [v] [ro μ] (fun r L => ∃ A c, r = .slice A t.length c ∧ L = [own 47 2 (.slice A t.length c) t.length (ens t), ro μ]) := by
 obtain ⟨A, cap, rfl⟩ := hv.sl
 refine Spec.of 8 Tryz.func47 rfl rfl rfl ?_
 refine swp_sr ?_
 refine s_as rfl ?_
 refine swl_sub _ (sc0 0 rfl .nil) ?_
 refine swl_nn ?_
 refine swp_seq ?_
 refine swp_sr ?_
 refine s_mv rfl ?_
 refine s_pu (pu_sl_eq_nil rfl rfl) ?_
 refine swl_sub _ (sc0 0 rfl (sc0 4 rfl .nil)) ?_
 refine swl_nn ?_
 refine swp_cond (b := _) rfl (fun h4 => ?_) (fun h4 => ?_)
 ·skip
  refine swp_sr ?_
  refine s_as rfl ?_
  refine swl_sub _ (sc0 2 rfl .nil) ?_
  refine swl_nn ?_
  refine swp_ret ?_
  refine then_r ?_
  have hA : A = none := by cases A <;> simp_all
  subst hA
  have h0 : t = [] := by
   cases t with
   | nil => rfl
   | cons x l => obtain ⟨b, o, c, h, _⟩ := hv.pos (by simp); cases h
  subst h0
  exact done_retE [own 47 2 (.slice none 0 0) 0 [], ro μ] (.tmp rfl .nil) ⟨none, 0, rfl, rfl⟩ own_nil_ent
 ·skip
  refine swp_skip ?_
  refine then_n ?_
  refine swp_sr ?_
  refine s_ef (ef_bldS (qs := []) rfl rfl rfl) ?_
  intro b5
  refine s_mv rfl ?_
  refine swl_ent (own_empty (n := 2)) ?_
  refine s_ef (ef_append_ro hv rfl rfl sp0 (ens_one _) (by simp only [maxLen]; omega) om0) ?_
  rintro v7 -
  rw [Nat.zero_add, List.nil_append]
  refine swl_fact (fun m h => own_form h) fun ⟨A7, c7, hv7⟩ => ?_
  subst hv7
  refine s_as rfl ?_
  refine swl_sub _ (sc0 2 rfl .nil) ?_
  refine swl_nn ?_
  refine swp_ret ?_
  exact done_ret [own 47 2 (.slice A7 t.length c7) t.length (ens t), ro μ] (.tmp rfl .nil) ⟨A7, c7, rfl, rfl⟩ sp0
theorem cloneI_spec (μ : PH) (v : Value) (xs : List Int) (hv : Row μ v 1 xs.length (xs.flatMap (icsk .i64))) (hl : xs.length ≤ 1048576) : Spec Tryz.prog 50 [v] [ro μ] (fun r L => ∃ A c, r = .slice A xs.length c ∧ L = [own 3 1 (.slice A xs.length c) xs.length (xs.flatMap (icsk .i64)), ro μ]) := by
 obtain ⟨A, cap, rfl⟩ := hv.sl
 refine Spec.of 8 Tryz.func50 rfl rfl rfl ?_
 refine swp_sr ?_
 refine s_as rfl ?_
 refine swl_sub _ (sc0 0 rfl .nil) ?_
 refine swl_nn ?_
 refine swp_seq ?_
 refine swp_sr ?_
 refine s_mv rfl ?_
 refine s_pu (pu_sl_eq_nil rfl rfl) ?_
 refine swl_sub _ (sc0 0 rfl (sc0 4 rfl .nil)) ?_
 refine swl_nn ?_
 refine swp_cond (b := _) rfl (fun h4 => ?_) (fun h4 => ?_)
 ·skip
  refine swp_sr ?_
  refine s_as rfl ?_
  refine swl_sub _ (sc0 2 rfl .nil) ?_
  refine swl_nn ?_
  refine swp_ret ?_
  refine then_r ?_
  have hA : A = none := by cases A <;> simp_all
  subst hA
  have h0 : xs = [] := by
   cases xs with
   | nil => rfl
   | cons x l => obtain ⟨b, o, c, h, _⟩ := hv.pos (by simp); cases h
  subst h0
  exact done_retE [own 3 1 (.slice none 0 0) 0 [], ro μ] (.tmp rfl .nil) ⟨none, 0, rfl, rfl⟩ own_nil_ent
 ·skip
  refine swp_skip ?_
  refine then_n ?_
  refine swp_sr ?_
  refine s_ef (ef_bldS (qs := []) rfl rfl rfl) ?_
  intro b5
  refine s_mv rfl ?_
  refine swl_ent (own_empty (n := 1)) ?_
  refine s_ef (ef_append_ro hv rfl rfl sp0 (icsk_one _) (by simp only [maxLen]; omega) om0) ?_
  rintro v7 -
  rw [Nat.zero_add, List.nil_append]
  refine swl_fact (fun m h => own_form h) fun ⟨A7, c7, hv7⟩ => ?_
  subst hv7
  refine s_as rfl ?_
  refine swl_sub _ (sc0 2 rfl .nil) ?_
  refine swl_nn ?_
  refine swp_ret ?_
  exact done_ret [own 3 1 (.slice A7 xs.length c7) xs.length (xs.flatMap (icsk .i64)), ro μ] (.tmp rfl .nil) ⟨A7, c7, rfl, rfl⟩ sp0
/-- a record, on the disk -/
def writeD (d : Dk) (f : Fm) : Dk × Int := if (appendD d logN (encFm f)).2 ≠ 0 then appendD d logN (encFm f) else syncD (appendD d logN (encFm f)).1 logN
theorem append_l (q : Nat) (d : Dk) (hd : d.Ok) (s : ByteArray) (l : List UInt8) (hl : l.length ≤ 1048576) : Spec Tryz.prog 63 [pv q, .string s, .string (str l)] [FSA q d] (fun r L => r = .int .i64 (appendD d s l).2 ∧ L = [FSA q (appendD d s l).1]) := append_spec q d hd s (str l) hl
abbrev wriL (b3 b7 p : Nat) (W : SW) (d : Dk) (f : Fm) : List Assn := [FSA W.q d, blk b3 31 [pv p], blk b7 9 [.string (str (encFm f))], stH p W]
theorem wri1_spec (b3 b7 p : Nat) (W : SW) (d : Dk) (hd : d.Ok) (f : Fm) (hf : f.2.length ≤ 1048567) : Spec Tryz.prog 98 [pv b3, pv b7] (wriL b3 b7 p W d f) (fun r L => r = .int .i64 (appendD d logN (encFm f)).2 ∧ L = wriL b3 b7 p W (appendD d logN (encFm f)).1 f) := by
 refine Spec.of 9 Tryz.func98 rfl rfl rfl ?_
 refine swp_sr ?_
 refine s_as rfl ?_
 refine swl_sub _ (sc0 0 rfl (sc0 1 rfl .nil)) ?_
 refine swl_nn ?_
 refine swp_seq ?_
 refine swp_draw [0, 3, 4] _ [] (by simp only [List.append_nil]; exact Ent.refl _) kr0 ?_
 refine d_rd 0 rfl (rd_load rfl rfl) rfl kr0 kr0 kr0 ?_
 refine d_pu 1 rfl (pu_nilCheck rfl) kr0 kr0 kr0 ?_
 refine d_pu 2 rfl (pu_fieldAddr0 rfl) kr0 kr0 kr0 ?_
 refine d_rd 3 rfl (rd_load rfl rfl) rfl kr0 kr0 kr0 ?_
 refine d_rd 4 rfl (rd_load rfl rfl) rfl kr0 kr0 kr0 ?_
 refine d_fint 5 rfl kr0 kr0 (ef_fn (append_l W.q d hd logN (encFm f) (by rw [encFm_len]; omega)) rfl rfl sp0) ?_
 rintro v8 L1 ⟨rfl, rfl⟩
 refine swd_app ?_
 refine d_pu 6 rfl (pu_assign rfl) kr0 kr0 kr0 ?_
 refine d_sub _ (sc0 2 rfl .nil) ?_
 refine d_nilf kr0 ?_
 refine then_n ?_
 refine swp_ret ?_
 exact done_ret (wriL b3 b7 p W (appendD d logN (encFm f)).1 f) (.tmp rfl .nil) ⟨rfl, rfl⟩ sp0
theorem wri2_spec (b3 b7 p : Nat) (W : SW) (d : Dk) (hd : d.Ok) (f : Fm) : Spec Tryz.prog 99 [pv b3] (wriL b3 b7 p W d f) (fun r L => r = .int .i64 (syncD d logN).2 ∧ L = wriL b3 b7 p W (syncD d logN).1 f) := by
 refine Spec.of 7 Tryz.func99 rfl rfl rfl ?_
 refine swp_sr ?_
 refine s_as rfl ?_
 refine swl_sub _ (sc0 0 rfl .nil) ?_
 refine swl_nn ?_
 refine swp_sr ?_
 refine s_rd (rd_load rfl rfl) ?_
 refine s_pu (pu_nilCheck rfl) ?_
 refine s_pu (pu_fieldAddr0 rfl) ?_
 refine s_rd (rd_load rfl rfl) ?_
 refine s_ef (ef_fn (sync_spec W.q d hd logN) rfl rfl sp0) ?_
 rintro v6 L1 ⟨rfl, rfl⟩
 refine swl_app ?_
 refine s_as rfl ?_
 refine swl_sub _ (sc0 1 rfl .nil) ?_
 refine swl_nn ?_
 refine swp_ret ?_
 exact done_ret (wriL b3 b7 p W (syncD d logN).1 f) (.tmp rfl .nil) ⟨rfl, rfl⟩ sp0
theorem write_steps (b3 b7 p : Nat) (W : SW) (d : Dk) (hd : d.Ok) (f : Fm) (hf : f.2.length ≤ 1048567) :
    StepsF [.func (.func 98) #[] #[pv b3, pv b7], .func (.func 99) #[] #[pv b3]] (wriL b3 b7 p W d f) (fun e L => e = (writeD d f).2 ∧ L = wriL b3 b7 p W (writeD d f).1 f) := by
  have hd1 := appendD_ok hd logN (encFm f)
  refine ⟨98, inferInstance, [], [pv b3, pv b7], rfl, Spec.mono (wri1_spec b3 b7 p W d hd f hf) ?_⟩
  rintro r L ⟨rfl, rfl⟩
  refine ⟨_, rfl, ?_⟩
  by_cases h1 : (appendD d logN (encFm f)).2 = 0
  · refine .inl ⟨h1, 99, inferInstance, [], [pv b3], rfl, Spec.mono (wri2_spec b3 b7 p W _ hd1 f) ?_⟩
    rintro r L ⟨rfl, rfl⟩
    have e : writeD d f = syncD (appendD d logN (encFm f)).1 logN := by unfold writeD; rw [if_neg (not_not_intro h1)]
    refine ⟨_, rfl, ?_⟩
    by_cases h3 : (syncD (appendD d logN (encFm f)).1 logN).2 = 0
    · exact .inl ⟨h3, by rw [e]; exact ⟨h3.symm, rfl⟩⟩
    · exact .inr ⟨h3, by rw [e]; exact ⟨rfl, rfl⟩⟩
  · have e : writeD d f = appendD d logN (encFm f) := by unfold writeD; rw [if_pos h1]
    exact .inr ⟨h1, by rw [e]; exact ⟨rfl, rfl⟩⟩
theorem writeD_ok {d : Dk} (hd : d.Ok) (f : Fm) : (writeD d f).1.Ok := by
  unfold writeD
  split
  · exact appendD_ok hd _ _
  · exact syncD_ok (appendD_ok hd _ _) _
set_option maxHeartbeats 2000000 in
theorem write_spec (p : Nat) (W : SW) (d : Dk) (hd : d.Ok) (f : Fm) (h1 : 0 < f.1) (h2 : f.1 < 256) (hf : f.2.length ≤ 1048567) : Spec Tryz.prog 46 [pv p, .int .i64 (f.1 : Nat), .string (str f.2)] [FSA W.q d, stH p W] (fun r L => r = .int .i64 (writeD d f).2 ∧ L = [FSA W.q (writeD d f).1, stH p { W with dead := decide ((writeD d f).2 = 8) }]) := by
 refine Spec.of 28 Tryz.func46 rfl rfl rfl ?_
 refine swp_sr ?_
 refine s_ef (ef_box rfl rfl) ?_
 intro b3
 refine s_as rfl ?_
 refine swl_sub _ (sc0 1 rfl (sc0 2 rfl (sc0 3 rfl .nil))) ?_
 refine swl_nn ?_
 refine swp_sr ?_
 refine s_mv rfl ?_
 refine s_mv rfl ?_
 refine s_pu (pu_bld (qs := [(0, _), (1, _)]) rfl) ?_
 refine s_ef (ef_fn (fenc_spec f h1 h2 om0) rfl rfl sp0) ?_
 rintro v13 L1 ⟨rfl, rfl⟩
 refine swl_app ?_
 refine s_mv rfl ?_
 refine s_pu (pu_extractL rfl) ?_
 refine s_pu (pu_extractL rfl) ?_
 refine s_ef (ef_alloc) ?_
 intro b7
 refine s_ef0 (ef_store rfl rfl rfl) ?_
 refine s_as rfl ?_
 refine swl_sub _ (sc0 3 rfl (sc0 7 rfl (sc0 8 rfl .nil))) ?_
 refine swl_nn ?_
 refine swp_seq ?_
 refine swp_sr ?_
 refine s_mv rfl ?_
 refine s_pu (pu_eql rfl rfl) ?_
 refine swl_sub _ (sc0 3 rfl (sc0 7 rfl (sc0 8 rfl (sc0 17 rfl .nil)))) ?_
 refine swl_nn ?_
 refine swp_cond (b := _) rfl (fun h17 => ?_) (fun h17 => by cases h17)
 refine swp_region ?_
 refine s_pu (pu_func (vs := []) (us := [_, _]) rfl rfl) ?_
 refine s_pu (pu_func (vs := []) (us := [_]) rfl rfl) ?_
 refine s_ef (ef_bldS (qs := [(0, _), (1, _)]) rfl rfl rfl) ?_
 intro b20
 refine s_ef (ef_fn (first_spec b20 2 [.func (.func 98) #[] #[pv b3, pv b7], .func (.func 99) #[] #[pv b3]] (wriL b3 b7 p W d f) _ (by show 2 ≤ 1000; decide) (write_steps b3 b7 p W d hd f hf)) rfl rfl sp0) ?_
 rintro v21 L1 ⟨e, L2, rfl, ⟨rfl, rfl⟩, rfl⟩
 refine swl_app ?_
 refine s_as rfl ?_
 refine swl_sub _ (sc0 3 rfl (sc0 8 rfl .nil)) ?_
 refine swl_nn ?_
 refine swp_sr ?_
 refine s_rd (rd_load rfl rfl) ?_
 refine s_mv rfl ?_
 refine s_pu (pu_eql rfl rfl) ?_
 refine s_pu (pu_nilCheck rfl) ?_
 refine s_pu (pu_fieldAddr0 rfl) ?_
 refine s_ef0 (ef_store rfl rfl rfl) ?_
 refine swl_sub _ (sc0 8 rfl .nil) ?_
 refine swl_nn ?_
 refine swp_sr ?_
 refine s_mv rfl ?_
 refine s_as rfl ?_
 refine swl_sub _ (sc0 6 rfl .nil) ?_
 refine swl_nn ?_
 refine swp_ret ?_
 exact done_ret [FSA W.q (writeD d f).1, stH p { W with dead := decide ((writeD d f).2 = 8) }] (.tmp rfl .nil) ⟨rfl, rfl⟩ sp0
theorem live_spec (p : Nat) (W : SW) : Spec Tryz.prog 44 [pv p] [stH p W] (fun r L => r = .int .i64 (if W.dead = true then 8 else 0) ∧ L = [stH p W]) := by
 refine Spec.of 11 Tryz.func44 rfl rfl rfl ?_
 refine swp_sr ?_
 refine s_as rfl ?_
 refine swl_sub _ (sc0 0 rfl .nil) ?_
 refine swl_nn ?_
 refine swp_seq ?_
 refine swp_block ?_
 refine swp_sr ?_
 refine s_mv rfl ?_
 refine s_pu (pu_ptr_eq_nil rfl rfl) ?_
 refine s_as rfl ?_
 refine swl_sub _ (sc0 0 rfl (sc0 3 rfl .nil)) ?_
 refine swl_nn ?_
 refine swp_cond (b := _) rfl (fun h3 => by cases h3) (fun h3 => ?_)
 refine swp_sr ?_
 refine s_mv rfl ?_
 refine s_pu (pu_nilCheck rfl) ?_
 refine s_pu (pu_fieldAddr0 rfl) ?_
 refine s_rd (rd_load rfl rfl) ?_
 refine s_as rfl ?_
 refine swl_sub _ (sc0 6 rfl .nil) ?_
 refine swl_nn ?_
 refine swp_cond (b := _) rfl (fun h6 => ?_) (fun h6 => ?_)
 ·skip
  refine swp_sr ?_
  refine s_as rfl ?_
  refine swl_sub _ (sc0 2 rfl .nil) ?_
  refine swl_nn ?_
  refine swp_ret ?_
  refine block_r ?_
  refine then_r ?_
  exact done_ret [stH p W] (.tmp rfl .nil) ⟨by rw [if_pos h6]; rfl, rfl⟩ sp0
 ·skip
  refine swp_skip ?_
  refine block_n ?_
  refine then_n ?_
  refine swp_sr ?_
  refine s_as rfl ?_
  refine swl_sub _ (sc0 2 rfl .nil) ?_
  refine swl_nn ?_
  refine swp_ret ?_
  exact done_ret [stH p W] (.tmp rfl .nil) ⟨by rw [if_neg (by rw [h6]; decide)]; rfl, rfl⟩ sp0
end SX
namespace SX
open Go Go.Proofs
/-- a store and its disk -/
structure PSt where
  d : Dk
  s : St2
  dead : Bool
def addR (x : PSt) (e0 : Int) (n : Nat) (f : Fm) (s' : St2) : PSt × Int × Int :=
  if x.dead = true then (x, 0, 8) else if e0 ≠ 0 then (x, 0, e0) else if 65536 ≤ n then (x, 0, 7) else
  if (writeD x.d f).2 ≠ 0 then (⟨(writeD x.d f).1, x.s, decide ((writeD x.d f).2 = 8)⟩, 0, (writeD x.d f).2) else (⟨(writeD x.d f).1, s', false⟩, (n : Nat), 0)
def addT (x : PSt) (t : List En) : PSt × Int × Int := addR x (encErr t) x.s.1.length (1, encT t) (x.s.1 ++ [t], x.s.2)
def addC (x : PSt) (c : Cm) : PSt × Int × Int := addR x (if checkC c ≠ 0 then checkC c else if knownS x.s.1.length x.s.2.length c = false then 9 else 0) x.s.2.length (2, encC' c) (x.s.1, x.s.2 ++ [c])
section
variable {x : PSt} {e0 : Int} {n : Nat} {f : Fm} {s' : St2}
theorem addR_dead (h : x.dead = true) : addR x e0 n f s' = (x, 0, 8) := by unfold addR; rw [if_pos h]
theorem addR_err (h : x.dead = false) (h2 : e0 ≠ 0) : addR x e0 n f s' = (x, 0, e0) := by unfold addR; rw [if_neg (by rw [h]; decide), if_pos h2]
theorem addR_full (h : x.dead = false) (h2 : e0 = 0) (h3 : 65536 ≤ n) : addR x e0 n f s' = (x, 0, 7) := by unfold addR; rw [if_neg (by rw [h]; decide), if_neg (not_not_intro h2), if_pos h3]
theorem addR_wr (h : x.dead = false) (h2 : e0 = 0) (h3 : n < 65536) (h4 : (writeD x.d f).2 ≠ 0) : addR x e0 n f s' = ((⟨(writeD x.d f).1, x.s, decide ((writeD x.d f).2 = 8)⟩ : PSt), (0 : Int), (writeD x.d f).2) := by unfold addR; rw [if_neg (by rw [h]; decide), if_neg (not_not_intro h2), if_neg om0, if_pos h4]
theorem addR_ok (h : x.dead = false) (h2 : e0 = 0) (h3 : n < 65536) (h4 : (writeD x.d f).2 = 0) : addR x e0 n f s' = ((⟨(writeD x.d f).1, s', false⟩ : PSt), ((n : Nat) : Int), (0 : Int)) := by unfold addR; rw [if_neg (by rw [h]; decide), if_neg (not_not_intro h2), if_neg om0, if_neg (not_not_intro h4)]
end
/-- what a call that adds leaves -/
def AddQ (μ : PH) (W : SW) (y : PSt × Int × Int) (r : Value) (W' : SW) (μ' : PH) : Prop := Le μ μ' ∧ W'.Ok μ' ∧ W'.q = W.q ∧ W'.pl = y.1.s ∧ W'.dead = y.1.dead ∧ r = .tuple #[.int .i64 y.2.1, .int .i64 y.2.2]
theorem encErr_ok {t : List En} (h : encErr t = 0) : t.length ≤ 1024 ∧ checkE t = 0 := by
  unfold encErr at h
  split at h
  · cases h
  · exact ⟨by omega, h⟩
theorem encT_len {t : List En} (h : encErr t = 0) : (encT t).length ≤ 1048567 := by
  obtain ⟨h1, h2⟩ := encErr_ok h
  have := encEs_len [] t fun e he => (check_paths h2 e he).1
  unfold encT
  rw [List.length_append, numB_len]
  omega
theorem encC_len {c : Cm} (h : checkC c = 0) : (encC' c).length ≤ 1048567 := by
  obtain ⟨h1, _⟩ := checkC_ok h
  unfold encC'
  simp only [List.length_append, numB_len, encPs_len]
  omega
theorem SW.Ok.dead {μ : PH} {W : SW} (h : W.Ok μ) (b : Bool) : SW.Ok μ { W with dead := b } := ⟨h.tf, h.cf, h.tr, h.cr, h.tl, h.cl⟩
set_option maxHeartbeats 4000000 in
theorem addtree_spec (μ : PH) (p : Nat) (W : SW) (hW : W.Ok μ) (d : Dk) (hd : d.Ok) (v : Value) (t : List En) (hv : Row μ v 2 t.length (ens t)) (hu : U32s t) : Spec Tryz.prog 12 [pv p, v] [FSA W.q d, stH p W, ttA W, ccA W, ro μ]
  (fun r L => ∃ W' μ', AddQ μ W (addT ⟨d, W.pl, W.dead⟩ t) r W' μ' ∧ L = [FSA W'.q (addT ⟨d, W.pl, W.dead⟩ t).1.d, stH p W', ttA W', ccA W', ro μ']) := by
 have hW0 := hW
 obtain ⟨⟨A1, c1, e1⟩, ⟨A2, c2, e2⟩, _, _, hT, hC⟩ := hW
 obtain ⟨q, tv, cv, T, C, dead⟩ := W
 dsimp only at e1 e2 hT hC
 subst e1 e2
 have hlen : (SW.pl ⟨q, .slice A1 T.length c1, .slice A2 C.length c2, T, C, dead⟩).1.length = T.length := List.length_map _
 generalize hy : addT ⟨d, SW.pl ⟨q, .slice A1 T.length c1, .slice A2 C.length c2, T, C, dead⟩, dead⟩ t = y
 refine Spec.of 54 Tryz.func12 rfl rfl rfl ?_
 refine swp_sr ?_
 refine s_as rfl ?_
 refine s_as rfl ?_
 refine swl_sub _ (sc0 0 rfl (sc0 1 rfl .nil)) ?_
 refine swl_nn ?_
 refine swp_seq ?_
 refine swp_sr ?_
 refine s_mv rfl ?_
 refine s_ef (ef_fn (live_spec p ⟨q, .slice A1 T.length c1, .slice A2 C.length c2, T, C, dead⟩) rfl rfl sp0) ?_
 rintro v10 L1 ⟨rfl, rfl⟩
 refine swl_app ?_
 refine s_as rfl ?_
 refine swl_sub _ (sc0 0 rfl (sc0 1 rfl (sc0 6 rfl .nil))) ?_
 refine swl_nn ?_
 refine swp_sr ?_
 refine s_mv rfl ?_
 refine s_pu (pu_neq rfl rfl) ?_
 refine swl_sub _ (sc0 0 rfl (sc0 1 rfl (sc0 6 rfl (sc0 12 rfl .nil)))) ?_
 refine swl_nn ?_
 refine swp_cond (b := _) rfl (fun h12 => ?_) (fun h12 => ?_)
 ·skip
  refine swp_sr ?_
  refine s_mv rfl ?_
  refine s_as rfl ?_
  refine s_as rfl ?_
  refine swl_sub _ (sc0 4 rfl (sc0 5 rfl .nil)) ?_
  refine swl_nn ?_
  refine swp_ret ?_
  refine then_r ?_
  have hdd : dead = true := by
   cases dead with
   | true => rfl
   | false => simp at h12
  have ha : (⟨d, SW.pl ⟨q, .slice A1 T.length c1, .slice A2 C.length c2, T, C, dead⟩, dead⟩, 0, 8) = y := by rw [← hy]; exact (addR_dead (x := ⟨d, SW.pl ⟨q, .slice A1 T.length c1, .slice A2 C.length c2, T, C, dead⟩, dead⟩) hdd).symm
  subst ha
  exact done_ret [FSA q d, stH p ⟨q, .slice A1 T.length c1, .slice A2 C.length c2, T, C, dead⟩, ttA ⟨q, .slice A1 T.length c1, .slice A2 C.length c2, T, C, dead⟩, ccA ⟨q, .slice A1 T.length c1, .slice A2 C.length c2, T, C, dead⟩, ro μ] (.tmp rfl (.tmp rfl .nil)) ⟨⟨q, .slice A1 T.length c1, .slice A2 C.length c2, T, C, dead⟩, μ, ⟨Le.refl _, hW0, rfl, rfl, rfl, by rw [if_pos hdd]; rfl⟩, rfl⟩ sp0
 ·skip
  have hdd : dead = false := by
   cases dead with
   | true => simp at h12
   | false => rfl
  refine swp_skip ?_
  refine then_n ?_
  refine swp_sr ?_
  refine s_mv rfl ?_
  refine s_ef (ef_fn (tenc_spec μ v t hv hu) rfl rfl sp0) ?_
  rintro v16 L1 ⟨rfl, rfl⟩
  refine swl_app ?_
  refine s_mv rfl ?_
  refine s_pu (pu_extractL rfl) ?_
  refine s_pu (pu_extractL rfl) ?_
  refine s_as rfl ?_
  refine s_as rfl ?_
  refine swl_sub _ (sc0 0 rfl (sc0 1 rfl (sc0 7 rfl (sc0 8 rfl .nil)))) ?_
  refine swl_nn ?_
  refine swp_seq ?_
  refine swp_sr ?_
  refine s_mv rfl ?_
  refine s_pu (pu_eql rfl rfl) ?_
  refine s_mv rfl ?_
  refine s_split 21 rfl (fun h21 => ?_) (fun h21 => ?_)
  ·skip
   have h21' : encErr t = 0 := of_decide_eq_true h21
   obtain ⟨hl1, hl2⟩ := encErr_ok h21'
   have hev : encV t = encT t := by unfold encV; rw [if_pos h21']
   refine s_on rfl rfl ?_
   refine s_mv rfl ?_
   refine s_on rfl rfl ?_
   refine s_pu (pu_nilCheck rfl) ?_
   refine s_on rfl rfl ?_
   refine s_pu (pu_fieldAddr0 rfl) ?_
   refine s_on rfl rfl ?_
   refine s_rd (rd_load rfl rfl) ?_
   refine s_on rfl rfl ?_
   refine s_pu (pu_len rfl) ?_
   refine s_on rfl rfl ?_
   refine s_pu (pu_geq rfl rfl) ?_
   refine s_pu (pu_pick_t rfl rfl) ?_
   refine swl_sub _ (sc0 0 rfl (sc0 1 rfl (sc0 7 rfl (sc0 8 rfl (sc0 28 rfl .nil))))) ?_
   refine swl_nn ?_
   refine swp_cond (b := _) rfl (fun h28 => ?_) (fun h28 => ?_)
   ·skip
    have h28' : 65536 ≤ T.length := by have := of_decide_eq_true h28; omega
    refine swp_region ?_
    refine s_as rfl ?_
    refine swl_sub _ (sc0 0 rfl (sc0 1 rfl (sc0 7 rfl (sc0 8 rfl .nil)))) ?_
    refine swl_nn ?_
    refine swp_seq ?_
    refine swp_sr ?_
    refine s_mv rfl ?_
    refine s_pu (pu_eql rfl rfl) ?_
    refine swl_sub _ (sc0 0 rfl (sc0 1 rfl (sc0 7 rfl (sc0 8 rfl (sc0 30 rfl .nil))))) ?_
    refine swl_nn ?_
    refine swp_cond (b := _) rfl (fun h30 => by cases h30) (fun h30 => ?_)
    refine swp_skip ?_
    refine then_n ?_
    refine swp_seq ?_
    refine swp_sr ?_
    refine s_mv rfl ?_
    refine s_pu (pu_neq rfl rfl) ?_
    refine swl_sub _ (sc0 0 rfl (sc0 1 rfl (sc0 8 rfl (sc0 35 rfl .nil)))) ?_
    refine swl_nn ?_
    refine swp_cond (b := _) rfl (fun h35 => ?_) (fun h35 => by cases h35)
    refine swp_sr ?_
    refine s_mv rfl ?_
    refine s_as rfl ?_
    refine s_as rfl ?_
    refine swl_sub _ (sc0 4 rfl (sc0 5 rfl .nil)) ?_
    refine swl_nn ?_
    refine swp_ret ?_
    refine then_r ?_
    have ha : (⟨d, SW.pl ⟨q, .slice A1 T.length c1, .slice A2 C.length c2, T, C, dead⟩, dead⟩, 0, 7) = y := by rw [← hy]; exact (addR_full (x := ⟨d, SW.pl ⟨q, .slice A1 T.length c1, .slice A2 C.length c2, T, C, dead⟩, dead⟩) hdd h21' (by first | (show (SW.pl ⟨q, .slice A1 T.length c1, .slice A2 C.length c2, T, C, dead⟩).1.length < 65536; rw [hlen]; exact h28') | (show 65536 ≤ (SW.pl ⟨q, .slice A1 T.length c1, .slice A2 C.length c2, T, C, dead⟩).1.length; rw [hlen]; exact h28'))).symm
    subst ha
    exact done_ret [FSA q d, stH p ⟨q, .slice A1 T.length c1, .slice A2 C.length c2, T, C, dead⟩, ttA ⟨q, .slice A1 T.length c1, .slice A2 C.length c2, T, C, dead⟩, ccA ⟨q, .slice A1 T.length c1, .slice A2 C.length c2, T, C, dead⟩, ro μ] (.tmp rfl (.tmp rfl .nil)) ⟨⟨q, .slice A1 T.length c1, .slice A2 C.length c2, T, C, dead⟩, μ, ⟨Le.refl _, hW0, rfl, rfl, rfl, rfl⟩, rfl⟩ sp0
   ·skip
    have h28' : T.length < 65536 := by have := of_decide_eq_false h28; omega
    refine swp_skip ?_
    refine then_n ?_
    refine swp_seq ?_
    refine swp_sr ?_
    refine s_mv rfl ?_
    refine s_pu (pu_eql rfl rfl) ?_
    refine swl_sub _ (sc0 0 rfl (sc0 1 rfl (sc0 7 rfl (sc0 8 rfl (sc0 30 rfl .nil))))) ?_
    refine swl_nn ?_
    refine swp_cond (b := _) rfl (fun h30 => ?_) (fun h30 => by rw [h21'] at h30; cases h30)
    refine swp_region ?_
    refine s_mv rfl ?_
    refine s_mv rfl ?_
    refine s_ef (ef_fn (write_spec p ⟨q, .slice A1 T.length c1, .slice A2 C.length c2, T, C, dead⟩ d hd (1, encV t) (by show 0 < 1; decide) (by show 1 < 256; decide) (by rw [hev]; exact encT_len h21')) rfl rfl sp0) ?_
    rintro v33 L1 ⟨rfl, rfl⟩
    rw [hev]
    refine swl_app ?_
    dsimp only
    refine s_as rfl ?_
    refine swl_sub _ (sc0 0 rfl (sc0 1 rfl (sc0 8 rfl .nil))) ?_
    refine swl_nn ?_
    refine swp_seq ?_
    refine swp_sr ?_
    refine s_mv rfl ?_
    refine s_pu (pu_neq rfl rfl) ?_
    refine swl_sub _ (sc0 0 rfl (sc0 1 rfl (sc0 8 rfl (sc0 35 rfl .nil)))) ?_
    refine swl_nn ?_
    refine swp_cond (b := _) rfl (fun h35 => ?_) (fun h35 => ?_)
    ·skip
     refine swp_sr ?_
     refine s_mv rfl ?_
     refine s_as rfl ?_
     refine s_as rfl ?_
     refine swl_sub _ (sc0 4 rfl (sc0 5 rfl .nil)) ?_
     refine swl_nn ?_
     refine swp_ret ?_
     refine then_r ?_
     have h35' : (writeD d (1, encT t)).2 ≠ 0 := by simpa using h35
     have ha : (⟨(writeD d (1, encT t)).1, SW.pl ⟨q, .slice A1 T.length c1, .slice A2 C.length c2, T, C, dead⟩, decide ((writeD d (1, encT t)).2 = 8)⟩, 0, (writeD d (1, encT t)).2) = y := by rw [← hy]; exact (addR_wr (x := ⟨d, SW.pl ⟨q, .slice A1 T.length c1, .slice A2 C.length c2, T, C, dead⟩, dead⟩) hdd h21' (by first | (show (SW.pl ⟨q, .slice A1 T.length c1, .slice A2 C.length c2, T, C, dead⟩).1.length < 65536; rw [hlen]; exact h28') | (show 65536 ≤ (SW.pl ⟨q, .slice A1 T.length c1, .slice A2 C.length c2, T, C, dead⟩).1.length; rw [hlen]; exact h28')) h35').symm
     subst ha
     exact done_ret [FSA q (writeD d (1, encT t)).1, stH p ⟨q, .slice A1 T.length c1, .slice A2 C.length c2, T, C, decide ((writeD d (1, encT t)).2 = 8)⟩, ttA ⟨q, .slice A1 T.length c1, .slice A2 C.length c2, T, C, dead⟩, ccA ⟨q, .slice A1 T.length c1, .slice A2 C.length c2, T, C, dead⟩, ro μ] (.tmp rfl (.tmp rfl .nil)) ⟨⟨q, .slice A1 T.length c1, .slice A2 C.length c2, T, C, decide ((writeD d (1, encT t)).2 = 8)⟩, μ, ⟨Le.refl _, SW.Ok.dead hW0 _, rfl, rfl, rfl, rfl⟩, rfl⟩ sp0
    ·skip
     have h35' : (writeD d (1, encT t)).2 = 0 := by simpa using h35
     have ha : (⟨(writeD d (1, encT t)).1, ((SW.pl ⟨q, .slice A1 T.length c1, .slice A2 C.length c2, T, C, dead⟩).1 ++ [t], (SW.pl ⟨q, .slice A1 T.length c1, .slice A2 C.length c2, T, C, dead⟩).2), false⟩, ((SW.pl ⟨q, .slice A1 T.length c1, .slice A2 C.length c2, T, C, dead⟩).1.length : Int), 0) = y := by rw [← hy]; exact (addR_ok (x := ⟨d, SW.pl ⟨q, .slice A1 T.length c1, .slice A2 C.length c2, T, C, dead⟩, dead⟩) hdd h21' (by first | (show (SW.pl ⟨q, .slice A1 T.length c1, .slice A2 C.length c2, T, C, dead⟩).1.length < 65536; rw [hlen]; exact h28') | (show 65536 ≤ (SW.pl ⟨q, .slice A1 T.length c1, .slice A2 C.length c2, T, C, dead⟩).1.length; rw [hlen]; exact h28')) h35').symm
     have hd8 : decide ((writeD d (1, encT t)).2 = 8) = false := by rw [h35']; rfl
     rw [hd8]
     subst ha
     refine swp_skip ?_
     refine then_n ?_
     refine swp_seq ?_
     refine swp_draw [4] ([stH p ⟨q, .slice A1 T.length c1, .slice A2 C.length c2, T, C, false⟩]) ([FSA q (writeD d (1, encT t)).1, ro μ, ttA ⟨q, .slice A1 T.length c1, .slice A2 C.length c2, T, C, dead⟩, ccA ⟨q, .slice A1 T.length c1, .slice A2 C.length c2, T, C, dead⟩]) (Split.ent sp0) kr0 ?_
     refine d_pu 0 rfl (pu_move rfl) kr0 kr0 kr0 ?_
     refine d_pu 1 rfl (pu_move rfl) kr0 kr0 kr0 ?_
     refine d_pu 2 rfl (pu_nilCheck rfl) kr0 kr0 kr0 ?_
     refine d_pu 3 rfl (pu_fieldAddr0 rfl) kr0 kr0 kr0 ?_
     refine d_rd 4 rfl (rd_load rfl rfl) rfl kr0 kr0 kr0 ?_
     refine d_pu 5 rfl (pu_move rfl) kr0 kr0 kr0 ?_
     refine d_eft 6 rfl kr0 (ef_fn (cloneT_spec μ v t hv om0) rfl rfl sp0) ?_
     rintro v43 L1 ⟨A3, c3, rfl, rfl⟩
     refine ⟨_, ent_appC (Split.ent sp0), ?_⟩
     refine d_eft 7 rfl kr0 (ef_bldS (qs := [(0, _)]) rfl rfl rfl) ?_
     intro b44
     refine ⟨_, Split.ent sp0, ?_⟩
     refine d_fint 8 rfl kr0 kr0 (ef_append_lit (l := T.length) (m := 1) rfl rfl sp0 (by simp only [maxLen]; omega) om0) ?_
     rintro v45 -
     refine swd_factf (fun m h => own_form h) fun ⟨A45, c45, hv45⟩ => ?_
     subst hv45
     refine d_pu 9 rfl (pu_nilCheck rfl) kr0 kr0 kr0 ?_
     refine d_pu 10 rfl (pu_fieldAddr0 rfl) kr0 kr0 kr0 ?_
     refine d_fin0f 11 rfl kr0 kr0 (ef_store rfl rfl rfl) ?_
     refine d_sub _ (sc0 0 rfl .nil) ?_
     refine d_nilf kr0 ?_
     refine then_n ?_
     refine swp_seq ?_
     refine swp_share_own (μ := μ) (v := .slice A3 t.length c3) (e := 47) (n := 2) sp0 fun μ' hle hrow => ?_
     refine swp_region ?_
     refine s_mv rfl ?_
     refine s_pu (pu_nilCheck rfl) ?_
     refine s_pu (pu_fieldAddr0 rfl) ?_
     refine s_rd (rd_load rfl rfl) ?_
     refine s_pu (pu_len rfl) ?_
     refine s_pu (pu_sub_as ((T.length : Nat) : Int) rfl rfl om0 om0 om0) ?_
     refine s_as rfl ?_
     refine s_as rfl ?_
     refine swl_sub _ (sc0 4 rfl (sc0 5 rfl .nil)) ?_
     refine swl_nn ?_
     refine swp_ret ?_
     refine done_ret [FSA q (writeD d (1, encT t)).1, stH p ⟨q, .slice A45 (T.length + 1) c45, .slice A2 C.length c2, T ++ [(.slice A3 t.length c3, t)], C, false⟩, own 22 1 (.slice A45 (T.length + 1) c45) (T.length + 1) (T.flatMap tcs ++ [.slice A3 t.length c3]), ccA ⟨q, .slice A1 T.length c1, .slice A2 C.length c2, T, C, dead⟩, ro μ'] (.tmp rfl (.tmp rfl .nil)) ⟨⟨q, .slice A45 (T.length + 1) c45, .slice A2 C.length c2, T ++ [(.slice A3 t.length c3, t)], C, false⟩, μ', ⟨hle, SW.Ok.dead (Ok.addT hW0 hle hrow h28') false, rfl, ?_, rfl, ?_⟩, ?_⟩ sp0
     ·unfold SW.pl; rw [List.map_append]; rfl
     ·rw [hlen]; rfl
     ·simp only [ttA, List.length_append, List.length_singleton, List.flatMap_append]; rfl
  ·skip
   have h21' : encErr t ≠ 0 := of_decide_eq_false h21
   refine s_off rfl rfl rfl ?_
   refine s_off rfl rfl rfl ?_
   refine s_off rfl rfl rfl ?_
   refine s_off rfl rfl rfl ?_
   refine s_off rfl rfl rfl ?_
   refine s_off rfl rfl rfl ?_
   refine s_pu (pu_pick_f rfl rfl) ?_
   refine swl_sub _ (sc0 0 rfl (sc0 1 rfl (sc0 7 rfl (sc0 8 rfl (sc0 28 rfl .nil))))) ?_
   refine swl_nn ?_
   refine swp_cond (b := _) rfl (fun h28 => by cases h28) (fun h28 => ?_)
   refine swp_skip ?_
   refine then_n ?_
   refine swp_seq ?_
   refine swp_sr ?_
   refine s_mv rfl ?_
   refine s_pu (pu_eql rfl rfl) ?_
   refine swl_sub _ (sc0 0 rfl (sc0 1 rfl (sc0 7 rfl (sc0 8 rfl (sc0 30 rfl .nil))))) ?_
   refine swl_nn ?_
   refine swp_cond (b := _) rfl (fun h30 => by exact absurd (of_decide_eq_true h30) h21') (fun h30 => ?_)
   refine swp_skip ?_
   refine then_n ?_
   refine swp_seq ?_
   refine swp_sr ?_
   refine s_mv rfl ?_
   refine s_pu (pu_neq rfl rfl) ?_
   refine swl_sub _ (sc0 0 rfl (sc0 1 rfl (sc0 8 rfl (sc0 35 rfl .nil)))) ?_
   refine swl_nn ?_
   refine swp_cond (b := _) rfl (fun h35 => ?_) (fun h35 => by rw [decide_eq_false h21'] at h35; cases h35)
   refine swp_sr ?_
   refine s_mv rfl ?_
   refine s_as rfl ?_
   refine s_as rfl ?_
   refine swl_sub _ (sc0 4 rfl (sc0 5 rfl .nil)) ?_
   refine swl_nn ?_
   refine swp_ret ?_
   refine then_r ?_
   have ha : (⟨d, SW.pl ⟨q, .slice A1 T.length c1, .slice A2 C.length c2, T, C, dead⟩, dead⟩, 0, encErr t) = y := by rw [← hy]; exact (addR_err (x := ⟨d, SW.pl ⟨q, .slice A1 T.length c1, .slice A2 C.length c2, T, C, dead⟩, dead⟩) hdd h21').symm
   subst ha
   exact done_ret [FSA q d, stH p ⟨q, .slice A1 T.length c1, .slice A2 C.length c2, T, C, dead⟩, ttA ⟨q, .slice A1 T.length c1, .slice A2 C.length c2, T, C, dead⟩, ccA ⟨q, .slice A1 T.length c1, .slice A2 C.length c2, T, C, dead⟩, ro μ] (.tmp rfl (.tmp rfl .nil)) ⟨⟨q, .slice A1 T.length c1, .slice A2 C.length c2, T, C, dead⟩, μ, ⟨Le.refl _, hW0, rfl, rfl, rfl, rfl⟩, rfl⟩ sp0
end SX
namespace SX
open Go Go.Proofs
theorem comV_ok {c : Cm} (h : checkC c = 0) : comV c = encC' c := by unfold comV; rw [if_pos h]
set_option maxHeartbeats 4000000 in
theorem addcommit_spec (μ : PH) (p : Nat) (W : SW) (hW : W.Ok μ) (d : Dk) (hd : d.Ok) (v : Value) (c : Cm) (hv : Row μ v 1 c.1.length (c.1.flatMap (icsk .i64))) : Spec Tryz.prog 13 [pv p, cmV v c.2] [FSA W.q d, stH p W, ttA W, ccA W, ro μ]
  (fun r L => ∃ W' μ', AddQ μ W (addC ⟨d, W.pl, W.dead⟩ c) r W' μ' ∧ L = [FSA W'.q (addC ⟨d, W.pl, W.dead⟩ c).1.d, stH p W', ttA W', ccA W', ro μ']) := by
 have hW0 := hW
 obtain ⟨⟨A1, c1, e1⟩, ⟨A2, c2, e2⟩, _, _, hT, hC⟩ := hW
 obtain ⟨A5, c5, rfl⟩ := hv.sl
 obtain ⟨q, tv, cv, T, C, dead⟩ := W
 dsimp only at e1 e2 hT hC
 subst e1 e2
 have hlen : (SW.pl ⟨q, .slice A1 T.length c1, .slice A2 C.length c2, T, C, dead⟩).1.length = T.length := List.length_map _
 have hlen2 : (SW.pl ⟨q, .slice A1 T.length c1, .slice A2 C.length c2, T, C, dead⟩).2.length = C.length := List.length_map _
 generalize hy : addC ⟨d, SW.pl ⟨q, .slice A1 T.length c1, .slice A2 C.length c2, T, C, dead⟩, dead⟩ c = y
 unfold addC at hy
 dsimp only at hy
 rw [hlen, hlen2] at hy
 refine Spec.of 61 Tryz.func13 rfl rfl rfl ?_
 refine swp_sr ?_
 refine s_ef (ef_box rfl rfl) ?_
 intro b3
 refine s_as rfl ?_
 refine s_as rfl ?_
 refine swl_sub _ (sc0 0 rfl (sc0 3 rfl .nil)) ?_
 refine swl_nn ?_
 refine swp_seq ?_
 refine swp_sr ?_
 refine s_mv rfl ?_
 refine s_ef (ef_fn (live_spec p ⟨q, .slice A1 T.length c1, .slice A2 C.length c2, T, C, dead⟩) rfl rfl sp0) ?_
 rintro v10 L1 ⟨rfl, rfl⟩
 refine swl_app ?_
 refine s_as rfl ?_
 refine swl_sub _ (sc0 0 rfl (sc0 3 rfl (sc0 6 rfl .nil))) ?_
 refine swl_nn ?_
 refine swp_sr ?_
 refine s_mv rfl ?_
 refine s_pu (pu_neq rfl rfl) ?_
 refine swl_sub _ (sc0 0 rfl (sc0 3 rfl (sc0 6 rfl (sc0 12 rfl .nil)))) ?_
 refine swl_nn ?_
 refine swp_cond (b := _) rfl (fun h12 => ?_) (fun h12 => ?_)
 ·skip
  refine swp_sr ?_
  refine s_mv rfl ?_
  refine s_as rfl ?_
  refine s_as rfl ?_
  refine swl_sub _ (sc0 4 rfl (sc0 5 rfl .nil)) ?_
  refine swl_nn ?_
  refine swp_ret ?_
  refine then_r ?_
  have hdd : dead = true := by
   cases dead with
   | true => rfl
   | false => simp at h12
  have ha : (⟨d, SW.pl ⟨q, .slice A1 T.length c1, .slice A2 C.length c2, T, C, dead⟩, dead⟩, 0, 8) = y := by rw [← hy]; exact (addR_dead (x := ⟨d, SW.pl ⟨q, .slice A1 T.length c1, .slice A2 C.length c2, T, C, dead⟩, dead⟩) hdd).symm
  subst ha
  exact done_ret [FSA q d, stH p ⟨q, .slice A1 T.length c1, .slice A2 C.length c2, T, C, dead⟩, ttA ⟨q, .slice A1 T.length c1, .slice A2 C.length c2, T, C, dead⟩, ccA ⟨q, .slice A1 T.length c1, .slice A2 C.length c2, T, C, dead⟩, ro μ] (.tmp rfl (.tmp rfl .nil)) ⟨⟨q, .slice A1 T.length c1, .slice A2 C.length c2, T, C, dead⟩, μ, ⟨Le.refl _, hW0, rfl, rfl, rfl, by rw [if_pos hdd]; rfl⟩, rfl⟩ sp0
 ·skip
  have hdd : dead = false := by
   cases dead with
   | true => simp at h12
   | false => rfl
  refine swp_skip ?_
  refine then_n ?_
  refine swp_sr ?_
  refine s_rd (rd_loadW rfl rfl) ?_
  refine s_ef (ef_fn (cenc_spec μ (.slice A5 c.1.length c5) c hv) rfl rfl sp0) ?_
  rintro v16 L1 ⟨rfl, rfl⟩
  refine swl_app ?_
  refine s_mv rfl ?_
  refine s_pu (pu_extractL rfl) ?_
  refine s_pu (pu_extractL rfl) ?_
  refine s_as rfl ?_
  refine s_as rfl ?_
  refine swl_sub _ (sc0 0 rfl (sc0 3 rfl (sc0 7 rfl (sc0 8 rfl .nil)))) ?_
  refine swl_nn ?_
  refine swp_seq ?_
  refine swp_block ?_
  refine swp_sr ?_
  refine s_mv rfl ?_
  refine s_pu (pu_neq rfl rfl) ?_
  refine s_as rfl ?_
  refine swl_sub _ (sc0 0 rfl (sc0 3 rfl (sc0 7 rfl (sc0 8 rfl (sc0 22 rfl .nil))))) ?_
  refine swl_nn ?_
  refine swp_cond (b := _) rfl (fun h22 => ?_) (fun h22 => ?_)
  ·skip
   have h22' : checkC c ≠ 0 := by simpa using h22
   rw [if_pos h22'] at hy
   refine swp_skip ?_
   refine block_n ?_
   refine then_n ?_
   refine swp_seq ?_
   refine swp_sr ?_
   refine s_mv rfl ?_
   refine s_pu (pu_neq rfl rfl) ?_
   refine swl_sub _ (sc0 0 rfl (sc0 3 rfl (sc0 8 rfl (sc0 38 rfl .nil)))) ?_
   refine swl_nn ?_
   refine swp_cond (b := _) rfl (fun h38 => ?_) (fun h38 => by rw [decide_eq_false h22'] at h38; cases h38)
   refine swp_sr ?_
   refine s_mv rfl ?_
   refine s_as rfl ?_
   refine s_as rfl ?_
   refine swl_sub _ (sc0 4 rfl (sc0 5 rfl .nil)) ?_
   refine swl_nn ?_
   refine swp_ret ?_
   refine then_r ?_
   have ha : (⟨d, SW.pl ⟨q, .slice A1 T.length c1, .slice A2 C.length c2, T, C, dead⟩, dead⟩, 0, checkC c) = y := by rw [← hy]; exact (addR_err (x := ⟨d, SW.pl ⟨q, .slice A1 T.length c1, .slice A2 C.length c2, T, C, dead⟩, dead⟩) hdd h22').symm
   subst ha
   exact done_ret [FSA q d, stH p ⟨q, .slice A1 T.length c1, .slice A2 C.length c2, T, C, dead⟩, ttA ⟨q, .slice A1 T.length c1, .slice A2 C.length c2, T, C, dead⟩, ccA ⟨q, .slice A1 T.length c1, .slice A2 C.length c2, T, C, dead⟩, ro μ] (.tmp rfl (.tmp rfl .nil)) ⟨⟨q, .slice A1 T.length c1, .slice A2 C.length c2, T, C, dead⟩, μ, ⟨Le.refl _, hW0, rfl, rfl, rfl, rfl⟩, rfl⟩ sp0
  ·skip
   have h22' : checkC c = 0 := by simpa using h22
   rw [if_neg (not_not_intro h22')] at hy
   refine swp_sr ?_
   refine s_mv rfl ?_
   refine s_rd (rd_loadW rfl rfl) ?_
   refine s_ef (ef_fn (known_spec μ p ⟨q, .slice A1 T.length c1, .slice A2 C.length c2, T, C, dead⟩ hW0 (.slice A5 c.1.length c5) c hv) rfl rfl sp0) ?_
   rintro v28 L1 ⟨rfl, rfl⟩
   refine swl_app ?_
   refine s_pu (pu_not rfl) ?_
   refine s_as rfl ?_
   refine swl_sub _ (sc0 0 rfl (sc0 3 rfl (sc0 7 rfl (sc0 25 rfl .nil)))) ?_
   refine swl_nn ?_
   refine swp_cond (b := _) rfl (fun h25 => ?_) (fun h25 => ?_)
   ·skip
    have h25' : knownS T.length C.length c = false := by simpa using h25
    rw [if_pos h25'] at hy
    refine swp_region ?_
    refine s_as rfl ?_
    refine swl_sub _ (sc0 0 rfl (sc0 3 rfl (sc0 8 rfl .nil))) ?_
    refine swl_nil ?_
    refine block_n ?_
    refine then_n ?_
    refine swp_seq ?_
    refine swp_sr ?_
    refine s_mv rfl ?_
    refine s_pu (pu_neq rfl rfl) ?_
    refine swl_sub _ (sc0 0 rfl (sc0 3 rfl (sc0 8 rfl (sc0 38 rfl .nil)))) ?_
    refine swl_nn ?_
    refine swp_cond (b := _) rfl (fun h38 => ?_) (fun h38 => by cases h38)
    refine swp_sr ?_
    refine s_mv rfl ?_
    refine s_as rfl ?_
    refine s_as rfl ?_
    refine swl_sub _ (sc0 4 rfl (sc0 5 rfl .nil)) ?_
    refine swl_nn ?_
    refine swp_ret ?_
    refine then_r ?_
    have ha : (⟨d, SW.pl ⟨q, .slice A1 T.length c1, .slice A2 C.length c2, T, C, dead⟩, dead⟩, 0, 9) = y := by rw [← hy]; exact (addR_err (x := ⟨d, SW.pl ⟨q, .slice A1 T.length c1, .slice A2 C.length c2, T, C, dead⟩, dead⟩) hdd (by decide)).symm
    subst ha
    exact done_ret [FSA q d, stH p ⟨q, .slice A1 T.length c1, .slice A2 C.length c2, T, C, dead⟩, ttA ⟨q, .slice A1 T.length c1, .slice A2 C.length c2, T, C, dead⟩, ccA ⟨q, .slice A1 T.length c1, .slice A2 C.length c2, T, C, dead⟩, ro μ] (.tmp rfl (.tmp rfl .nil)) ⟨⟨q, .slice A1 T.length c1, .slice A2 C.length c2, T, C, dead⟩, μ, ⟨Le.refl _, hW0, rfl, rfl, rfl, rfl⟩, rfl⟩ sp0
   ·skip
    have h25' : knownS T.length C.length c = true := by simpa using h25
    rw [if_neg (by rw [h25']; decide)] at hy
    refine swp_sr ?_
    refine s_mv rfl ?_
    refine s_pu (pu_nilCheck rfl) ?_
    refine s_pu (pu_fieldAddr0 rfl) ?_
    refine s_rd (rd_load rfl rfl) ?_
    refine s_pu (pu_len rfl) ?_
    refine s_pu (pu_geq rfl rfl) ?_
    refine s_as rfl ?_
    refine swl_sub _ (sc0 0 rfl (sc0 3 rfl (sc0 7 rfl (sc0 30 rfl .nil)))) ?_
    refine swl_nn ?_
    refine swp_cond (b := _) rfl (fun h30 => ?_) (fun h30 => ?_)
    ·skip
     have h30' : 65536 ≤ C.length := by have := of_decide_eq_true h30; omega
     refine swp_region ?_
     refine s_as rfl ?_
     refine swl_sub _ (sc0 0 rfl (sc0 3 rfl (sc0 8 rfl .nil))) ?_
     refine swl_nil ?_
     refine block_n ?_
     refine then_n ?_
     refine swp_seq ?_
     refine swp_sr ?_
     refine s_mv rfl ?_
     refine s_pu (pu_neq rfl rfl) ?_
     refine swl_sub _ (sc0 0 rfl (sc0 3 rfl (sc0 8 rfl (sc0 38 rfl .nil)))) ?_
     refine swl_nn ?_
     refine swp_cond (b := _) rfl (fun h38 => ?_) (fun h38 => by cases h38)
     refine swp_sr ?_
     refine s_mv rfl ?_
     refine s_as rfl ?_
     refine s_as rfl ?_
     refine swl_sub _ (sc0 4 rfl (sc0 5 rfl .nil)) ?_
     refine swl_nn ?_
     refine swp_ret ?_
     refine then_r ?_
     have ha : (⟨d, SW.pl ⟨q, .slice A1 T.length c1, .slice A2 C.length c2, T, C, dead⟩, dead⟩, 0, 7) = y := by rw [← hy]; exact (addR_full (x := ⟨d, SW.pl ⟨q, .slice A1 T.length c1, .slice A2 C.length c2, T, C, dead⟩, dead⟩) hdd rfl h30').symm
     subst ha
     exact done_ret [FSA q d, stH p ⟨q, .slice A1 T.length c1, .slice A2 C.length c2, T, C, dead⟩, ttA ⟨q, .slice A1 T.length c1, .slice A2 C.length c2, T, C, dead⟩, ccA ⟨q, .slice A1 T.length c1, .slice A2 C.length c2, T, C, dead⟩, ro μ] (.tmp rfl (.tmp rfl .nil)) ⟨⟨q, .slice A1 T.length c1, .slice A2 C.length c2, T, C, dead⟩, μ, ⟨Le.refl _, hW0, rfl, rfl, rfl, rfl⟩, rfl⟩ sp0
    ·skip
     have h30' : C.length < 65536 := by have := of_decide_eq_false h30; omega
     have hbl := (checkC_ok h22').1
     refine swp_region ?_
     refine s_mv rfl ?_
     refine s_mv rfl ?_
     refine s_ef (ef_fn (write_spec p ⟨q, .slice A1 T.length c1, .slice A2 C.length c2, T, C, dead⟩ d hd (2, comV c) (by show 0 < 2; decide) (by show 2 < 256; decide) (by rw [comV_ok h22']; exact encC_len h22')) rfl rfl sp0) ?_
     rintro v21 L1 ⟨rfl, rfl⟩
     rw [comV_ok h22']
     refine swl_app ?_
     dsimp only
     refine s_as rfl ?_
     refine swl_sub _ (sc0 0 rfl (sc0 3 rfl (sc0 8 rfl .nil))) ?_
     refine swl_nil ?_
     refine block_n ?_
     refine then_n ?_
     refine swp_seq ?_
     refine swp_sr ?_
     refine s_mv rfl ?_
     refine s_pu (pu_neq rfl rfl) ?_
     refine swl_sub _ (sc0 0 rfl (sc0 3 rfl (sc0 8 rfl (sc0 38 rfl .nil)))) ?_
     refine swl_nn ?_
     refine swp_cond (b := _) rfl (fun h38 => ?_) (fun h38 => ?_)
     ·skip
      refine swp_sr ?_
      refine s_mv rfl ?_
      refine s_as rfl ?_
      refine s_as rfl ?_
      refine swl_sub _ (sc0 4 rfl (sc0 5 rfl .nil)) ?_
      refine swl_nn ?_
      refine swp_ret ?_
      refine then_r ?_
      have h38' : (writeD d (2, encC' c)).2 ≠ 0 := by simpa using h38
      have ha : (⟨(writeD d (2, encC' c)).1, SW.pl ⟨q, .slice A1 T.length c1, .slice A2 C.length c2, T, C, dead⟩, decide ((writeD d (2, encC' c)).2 = 8)⟩, 0, (writeD d (2, encC' c)).2) = y := by rw [← hy]; exact (addR_wr (x := ⟨d, SW.pl ⟨q, .slice A1 T.length c1, .slice A2 C.length c2, T, C, dead⟩, dead⟩) hdd rfl h30' h38').symm
      subst ha
      exact done_ret [FSA q (writeD d (2, encC' c)).1, stH p ⟨q, .slice A1 T.length c1, .slice A2 C.length c2, T, C, decide ((writeD d (2, encC' c)).2 = 8)⟩, ttA ⟨q, .slice A1 T.length c1, .slice A2 C.length c2, T, C, dead⟩, ccA ⟨q, .slice A1 T.length c1, .slice A2 C.length c2, T, C, dead⟩, ro μ] (.tmp rfl (.tmp rfl .nil)) ⟨⟨q, .slice A1 T.length c1, .slice A2 C.length c2, T, C, decide ((writeD d (2, encC' c)).2 = 8)⟩, μ, ⟨Le.refl _, SW.Ok.dead hW0 _, rfl, rfl, rfl, rfl⟩, rfl⟩ sp0
     ·skip
      have h38' : (writeD d (2, encC' c)).2 = 0 := by simpa using h38
      have ha : (⟨(writeD d (2, encC' c)).1, ((SW.pl ⟨q, .slice A1 T.length c1, .slice A2 C.length c2, T, C, dead⟩).1, (SW.pl ⟨q, .slice A1 T.length c1, .slice A2 C.length c2, T, C, dead⟩).2 ++ [c]), false⟩, ((C.length : Nat) : Int), 0) = y := by rw [← hy]; exact (addR_ok (x := ⟨d, SW.pl ⟨q, .slice A1 T.length c1, .slice A2 C.length c2, T, C, dead⟩, dead⟩) hdd rfl h30' h38').symm
      have hd8 : decide ((writeD d (2, encC' c)).2 = 8) = false := by rw [h38']; rfl
      rw [hd8]
      subst ha
      refine swp_skip ?_
      refine then_n ?_
      refine swp_seq ?_
      refine swp_draw [4, 6, 9] ([stH p ⟨q, .slice A1 T.length c1, .slice A2 C.length c2, T, C, false⟩, blk b3 25 [.slice A5 c.1.length c5, .int .i64 c.2]]) ([FSA q (writeD d (2, encC' c)).1, ro μ, ttA ⟨q, .slice A1 T.length c1, .slice A2 C.length c2, T, C, dead⟩, ccA ⟨q, .slice A1 T.length c1, .slice A2 C.length c2, T, C, dead⟩]) (Split.ent sp0) kr0 ?_
      refine d_pu 0 rfl (pu_move rfl) kr0 kr0 kr0 ?_
      refine d_pu 1 rfl (pu_move rfl) kr0 kr0 kr0 ?_
      refine d_pu 2 rfl (pu_nilCheck rfl) kr0 kr0 kr0 ?_
      refine d_pu 3 rfl (pu_fieldAddr0 rfl) kr0 kr0 kr0 ?_
      refine d_rd 4 rfl (rd_load rfl rfl) rfl kr0 kr0 kr0 ?_
      refine d_pu 5 rfl (pu_fieldAddr0 rfl) kr0 kr0 kr0 ?_
      refine d_rd 6 rfl (rd_load rfl rfl) rfl kr0 kr0 kr0 ?_
      refine d_pu 8 rfl (pu_fieldAddr0 rfl) kr0 kr0 kr0 ?_
      refine d_rd 9 rfl (rd_load rfl rfl) rfl kr0 kr0 kr0 ?_
      refine d_eft 7 rfl kr0 (ef_fn (cloneI_spec μ (.slice A5 c.1.length c5) c.1 hv om0) rfl rfl sp0) ?_
      rintro v47 L1 ⟨A3, c3, rfl, rfl⟩
      refine ⟨_, ent_appC (Split.ent sp0), ?_⟩
      refine d_pu 10 rfl (pu_bld (qs := [(0, _), (1, _)]) rfl) kr0 kr0 kr0 ?_
      refine d_eft 11 rfl kr0 (ef_bldS (qs := [(0, _)]) rfl rfl rfl) ?_
      intro b51
      refine ⟨_, Split.ent sp0, ?_⟩
      refine d_fint 12 rfl kr0 kr0 (ef_append_lit (l := C.length) (m := 1) rfl rfl sp0 (by simp only [maxLen]; omega) om0) ?_
      rintro v52 -
      refine swd_factf (fun m h => own_form h) fun ⟨A45, c45, hv45⟩ => ?_
      subst hv45
      refine d_pu 13 rfl (pu_nilCheck rfl) kr0 kr0 kr0 ?_
      refine d_pu 14 rfl (pu_fieldAddr0 rfl) kr0 kr0 kr0 ?_
      refine d_fin0f 15 rfl kr0 kr0 (ef_store rfl rfl rfl) ?_
      refine d_sub _ (sc0 0 rfl .nil) ?_
      refine d_nilf kr0 ?_
      refine then_n ?_
      refine swp_seq ?_
      refine swp_share_own (μ := μ) (v := .slice A3 c.1.length c3) (e := 3) (n := 1) sp0 fun μ' hle hrow => ?_
      refine swp_region ?_
      refine s_mv rfl ?_
      refine s_pu (pu_nilCheck rfl) ?_
      refine s_pu (pu_fieldAddr0 rfl) ?_
      refine s_rd (rd_load rfl rfl) ?_
      refine s_pu (pu_len rfl) ?_
      refine s_pu (pu_sub_as ((C.length : Nat) : Int) rfl rfl om0 om0 om0) ?_
      refine s_as rfl ?_
      refine s_as rfl ?_
      refine swl_sub _ (sc0 4 rfl (sc0 5 rfl .nil)) ?_
      refine swl_nn ?_
      refine swp_ret ?_
      refine done_ret [FSA q (writeD d (2, encC' c)).1, stH p ⟨q, .slice A1 T.length c1, .slice A45 (C.length + 1) c45, T, C ++ [(.slice A3 c.1.length c3, c)], false⟩, ttA ⟨q, .slice A1 T.length c1, .slice A2 C.length c2, T, C, dead⟩, own 25 2 (.slice A45 (C.length + 1) c45) (C.length + 1) (C.flatMap ccs ++ [.slice A3 c.1.length c3, .int .i64 c.2]), ro μ'] (.tmp rfl (.tmp rfl .nil)) ⟨⟨q, .slice A1 T.length c1, .slice A45 (C.length + 1) c45, T, C ++ [(.slice A3 c.1.length c3, c)], false⟩, μ', ⟨hle, SW.Ok.dead (Ok.addC hW0 hle hrow h30') false, rfl, ?_, rfl, rfl⟩, ?_⟩ sp0
      ·unfold SW.pl; rw [List.map_append]; rfl
      ·simp only [ccA, List.length_append, List.length_singleton, List.flatMap_append]; rfl
end SX
namespace SX
open Go Go.Proofs
def treeAt (ts : List (List En)) (n : Int) : List En × Int := if 0 ≤ n then match ts[n.toNat]? with | some t => (t, 0) | none => ([], 9) else ([], 9)
def comAt (cs : List Cm) (n : Int) : Cm × Int := if 0 ≤ n then match cs[n.toNat]? with | some c => (c, 0) | none => (([], 0), 9) else (([], 0), 9)
theorem treeAt_no {ts : List (List En)} {n : Int} (h : n < 0 ∨ (ts.length : Int) ≤ n) : treeAt ts n = ([], 9) := by
  unfold treeAt
  split
  · rw [List.getElem?_eq_none om0]
  · rfl
theorem comAt_no {cs : List Cm} {n : Int} (h : n < 0 ∨ (cs.length : Int) ≤ n) : comAt cs n = (([], 0), 9) := by
  unfold comAt
  split
  · rw [List.getElem?_eq_none om0]
  · rfl
theorem treeAt_at {ts : List (List En)} {k : Nat} {t : List En} (h : ts[k]? = some t) : treeAt ts (k : Nat) = (t, 0) := by
  unfold treeAt
  rw [if_pos (Int.natCast_nonneg k), Int.toNat_natCast, h]
theorem comAt_at {cs : List Cm} {k : Nat} {c : Cm} (h : cs[k]? = some c) : comAt cs (k : Nat) = (c, 0) := by
  unfold comAt
  rw [if_pos (Int.natCast_nonneg k), Int.toNat_natCast, h]
theorem trees_spec (p : Nat) (W : SW) (μ : PH) (hW : W.Ok μ) : Spec Tryz.prog 20 [pv p] [stH p W] (fun r L => r = .int .i64 (W.T.length : Nat) ∧ L = [stH p W]) := by
 obtain ⟨⟨A1, c1, e1⟩, ⟨A2, c2, e2⟩, _, _, hT, hC⟩ := hW
 obtain ⟨q, tv, cv, T, C, dead⟩ := W
 dsimp only at e1 e2 hT hC
 subst e1 e2
 refine Spec.of 10 Tryz.func20 rfl rfl rfl ?_
 refine swp_sr ?_
 refine s_as rfl ?_
 refine swl_sub _ (sc0 0 rfl .nil) ?_
 refine swl_nn ?_
 refine swp_seq ?_
 refine swp_sr ?_
 refine s_mv rfl ?_
 refine s_pu (pu_ptr_eq_nil rfl rfl) ?_
 refine swl_sub _ (sc0 0 rfl (sc0 4 rfl .nil)) ?_
 refine swl_nn ?_
 refine swp_cond (b := _) rfl (fun h4 => by cases h4) (fun h4 => ?_)
 refine swp_skip ?_
 refine then_n ?_
 refine swp_sr ?_
 refine s_mv rfl ?_
 refine s_pu (pu_nilCheck rfl) ?_
 refine s_pu (pu_fieldAddr0 rfl) ?_
 refine s_rd (rd_load rfl rfl) ?_
 refine s_pu (pu_len rfl) ?_
 refine s_as rfl ?_
 refine swl_sub _ (sc0 2 rfl .nil) ?_
 refine swl_nn ?_
 refine swp_ret ?_
 exact done_ret [stH p ⟨q, .slice A1 T.length c1, .slice A2 C.length c2, T, C, dead⟩] (.tmp rfl .nil) ⟨rfl, rfl⟩ sp0
theorem coms_spec (p : Nat) (W : SW) (μ : PH) (hW : W.Ok μ) : Spec Tryz.prog 22 [pv p] [stH p W] (fun r L => r = .int .i64 (W.C.length : Nat) ∧ L = [stH p W]) := by
 obtain ⟨⟨A1, c1, e1⟩, ⟨A2, c2, e2⟩, _, _, hT, hC⟩ := hW
 obtain ⟨q, tv, cv, T, C, dead⟩ := W
 dsimp only at e1 e2 hT hC
 subst e1 e2
 refine Spec.of 10 Tryz.func22 rfl rfl rfl ?_
 refine swp_sr ?_
 refine s_as rfl ?_
 refine swl_sub _ (sc0 0 rfl .nil) ?_
 refine swl_nn ?_
 refine swp_seq ?_
 refine swp_sr ?_
 refine s_mv rfl ?_
 refine s_pu (pu_ptr_eq_nil rfl rfl) ?_
 refine swl_sub _ (sc0 0 rfl (sc0 4 rfl .nil)) ?_
 refine swl_nn ?_
 refine swp_cond (b := _) rfl (fun h4 => by cases h4) (fun h4 => ?_)
 refine swp_skip ?_
 refine then_n ?_
 refine swp_sr ?_
 refine s_mv rfl ?_
 refine s_pu (pu_nilCheck rfl) ?_
 refine s_pu (pu_fieldAddr0 rfl) ?_
 refine s_rd (rd_load rfl rfl) ?_
 refine s_pu (pu_len rfl) ?_
 refine s_as rfl ?_
 refine swl_sub _ (sc0 2 rfl .nil) ?_
 refine swl_nn ?_
 refine swp_ret ?_
 exact done_ret [stH p ⟨q, .slice A1 T.length c1, .slice A2 C.length c2, T, C, dead⟩] (.tmp rfl .nil) ⟨rfl, rfl⟩ sp0
theorem dead_spec (p : Nat) (W : SW) : Spec Tryz.prog 26 [pv p] [stH p W] (fun r L => r = .bool W.dead ∧ L = [stH p W]) := by
 refine Spec.of 11 Tryz.func26 rfl rfl rfl ?_
 refine swp_sr ?_
 refine s_as rfl ?_
 refine swl_sub _ (sc0 0 rfl .nil) ?_
 refine swl_nn ?_
 refine swp_sr ?_
 refine s_mv rfl ?_
 refine s_pu (pu_ptr_ne_nil rfl rfl) ?_
 refine s_mv rfl ?_
 refine s_split 5 rfl (fun h5 => ?_) (fun h5 => by cases h5)
 refine s_on rfl rfl ?_
 refine s_mv rfl ?_
 refine s_on rfl rfl ?_
 refine s_pu (pu_nilCheck rfl) ?_
 refine s_on rfl rfl ?_
 refine s_pu (pu_fieldAddr0 rfl) ?_
 refine s_on rfl rfl ?_
 refine s_rd (rd_load rfl rfl) ?_
 refine s_pu (pu_pick_t rfl rfl) ?_
 refine s_as rfl ?_
 refine swl_sub _ (sc0 2 rfl .nil) ?_
 refine swl_nn ?_
 refine swp_ret ?_
 exact done_ret [stH p W] (.tmp rfl .nil) ⟨rfl, rfl⟩ sp0
theorem tcs_get {T : List (Value × List En)} {k : Nat} {x : Value × List En} (h : T[k]? = some x) : (T.flatMap tcs)[k * 1]? = some x.1 := by
  have := flat_get (f := tcs) (k := 1) (fun x => (rfl : (tcs x).length = 1)) T [] k x h 0 x.1 rfl
  rwa [List.append_nil, Nat.add_zero] at this
theorem ccs_get {C : List (Value × Cm)} {k : Nat} {x : Value × Cm} (h : C[k]? = some x) : (C.flatMap ccs)[k * 2]? = some x.1 ∧ (C.flatMap ccs)[k * 2 + 1]? = some (.int .i64 x.2.2) := by
  have h0 := flat_get (f := ccs) (k := 2) (fun x => (rfl : (ccs x).length = 2)) C [] k x h 0 x.1 rfl
  have h1 := flat_get (f := ccs) (k := 2) (fun x => (rfl : (ccs x).length = 2)) C [] k x h 1 (.int .i64 x.2.2) rfl
  rw [List.append_nil] at h0 h1
  exact ⟨h0, h1⟩
set_option maxHeartbeats 2000000 in
theorem tree_spec (p : Nat) (W : SW) (μ : PH) (hW : W.Ok μ) (hlt : ∀ x ∈ W.T, x.2.length ≤ 1048576) (n : Int) : Spec Tryz.prog 21 [pv p, .int .i64 n] [stH p W, ttA W, ro μ] (fun r L => ∃ A c, r = .tuple #[.slice A (treeAt W.pl.1 n).1.length c, .int .i64 (treeAt W.pl.1 n).2] ∧ L = [own 47 2 (.slice A (treeAt W.pl.1 n).1.length c) (treeAt W.pl.1 n).1.length (ens (treeAt W.pl.1 n).1), stH p W, ttA W, ro μ]) := by
 have hW0 := hW
 obtain ⟨⟨A1, c1, e1⟩, ⟨A2, c2, e2⟩, htr, hcr, hT, hC⟩ := hW
 obtain ⟨q, tv, cv, T, C, dead⟩ := W
 dsimp only at e1 e2 htr hcr hT hC hlt
 subst e1 e2
 have hlen : (SW.pl ⟨q, .slice A1 T.length c1, .slice A2 C.length c2, T, C, dead⟩).1.length = T.length := List.length_map _
 refine Spec.of 29 Tryz.func21 rfl rfl rfl ?_
 refine swp_sr ?_
 refine s_as rfl ?_
 refine s_as rfl ?_
 refine swl_sub _ (sc0 0 rfl (sc0 1 rfl .nil)) ?_
 refine swl_nn ?_
 refine swp_seq ?_
 refine swp_block ?_
 refine swp_sr ?_
 refine s_mv rfl ?_
 refine s_pu (pu_ptr_eq_nil rfl rfl) ?_
 refine s_as rfl ?_
 refine swl_sub _ (sc0 0 rfl (sc0 1 rfl (sc0 6 rfl .nil))) ?_
 refine swl_nn ?_
 refine swp_cond (b := _) rfl (fun h6 => by cases h6) (fun h6 => ?_)
 refine swp_sr ?_
 refine s_mv rfl ?_
 refine s_pu (pu_lss rfl rfl) ?_
 refine s_mv rfl ?_
 refine s_split 12 rfl (fun h12 => ?_) (fun h12 => ?_)
 ·skip
  have h12' : n < 0 := of_decide_eq_true h12
  rw [treeAt_no (.inl h12')]
  refine s_off rfl rfl rfl ?_
  refine s_off rfl rfl rfl ?_
  refine s_off rfl rfl rfl ?_
  refine s_off rfl rfl rfl ?_
  refine s_off rfl rfl rfl ?_
  refine s_off rfl rfl rfl ?_
  refine s_off rfl rfl rfl ?_
  refine s_pu (pu_pick_t rfl rfl) ?_
  refine s_as rfl ?_
  refine swl_sub _ (sc0 0 rfl (sc0 1 rfl (sc0 9 rfl .nil))) ?_
  refine swl_nn ?_
  refine swp_cond (b := _) rfl (fun h9 => ?_) (fun h9 => by cases h9)
  refine swp_sr ?_
  refine s_as rfl ?_
  refine s_as rfl ?_
  refine swl_sub _ (sc0 4 rfl (sc0 5 rfl .nil)) ?_
  refine swl_nn ?_
  refine swp_ret ?_
  refine block_r ?_
  refine then_r ?_
  exact done_retE [own 47 2 (.slice none 0 0) 0 [], stH p ⟨q, .slice A1 T.length c1, .slice A2 C.length c2, T, C, dead⟩, ttA ⟨q, .slice A1 T.length c1, .slice A2 C.length c2, T, C, dead⟩, ro μ] (.tmp rfl (.tmp rfl .nil)) ⟨none, 0, rfl, rfl⟩ own_nil_ent
 ·skip
  have h12' : 0 ≤ n := by have := of_decide_eq_false h12; omega
  refine s_on rfl rfl ?_
  refine s_mv rfl ?_
  refine s_on rfl rfl ?_
  refine s_mv rfl ?_
  refine s_on rfl rfl ?_
  refine s_pu (pu_nilCheck rfl) ?_
  refine s_on rfl rfl ?_
  refine s_pu (pu_fieldAddr0 rfl) ?_
  refine s_on rfl rfl ?_
  refine s_rd (rd_load rfl rfl) ?_
  refine s_on rfl rfl ?_
  refine s_pu (pu_len rfl) ?_
  refine s_on rfl rfl ?_
  refine s_pu (pu_geq rfl rfl) ?_
  refine s_pu (pu_pick_f rfl rfl) ?_
  refine s_as rfl ?_
  refine swl_sub _ (sc0 0 rfl (sc0 1 rfl (sc0 9 rfl .nil))) ?_
  refine swl_nn ?_
  refine swp_cond (b := _) rfl (fun h9 => ?_) (fun h9 => ?_)
  ·skip
   refine swp_sr ?_
   refine s_as rfl ?_
   refine s_as rfl ?_
   refine swl_sub _ (sc0 4 rfl (sc0 5 rfl .nil)) ?_
   refine swl_nn ?_
   refine swp_ret ?_
   refine block_r ?_
   refine then_r ?_
   have h9' : (T.length : Int) ≤ n := of_decide_eq_true h9
   rw [treeAt_no (.inr (by rw [hlen]; exact h9'))]
   exact done_retE [own 47 2 (.slice none 0 0) 0 [], stH p ⟨q, .slice A1 T.length c1, .slice A2 C.length c2, T, C, dead⟩, ttA ⟨q, .slice A1 T.length c1, .slice A2 C.length c2, T, C, dead⟩, ro μ] (.tmp rfl (.tmp rfl .nil)) ⟨none, 0, rfl, rfl⟩ own_nil_ent
  ·skip
   have h9' : ¬ (T.length : Int) ≤ n := of_decide_eq_false h9
   obtain ⟨k, rfl⟩ : ∃ k : Nat, n = (k : Int) := ⟨n.toNat, by omega⟩
   have hk : k < T.length := by omega
   obtain ⟨x, hx⟩ : ∃ x, T[k]? = some x := ⟨_, List.getElem?_eq_getElem hk⟩
   have hxt : (SW.pl ⟨q, .slice A1 T.length c1, .slice A2 C.length c2, T, C, dead⟩).1[k]? = some x.2 := by show (T.map (·.2))[k]? = _; rw [List.getElem?_map, hx]; rfl
   rw [treeAt_at hxt]
   have hxm := List.mem_of_getElem? hx
   have hxr := htr x hxm
   refine swp_fact (fun m h => own_shape (e := 22) (n := 1) (v := .slice A1 T.length c1) (l := T.length) (xs := T.flatMap tcs) tk0 h) fun hs => ?_
   obtain ⟨b, rfl⟩ : ∃ b, A1 = some ⟨b, 0, none⟩ := by
    rcases hs with ⟨_, h⟩ | ⟨b, cap, h, _⟩
    ·omega
    ·injection h with h1; exact ⟨b, h1⟩
   refine swp_skip ?_
   refine block_n ?_
   refine then_n ?_
   refine swp_sr ?_
   refine s_mv rfl ?_
   refine s_pu (pu_nilCheck rfl) ?_
   refine s_pu (pu_fieldAddr0 rfl) ?_
   refine s_rd (rd_load rfl rfl) ?_
   refine s_mv rfl ?_
   refine s_pu (pu_indexAddr (0 + k * 1) rfl rfl om0 om0 (by rw [Int.toNat_natCast])) ?_
   refine s_rd (rd_of_ld rfl (by rw [Nat.zero_add]; exact ld_ownN (e := 22) (n := 1) tk0 (tcs_get hx))) ?_
   refine s_ef (ef_fn (cloneT_spec μ x.1 x.2 hxr (hlt x hxm)) rfl rfl sp0) ?_
   rintro v28 L1 ⟨A3, c3, rfl, rfl⟩
   refine swl_app ?_
   refine s_as rfl ?_
   refine s_as rfl ?_
   refine swl_sub _ (sc0 4 rfl (sc0 5 rfl .nil)) ?_
   refine swl_nn ?_
   refine swp_ret ?_
   exact done_ret [own 47 2 (.slice A3 x.2.length c3) x.2.length (ens x.2), stH p ⟨q, .slice (some ⟨b, 0, none⟩) T.length c1, .slice A2 C.length c2, T, C, dead⟩, ttA ⟨q, .slice (some ⟨b, 0, none⟩) T.length c1, .slice A2 C.length c2, T, C, dead⟩, ro μ] (.tmp rfl (.tmp rfl .nil)) ⟨A3, c3, rfl, rfl⟩ sp0
end SX
namespace SX
open Go Go.Proofs
theorem ccs_row {C : List (Value × Cm)} {k : Nat} {x : Value × Cm} (h : C[k]? = some x) : ∀ j v, [x.1, .int .i64 x.2.2][j]? = some v → (C.flatMap ccs)[0 + k * 2 + j]? = some v := fun j v hv => by
  obtain ⟨h0, h1⟩ := ccs_get h
  rw [Nat.zero_add]
  match j, hv with
  | 0, hv => cases hv; exact h0
  | 1, hv => cases hv; exact h1
  | j + 2, hv => cases hv
set_option maxHeartbeats 2000000 in
theorem commit_spec (p : Nat) (W : SW) (μ : PH) (hW : W.Ok μ) (hlt : ∀ x ∈ W.C, x.2.1.length ≤ 1048576) (n : Int) : Spec Tryz.prog 23 [pv p, .int .i64 n] [stH p W, ccA W, ro μ] (fun r L => ∃ A c, r = .tuple #[cmV (.slice A (comAt W.pl.2 n).1.1.length c) (comAt W.pl.2 n).1.2, .int .i64 (comAt W.pl.2 n).2] ∧ L = [own 3 1 (.slice A (comAt W.pl.2 n).1.1.length c) (comAt W.pl.2 n).1.1.length ((comAt W.pl.2 n).1.1.flatMap (icsk .i64)), stH p W, ccA W, ro μ]) := by
 have hW0 := hW
 obtain ⟨⟨A1, c1, e1⟩, ⟨A2, c2, e2⟩, htr, hcr, hT, hC⟩ := hW
 obtain ⟨q, tv, cv, T, C, dead⟩ := W
 dsimp only at e1 e2 htr hcr hT hC hlt
 subst e1 e2
 have hlen : (SW.pl ⟨q, .slice A1 T.length c1, .slice A2 C.length c2, T, C, dead⟩).2.length = C.length := List.length_map _
 refine Spec.of 37 Tryz.func23 rfl rfl rfl ?_
 refine swp_sr ?_
 refine s_ef (ef_alloc) ?_
 intro b4
 refine s_as rfl ?_
 refine swl_sub _ (sc0 0 rfl (sc0 1 rfl (sc0 4 rfl .nil))) ?_
 refine swl_nn ?_
 refine swp_seq ?_
 refine swp_block ?_
 refine swp_sr ?_
 refine s_mv rfl ?_
 refine s_pu (pu_ptr_eq_nil rfl rfl) ?_
 refine s_as rfl ?_
 refine swl_sub _ (sc0 0 rfl (sc0 1 rfl (sc0 4 rfl (sc0 7 rfl .nil)))) ?_
 refine swl_nn ?_
 refine swp_cond (b := _) rfl (fun h7 => by cases h7) (fun h7 => ?_)
 refine swp_sr ?_
 refine s_mv rfl ?_
 refine s_pu (pu_lss rfl rfl) ?_
 refine s_mv rfl ?_
 refine s_split 14 rfl (fun h14 => ?_) (fun h14 => ?_)
 ·skip
  have h12' : n < 0 := of_decide_eq_true h14
  rw [comAt_no (.inl h12')]
  refine s_off rfl rfl rfl ?_
  refine s_off rfl rfl rfl ?_
  refine s_off rfl rfl rfl ?_
  refine s_off rfl rfl rfl ?_
  refine s_off rfl rfl rfl ?_
  refine s_off rfl rfl rfl ?_
  refine s_off rfl rfl rfl ?_
  refine s_pu (pu_pick_t rfl rfl) ?_
  refine s_as rfl ?_
  refine swl_sub _ (sc0 0 rfl (sc0 1 rfl (sc0 4 rfl (sc0 11 rfl .nil)))) ?_
  refine swl_nn ?_
  refine swp_cond (b := _) rfl (fun h11 => ?_) (fun h11 => by cases h11)
  refine swp_sr ?_
  refine s_pu (pu_bld (qs := []) rfl) ?_
  refine s_ef0 (ef_storeA rfl rfl rfl rfl) ?_
  refine s_as rfl ?_
  refine swl_sub _ (sc0 4 rfl (sc0 5 rfl .nil)) ?_
  refine swl_nn ?_
  refine swp_ret ?_
  refine block_r ?_
  refine then_r ?_
  exact done_retE [own 3 1 (.slice none 0 0) 0 [], stH p ⟨q, .slice A1 T.length c1, .slice A2 C.length c2, T, C, dead⟩, ccA ⟨q, .slice A1 T.length c1, .slice A2 C.length c2, T, C, dead⟩, ro μ] (.cell rfl (ld_whole rfl) (.tmp rfl .nil)) ⟨none, 0, rfl, rfl⟩ ((Split.ent' (K := [stH p ⟨q, .slice A1 T.length c1, .slice A2 C.length c2, T, C, dead⟩, ccA ⟨q, .slice A1 T.length c1, .slice A2 C.length c2, T, C, dead⟩, ro μ]) sp0).trans own_nil_ent)
 ·skip
  have h12' : 0 ≤ n := by have := of_decide_eq_false h14; omega
  refine s_on rfl rfl ?_
  refine s_mv rfl ?_
  refine s_on rfl rfl ?_
  refine s_mv rfl ?_
  refine s_on rfl rfl ?_
  refine s_pu (pu_nilCheck rfl) ?_
  refine s_on rfl rfl ?_
  refine s_pu (pu_fieldAddr0 rfl) ?_
  refine s_on rfl rfl ?_
  refine s_rd (rd_load rfl rfl) ?_
  refine s_on rfl rfl ?_
  refine s_pu (pu_len rfl) ?_
  refine s_on rfl rfl ?_
  refine s_pu (pu_geq rfl rfl) ?_
  refine s_pu (pu_pick_f rfl rfl) ?_
  refine s_as rfl ?_
  refine swl_sub _ (sc0 0 rfl (sc0 1 rfl (sc0 4 rfl (sc0 11 rfl .nil)))) ?_
  refine swl_nn ?_
  refine swp_cond (b := _) rfl (fun h11 => ?_) (fun h11 => ?_)
  ·skip
   refine swp_sr ?_
   refine s_pu (pu_bld (qs := []) rfl) ?_
   refine s_ef0 (ef_storeA rfl rfl rfl rfl) ?_
   refine s_as rfl ?_
   refine swl_sub _ (sc0 4 rfl (sc0 5 rfl .nil)) ?_
   refine swl_nn ?_
   refine swp_ret ?_
   refine block_r ?_
   refine then_r ?_
   have h9' : (C.length : Int) ≤ n := of_decide_eq_true h11
   rw [comAt_no (.inr (by rw [hlen]; exact h9'))]
   exact done_retE [own 3 1 (.slice none 0 0) 0 [], stH p ⟨q, .slice A1 T.length c1, .slice A2 C.length c2, T, C, dead⟩, ccA ⟨q, .slice A1 T.length c1, .slice A2 C.length c2, T, C, dead⟩, ro μ] (.cell rfl (ld_whole rfl) (.tmp rfl .nil)) ⟨none, 0, rfl, rfl⟩ ((Split.ent' (K := [stH p ⟨q, .slice A1 T.length c1, .slice A2 C.length c2, T, C, dead⟩, ccA ⟨q, .slice A1 T.length c1, .slice A2 C.length c2, T, C, dead⟩, ro μ]) sp0).trans own_nil_ent)
  ·skip
   have h9' : ¬ (C.length : Int) ≤ n := of_decide_eq_false h11
   obtain ⟨k, rfl⟩ : ∃ k : Nat, n = (k : Int) := ⟨n.toNat, by omega⟩
   have hk : k < C.length := by omega
   obtain ⟨x, hx⟩ : ∃ x, C[k]? = some x := ⟨_, List.getElem?_eq_getElem hk⟩
   have hxt : (SW.pl ⟨q, .slice A1 T.length c1, .slice A2 C.length c2, T, C, dead⟩).2[k]? = some x.2 := by show (C.map (·.2))[k]? = _; rw [List.getElem?_map, hx]; rfl
   rw [comAt_at hxt]
   have hxm := List.mem_of_getElem? hx
   have hxr := hcr x hxm
   obtain ⟨A6, c6, hx1⟩ := hxr.sl
   have hrow := ccs_row hx
   rw [hx1] at hrow hxr
   refine swp_fact (fun m h => own_shape (e := 25) (n := 2) (v := .slice A2 C.length c2) (l := C.length) (xs := C.flatMap ccs) tk0 h) fun hs => ?_
   obtain ⟨b, rfl⟩ : ∃ b, A2 = some ⟨b, 0, none⟩ := by
    rcases hs with ⟨_, h⟩ | ⟨b, cap, h, _⟩
    ·omega
    ·injection h with h1; exact ⟨b, h1⟩
   refine swp_skip ?_
   refine block_n ?_
   refine then_n ?_
   refine swp_sr ?_
   refine s_mv rfl ?_
   refine s_pu (pu_nilCheck rfl) ?_
   refine s_pu (pu_fieldAddr0 rfl) ?_
   refine s_rd (rd_load rfl rfl) ?_
   refine s_mv rfl ?_
   refine s_pu (pu_indexAddr (0 + k * 2) rfl rfl om0 om0 (by rw [Int.toNat_natCast])) ?_
   refine s_rd (rd_of_ld rfl (ld_ownA (e := 25) (n := 2) (vs := [.slice A6 x.2.1.length c6, .int .i64 x.2.2]) tk0 rfl hrow)) ?_
   refine s_ef (ef_alloc) ?_
   intro b6
   refine s_ef0 (ef_storeA rfl rfl rfl rfl) ?_
   refine swl_sub _ (sc0 4 rfl (sc0 6 rfl .nil)) ?_
   refine swl_nn ?_
   refine swp_seq ?_
   refine swp_draw [1, 4] ([blk b6 25 [.slice A6 x.2.1.length c6, .int .i64 x.2.2]]) ([blk b4 25 [.slice none 0 0, .int .i64 0], stH p ⟨q, .slice A1 T.length c1, .slice (some ⟨b, 0, none⟩) C.length c2, T, C, dead⟩, ccA ⟨q, .slice A1 T.length c1, .slice (some ⟨b, 0, none⟩) C.length c2, T, C, dead⟩, ro μ]) (Split.ent sp0) kr0 ?_
   refine d_pu 0 rfl (pu_fieldAddr0 rfl) kr0 kr0 kr0 ?_
   refine d_rd 1 rfl (rd_load rfl rfl) rfl kr0 kr0 kr0 ?_
   refine d_pu 3 rfl (pu_fieldAddr0 rfl) kr0 kr0 kr0 ?_
   refine d_rd 4 rfl (rd_load rfl rfl) rfl kr0 kr0 kr0 ?_
   refine d_eft 2 rfl kr0 (ef_fn (cloneI_spec μ (.slice A6 x.2.1.length c6) x.2.1 hxr (hlt x hxm)) rfl rfl sp0) ?_
   rintro v33 L1 ⟨A3, c3, rfl, rfl⟩
   refine ⟨_, ent_appC (Split.ent sp0), ?_⟩
   refine d_pu 5 rfl (pu_bld (qs := [(0, _), (1, _)]) rfl) kr0 kr0 kr0 ?_
   refine d_fin0t 6 rfl kr0 kr0 (ef_storeA rfl rfl rfl rfl) ?_
   refine d_pu 7 rfl (pu_assign rfl) kr0 kr0 kr0 ?_
   refine d_sub _ (sc0 4 rfl (sc0 5 rfl .nil)) ?_
   refine d_nilf kr0 ?_
   refine then_n ?_
   refine swp_ret ?_
   exact done_ret [own 3 1 (.slice A3 x.2.1.length c3) x.2.1.length (x.2.1.flatMap (icsk .i64)), stH p ⟨q, .slice A1 T.length c1, .slice (some ⟨b, 0, none⟩) C.length c2, T, C, dead⟩, ccA ⟨q, .slice A1 T.length c1, .slice (some ⟨b, 0, none⟩) C.length c2, T, C, dead⟩, ro μ] (.cell rfl (ld_whole rfl) (.tmp rfl .nil)) ⟨A3, c3, rfl, rfl⟩ sp0
/-- commits' parents -/
abbrev parS (s : St2) : List (List Int) := s.2.map (·.1)
set_option maxHeartbeats 2000000 in
theorem graph_spec (p : Nat) (W : SW) (μ : PH) (hW : W.Ok μ) (hlt : ∀ x ∈ W.C, x.2.1.length ≤ 1048576) : Spec Tryz.prog 19 [pv p] [stH p W, ccA W, ro μ] (fun r L => ∃ μ' G, Le μ μ' ∧ Graph μ' r G ∧ nums G = parS W.pl ∧ L = [stH p W, ccA W, ro μ']) := by
 have hW0 := hW
 obtain ⟨⟨A1, c1, e1⟩, ⟨A2, c2, e2⟩, htr, hcr, hT, hC⟩ := hW
 obtain ⟨q, tv, cv, T, C, dead⟩ := W
 dsimp only at e1 e2 htr hcr hT hC hlt
 subst e1 e2
 refine Spec.of 24 Tryz.func19 rfl rfl rfl ?_
 refine swp_sr ?_
 refine s_as rfl ?_
 refine swl_sub _ (sc0 0 rfl .nil) ?_
 refine swl_nn ?_
 refine swp_sr ?_
 refine s_as rfl ?_
 refine swl_sub _ (sc0 0 rfl (sc0 3 rfl .nil)) ?_
 refine swl_nn ?_
 refine swp_seq ?_
 refine swp_sr ?_
 refine s_mv rfl ?_
 refine s_ef (ef_fn (coms_spec p ⟨q, .slice A1 T.length c1, .slice A2 C.length c2, T, C, dead⟩ μ hW0) rfl rfl sp0) ?_
 rintro v6 L1 ⟨rfl, rfl⟩
 refine swl_app ?_
 refine s_mv rfl ?_
 refine swl_sub _ (sc0 0 rfl (sc0 3 rfl (sc0 6 rfl (sc0 7 rfl .nil)))) ?_
 refine swl_nn ?_
 refine swp_block ?_
 refine swp_ent (own_nil_ent (e := 23) (n := 1)) ?_
 refine swp_loop (ι := Nat × Value × List (Value × List Int) × PH) (fun k env L => Sub env [(0, pv p), (3, k.2.1), (6, .int .i64 (C.length : Nat)), (7, .int .i64 (k.1 : Nat))] ∧ Ent L [own 23 1 k.2.1 k.1 (k.2.2.1.flatMap gcs), stH p ⟨q, .slice A1 T.length c1, .slice A2 C.length c2, T, C, dead⟩, ccA ⟨q, .slice A1 T.length c1, .slice A2 C.length c2, T, C, dead⟩, ro k.2.2.2] ∧ k.1 ≤ C.length ∧ Le μ k.2.2.2 ∧ nums k.2.2.1 = ((C.take k.1).map (·.2)).map (·.1) ∧ (∀ x ∈ k.2.2.1, Row k.2.2.2 x.1 1 x.2.length (x.2.flatMap (icsk .i64)))) (fun k => C.length - k.1) (0, .slice none 0 0, [], μ) ⟨⟨rfl, rfl, rfl, rfl, trivial⟩, by show Ent _ [own 23 1 (.slice none 0 0) 0 [], stH p ⟨q, .slice A1 T.length c1, .slice A2 C.length c2, T, C, dead⟩, ccA ⟨q, .slice A1 T.length c1, .slice A2 C.length c2, T, C, dead⟩, ro μ]; exact Split.ent' sp0, Nat.zero_le _, Le.refl _, rfl, fun x hx => (by cases hx)⟩ ?_
 rintro ⟨k, v3, Gk, μk⟩ env L ⟨hsub, hE, hk, hle, hnk, hrk⟩
 dsimp only at hsub hE hk hle hnk hrk ⊢
 refine swp_sub _ hsub ?_
 refine swp_ent hE ?_
 clear hsub hE env L
 refine swp_sr ?_
 refine s_pu (pu_lss rfl rfl) ?_
 refine swl_sub _ (sc0 0 rfl (sc0 3 rfl (sc0 6 rfl (sc0 7 rfl (sc0 8 rfl .nil))))) ?_
 refine swl_nn ?_
 refine swp_seq ?_
 refine swp_cond (b := _) rfl (fun h8 => ?_) (fun h8 => ?_)
 ·skip
  have h8' : k < C.length := by have := of_decide_eq_true h8; omega
  obtain ⟨x, hx⟩ : ∃ x, C[k]? = some x := ⟨_, List.getElem?_eq_getElem h8'⟩
  have hxm := List.mem_of_getElem? hx
  have hxr := hcr x hxm
  have hx0 := (ccs_get hx).1
  refine swp_fact (fun m h => own_shape (e := 25) (n := 2) (v := .slice A2 C.length c2) (l := C.length) (xs := C.flatMap ccs) tk0 h) fun hs => ?_
  obtain ⟨b, hA2⟩ : ∃ b, A2 = some ⟨b, 0, none⟩ := by
   rcases hs with ⟨_, h⟩ | ⟨b, cap, h, _⟩
   ·omega
   ·injection h with h1; exact ⟨b, h1⟩
  rw [hA2]
  refine swp_skip ?_
  refine then_n ?_
  refine swp_seq ?_
  refine swp_block ?_
  refine swp_sr ?_
  refine s_mv rfl ?_
  refine s_as rfl ?_
  refine swl_sub _ (sc0 0 rfl (sc0 3 rfl (sc0 4 rfl (sc0 6 rfl (sc0 7 rfl .nil))))) ?_
  refine swl_nn ?_
  refine swp_region ?_
  refine s_mv rfl ?_
  refine s_mv rfl ?_
  refine s_pu (pu_nilCheck rfl) ?_
  refine s_pu (pu_fieldAddr0 rfl) ?_
  refine s_rd (rd_load rfl rfl) ?_
  refine s_mv rfl ?_
  refine s_pu (pu_indexAddr (0 + k * 2) rfl rfl om0 om0 (by rw [Int.toNat_natCast])) ?_
  refine s_pu (pu_fieldAddr rfl) ?_
  refine s_rd (rd_of_ld rfl (by rw [Nat.zero_add]; exact ld_ownN (e := 25) (n := 2) tk0 hx0)) ?_
  refine s_ef (ef_fn (cloneI_spec μk x.1 x.2.1 (hxr.le hle) (hlt x hxm)) rfl rfl sp0) ?_
  rintro v19 L1 ⟨A3, c3, rfl, rfl⟩
  refine swl_app ?_
  refine s_ef (ef_bldS (qs := [(0, _)]) rfl rfl rfl) ?_
  intro b20
  refine s_ef (ef_append_lit (l := k) (m := 1) rfl rfl sp0 (by simp only [maxLen]; omega) om0) ?_
  rintro v21 -
  skip
  refine s_as rfl ?_
  refine swl_sub _ (sc0 0 rfl (sc0 3 rfl (sc0 6 rfl (sc0 7 rfl .nil)))) ?_
  rw [← hA2]
  refine swl_share_own (μ := μk) (v := .slice A3 x.2.1.length c3) (e := 3) (n := 1) sp0 fun μ' hle' hrow' => ?_
  refine swl_nil ?_
  refine block_n ?_
  refine then_n ?_
  refine swp_region ?_
  refine s_pu (pu_add_as ((k + 1 : Nat) : Int) rfl rfl om0 om0 om0) ?_
  refine s_mv rfl ?_
  refine swl_sub _ (sc0 0 rfl (sc0 3 rfl (sc0 6 rfl (sc0 7 rfl .nil)))) ?_
  refine swl_nil ?_
  refine then_n ⟨(k + 1, v21, Gk ++ [(.slice A3 x.2.1.length c3, x.2.1)], μ'), ⟨⟨rfl, rfl, rfl, rfl, trivial⟩, ?_, h8', hle.trans hle', ?_, fun y hy => ?_⟩, by show C.length - (k + 1) < C.length - k; omega⟩
  ·show Ent _ [own 23 1 v21 (k + 1) ((Gk ++ [(Value.slice A3 x.2.1.length c3, x.2.1)]).flatMap gcs), stH p ⟨q, .slice A1 T.length c1, .slice A2 C.length c2, T, C, dead⟩, ccA ⟨q, .slice A1 T.length c1, .slice A2 C.length c2, T, C, dead⟩, ro μ']
   rw [show (Gk ++ [(Value.slice A3 x.2.1.length c3, x.2.1)]).flatMap gcs = Gk.flatMap gcs ++ [Value.slice A3 x.2.1.length c3] by rw [List.flatMap_append]; rfl]
   exact Split.ent' sp0
  ·show List.map (·.2) (Gk ++ [((_ : Value), x.2.1)]) = ((C.take (k + 1)).map (·.2)).map (·.1)
   rw [List.map_append, List.take_add_one, hx, List.map_append, List.map_append, ← hnk]; rfl
  ·rcases List.mem_append.1 hy with hy | hy
   ·exact (hrk y hy).le hle'
   ·obtain rfl : y = (Value.slice A3 x.2.1.length c3, x.2.1) := by simpa using hy
    exact hrow'
 ·skip
  have h8' := of_decide_eq_false h8
  obtain rfl : k = C.length := by omega
  rw [List.take_length] at hnk
  refine swp_exit ?_
  refine then_x ?_
  refine then_x ?_
  refine block_hit rfl ?_
  refine then_n ?_
  refine swp_seq ?_
  refine swp_share_own (μ := μk) (v := v3) (e := 23) (n := 1) sp0 fun μ' hle' hrow' => ?_
  refine swp_region ?_
  refine s_mv rfl ?_
  refine s_as rfl ?_
  refine swl_sub _ (sc0 2 rfl .nil) ?_
  refine swl_nn ?_
  refine swp_ret ?_
  have hGl : C.length = Gk.length := by
   have := congrArg List.length hnk
   simp only [nums, List.length_map] at this
   exact this.symm
  rw [hGl] at hrow'
  exact done_ret [stH p ⟨q, .slice A1 T.length c1, .slice A2 C.length c2, T, C, dead⟩, ccA ⟨q, .slice A1 T.length c1, .slice A2 C.length c2, T, C, dead⟩, ro μ'] (.tmp rfl .nil) ⟨μ', Gk, hle.trans hle', ⟨hrow', fun x hx => (hrk x hx).le hle'⟩, hnk, rfl⟩ sp0
end SX
namespace SX
open Go Go.Proofs
end SX
namespace SX
open Go Go.Proofs
end SX
namespace SX
open Go Go.Proofs
theorem crash_rep {d : Dk} {x : FX} (hd : d.Ok) (hx : Rep d x) {n : Int} {keep : List Int} {ef : Ents ByteArray} {cf b' : Nat} {rs' : List Rc} (hE : NmRel ef (namesAt d n) x.rs) (hB : Born ef cf) (hc : Crs (namesAt d n) keep (ef.map (·.1)) x.rs rs') :
    Rep (crashD d n keep) ⟨b', x.fb, ef, cf, ef, cf, rs', [], .slice none 0 0⟩ := by
  have hno : NmOk d.files.length (namesAt d n) := by rw [namesAt_eq]; exact namesK_ok hd _
  have hE' : NmRel ef (namesAt d n) rs' := hE.to fun y _ => hc.adr _
  have hlen : (crashD d n keep).files.length = d.files.length := by unfold crashD; simp
  refine ⟨hE', hE', hB, hB, by rw [hlen, ← hx.len]; exact hc.len, fun k hk => ?_, rfl, fun i p c hp => by cases hp⟩
  have hk' : ∃ y ∈ namesAt d n, y.2 = k := by
    rcases hk with hk | hk | ⟨c, hc, _⟩
    · exact hk
    · exact hk
    · cases hc
  obtain ⟨y, hy, rfl⟩ := hk'
  have hlt := (hno.good y hy).2
  have hlive : live d y.2 := by
    rw [namesAt_eq] at hy
    rcases namesK_live _ y hy with h | h
    · exact .inr (.inl h)
    · exact .inr (.inr h)
  obtain ⟨r, hr, hf⟩ := hx.fl y.2 hlive
  obtain ⟨r', h1, _, h3, _⟩ := hc.at_ y.2 r hr
  have hfn := findN_of hno.nodup (s := y.1) (k := y.2) hy
  have hin : y.1 ∈ ef.map (·.1) := by
    have := (names_perm hE hno.nodup).mem_iff (a := y.1)
    exact this.2 (List.mem_map.2 ⟨y, hy, rfl⟩)
  refine ⟨r', h1, ?_⟩
  rw [h3 ⟨y.1, hin, hfn⟩, hf]
  unfold Dk.fl crashD
  dsimp only
  rw [List.getElem?_map, List.getElem?_range hlt, Option.map_some, Option.getD_some, if_pos]
  · rfl
  · exact List.any_eq_true.2 ⟨y, hy, by simp⟩
set_option maxHeartbeats 8000000 in
theorem crash_spec (μ : PH) (p : Nat) (d : Dk) (hd : d.Ok) (n : Int) (kv : Value) (keep : List Int) (hk : Row μ kv 1 keep.length (keep.flatMap (icsk .i64))) (hw : Few d) :
  Spec Tryz.prog 60 [pv p, .agg #[.int .i64 n, kv]] [FSA p d, ro μ] (fun _ L => ∃ μ', Le μ μ' ∧ L = [FSA p (crashD d n keep), ro μ']) := by
 refine FSA.open' fun x hx => ?_
 have hpl := hx.ps.1
 have hfw := hw.2
 have hff := hw.1
 have hxl := hx.len
 obtain ⟨KK, hKK⟩ : ∃ K, K = min (max n 0).toNat d.pend.length := ⟨_, rfl⟩
 refine Spec.of 114 Tryz.func60 rfl rfl rfl ?_
 refine swp_sr ?_
 refine s_ef (ef_box rfl rfl) ?_
 intro b3
 refine swl_sub _ (sc0 0 rfl (sc0 3 rfl .nil)) ?_
 refine swl_nn ?_
 refine swp_seq ?_
 refine swp_sr ?_
 refine s_mv rfl ?_
 refine s_pu (pu_ptr_eq_nil rfl rfl) ?_
 refine swl_sub _ (sc0 0 rfl (sc0 3 rfl (sc0 10 rfl .nil))) ?_
 refine swl_nn ?_
 refine swp_cond (b := _) rfl (fun h10 => by cases h10) (fun h10 => ?_)
 refine swp_share_own (e := 127) (n := 3) (v := x.pv) (l := x.ps.length) (xs := x.ps.flatMap encP) (μ := μ) sp0 fun μ2 hle2 hrow => ?_
 have hk2 := hk.le hle2
 obtain ⟨hl0, A, cap, hv, hlc, hcm, hnil, hpos⟩ := hrow
 refine swp_ent (Split.ent' (K := [mpe x.fb skv x.ef x.cf, fsH p d x, mpe x.sb skv x.es x.cs, recsA x.rs, blk b3 63 [.int .i64 n, kv], ro μ2]) sp0) ?_
 refine swp_skip ?_
 refine then_n ?_
 refine swp_seq ?_
 refine swp_seq ?_
 refine swp_draw [3, 5, 10] _ [] (by simp only [List.append_nil]; exact Ent.refl _) kr0 ?_
 refine d_pu 0 rfl (pu_move rfl) kr0 kr0 kr0 ?_
 refine d_pu 1 rfl (pu_nilCheck rfl) kr0 kr0 kr0 ?_
 refine d_pu 2 rfl (pu_fieldAddr0 rfl) kr0 kr0 kr0 ?_
 refine d_rd 3 rfl (rd_load rfl rfl) rfl kr0 kr0 kr0 ?_
 refine d_pu 4 rfl (pu_fieldAddr0 rfl) kr0 kr0 kr0 ?_
 refine d_rd 5 rfl (rd_load rfl rfl) rfl kr0 kr0 kr0 ?_
 refine d_pu 6 rfl (pu_max2 rfl rfl) kr0 kr0 kr0 ?_
 refine d_pu 7 rfl (pu_move rfl) kr0 kr0 kr0 ?_
 refine d_pu 8 rfl (pu_nilCheck rfl) kr0 kr0 kr0 ?_
 refine d_pu 9 rfl (pu_fieldAddr0 rfl) kr0 kr0 kr0 ?_
 refine d_rd 10 rfl (rd_load rfl rfl) rfl kr0 kr0 kr0 ?_
 refine d_pu 11 rfl (pu_len_own ⟨A, cap, hv⟩ rfl) kr0 kr0 kr0 ?_
 refine d_pu 12 rfl (pu_min2 rfl rfl) kr0 kr0 kr0 ?_
 refine d_pu 13 rfl (pu_slice_hi KK (congrArg some hv) rfl (by rw [hKK, hpl]; omega) (by rw [hKK]; omega)) kr0 kr0 kr0 ?_
 refine d_pu 14 rfl (pu_len rfl) kr0 kr0 kr0 ?_
 refine d_pu 15 rfl (pu_move rfl) kr0 kr0 kr0 ?_
 refine d_sub _ (sc0 0 rfl (sc0 3 rfl (sc0 24 rfl (sc0 25 rfl (sc0 26 rfl .nil))))) ?_
 refine d_nilt kr0 ?_
 refine then_n ?_
 refine swp_block ?_
 refine swp_loop (ι := Nat) (fun i env L => Sub env [(0, pv p), (3, pv b3), (24, .slice A KK cap), (25, .int .i64 (KK : Nat)), (26, .int .i64 (i : Nat))] ∧ i ≤ KK ∧ ∃ ef cf, NmRel ef (namesK d i) x.rs ∧ Born ef cf ∧ Ent L [mpe x.fb skv ef cf, fsH p d x, mpe x.sb skv x.es x.cs, recsA x.rs, blk b3 63 [.int .i64 n, kv], ro μ2]) (fun i => KK - i) 0 ⟨⟨rfl, rfl, rfl, rfl, rfl, trivial⟩, Nat.zero_le _, x.ef, x.cf, hx.safe, hx.bf, Ent.refl _⟩ ?_
 rintro i env L ⟨hsub, hi, ef, cf, hE, hB, hEnt⟩
 refine swp_sub _ hsub ?_
 refine swp_ent hEnt ?_
 clear hsub hEnt env L
 refine swp_sr ?_
 refine s_pu (pu_lss rfl rfl) ?_
 refine swl_sub _ (sc0 0 rfl (sc0 3 rfl (sc0 24 rfl (sc0 25 rfl (sc0 26 rfl (sc0 27 rfl .nil)))))) ?_
 refine swl_nn ?_
 refine swp_seq ?_
 refine swp_cond (b := _) rfl (fun h27 => ?_) (fun h27 => ?_)
 ·skip
  have h27' : i < KK := by have := of_decide_eq_true h27; omega
  have hip : i < d.pend.length := by omega
  obtain ⟨b, off, hA, hra⟩ := hpos om0
  subst hA
  obtain ⟨pc, hpc⟩ : ∃ q, x.ps[i]? = some q := ⟨_, List.getElem?_eq_getElem om0⟩
  obtain ⟨cg, hcg⟩ : ∃ q, d.pend[i]? = some q := ⟨_, List.getElem?_eq_getElem hip⟩
  have hpr := hx.ps.2 i pc cg hpc hcg
  have hel := hra.elem (f := encP) (n := 3) (fun _ => rfl) hpc
  obtain ⟨g0, c0, v0⟩ := pc
  obtain ⟨o, rfl⟩ : ∃ o, v0 = .pointer o := by
   have := hpr.2.2
   dsimp only at this
   rw [this]
   split
   ·exact ⟨_, rfl⟩
   ·unfold adr
    split
    ·exact ⟨_, rfl⟩
    ·exact ⟨_, rfl⟩
  have hcome : strEq cg.come nos = false → cg.file < x.rs.length := fun h => by rw [hxl]; exact (hd.pend cg (List.mem_of_getElem? hcg) h).2
  refine swp_skip ?_
  refine then_n ?_
  refine swp_seq ?_
  refine swp_block ?_
  refine swp_sr ?_
  refine s_pu (pu_indexAddr (off + i * 3) rfl rfl om0 om0 (by rw [Int.toNat_natCast])) ?_
  refine s_rd (rd_roA rfl rfl hel) ?_
  refine s_ef (ef_alloc) ?_
  intro b5
  refine s_ef0 (ef_storeA rfl rfl rfl rfl) ?_
  refine swl_sub _ (sc0 0 rfl (sc0 3 rfl (sc0 5 rfl (sc0 24 rfl (sc0 25 rfl (sc0 26 rfl .nil)))))) ?_
  refine swl_nn ?_
  refine swp_draw [0, 4] ([fsH p d x, blk b5 127 [.string g0, .string c0, .pointer o]]) ([mpe x.fb skv ef cf, mpe x.sb skv x.es x.cs, recsA x.rs, blk b3 63 [.int .i64 n, kv], ro μ2]) (Split.ent sp0) kr0 ?_
  refine d_rd 0 rfl (rd_loadW rfl rfl) rfl kr0 kr0 kr0 ?_
  refine d_pu 1 rfl (pu_move rfl) kr0 kr0 kr0 ?_
  refine d_pu 2 rfl (pu_nilCheck rfl) kr0 kr0 kr0 ?_
  refine d_pu 3 rfl (pu_fieldAddr0 rfl) kr0 kr0 kr0 ?_
  refine d_rd 4 rfl (rd_load rfl rfl) rfl kr0 kr0 kr0 ?_
  refine d_fint 5 rfl kr0 kr0 (ef_fn (do_spec x.fb cf ef g0 c0 o) rfl rfl sp0) ?_
  rintro v35 L1 rfl
  refine swd_app ?_
  refine d_sub _ (sc0 0 rfl (sc0 3 rfl (sc0 24 rfl (sc0 25 rfl (sc0 26 rfl .nil))))) ?_
  refine d_nilf kr0 ?_
  refine block_n ?_
  refine then_n ?_
  refine swp_region ?_
  refine s_pu (pu_add_as ((i + 1 : Nat) : Int) rfl rfl om0 om0 om0) ?_
  refine s_mv rfl ?_
  refine swl_sub _ (sc0 0 rfl (sc0 3 rfl (sc0 24 rfl (sc0 25 rfl (sc0 26 rfl .nil))))) ?_
  refine swl_nil ?_
  refine then_n ⟨i + 1, ⟨⟨rfl, rfl, rfl, rfl, rfl, trivial⟩, h27', doE ef cf (g0, c0, .pointer o), doC ef cf (g0, c0, .pointer o), ?_, doE_born hB _, Split.ent' sp0⟩, by omega⟩
  rw [namesK_step hcg]
  exact doE_rel hE (fun y hy => goodN_ne ((namesK_ok hd i).good y hy).1) hpr hcome
 ·skip
  have h27' : i = KK := by have := of_decide_eq_false h27; omega
  subst h27'
  have hEn : NmRel ef (namesAt d n) x.rs := by rw [namesAt_eq, ← hKK]; exact hE
  have hno : NmOk d.files.length (namesAt d n) := by rw [namesAt_eq]; exact namesK_ok hd _
  refine swp_exit ?_
  refine then_x ?_
  refine then_x ?_
  refine block_hit rfl ?_
  refine then_n ?_
  refine swp_seq ?_
  refine swp_sr ?_
  refine s_mv rfl ?_
  refine s_pu (pu_nilCheck rfl) ?_
  refine s_pu (pu_fieldAddr0 rfl) ?_
  refine s_rd (rd_load rfl rfl) ?_
  refine s_ef (ef_range (κ := ByteArray) rfl) ?_
  rintro it
  skip
  refine swl_sub _ (sc0 0 rfl (sc0 3 rfl (sc0 41 rfl .nil))) ?_
  refine swl_nn ?_
  refine swp_block ?_
  refine swp_ent (Split.ent' (K := [itA it x.fb cf [] cf, mpe x.fb skv ef cf, fsH p d x, mpe x.sb skv x.es x.cs, recsA x.rs, blk b3 63 [.int .i64 n, kv], ro μ2]) sp0) ?_
  refine swp_loop (ι := Ents ByteArray × Ents ByteArray) (fun k env L => Sub env [(0, pv p), (3, pv b3), (41, pv it)] ∧ Going ef k.1 k.2 ∧ ∃ rs', Crs (namesAt d n) keep (k.1.map (·.1)) x.rs rs' ∧ Ent L [itA it x.fb cf (k.1.map (·.2.2)) cf, mpe x.fb skv ef cf, fsH p d x, mpe x.sb skv x.es x.cs, recsA rs', blk b3 63 [.int .i64 n, kv], ro μ2]) (fun k => k.2.length) ([], ef) ⟨⟨rfl, rfl, rfl, trivial⟩, Going.start _, x.rs, Crs.start _ _ _, Ent.refl _⟩ ?_
  rintro ⟨dn, td⟩ env L ⟨hsub, hgo, rs', hC, hEnt⟩
  dsimp only at hsub hEnt hgo hC
  refine swp_sub _ hsub ?_
  refine swp_ent hEnt ?_
  clear hsub hEnt env L
  refine swp_sr ?_
  refine s_ef (ef_next (κ := ByteArray) rfl sp0 hB.1 (Nat.le_refl _)) ?_
  refine ⟨fun hall => ?_, fun y hy hns => ?_⟩
  ·skip
   refine s_pu (pu_extractL rfl) ?_
   refine swl_sub _ (sc0 0 rfl (sc0 3 rfl (sc0 41 rfl (sc0 43 rfl .nil)))) ?_
   refine swl_nn ?_
   refine swp_seq ?_
   refine swp_cond (b := _) rfl (fun h43 => by cases h43) (fun h43 => ?_)
   have htd := hgo.stop hB hall
   rw [htd] at hgo
   have hCe : Crs (namesAt d n) keep (ef.map (·.1)) x.rs rs' := hC.perm (by
    have := hgo; unfold Going at this; rw [List.append_nil] at this; exact this.map _)
   refine swp_exit ?_
   refine then_x ?_
   refine then_x ?_
   refine block_hit rfl ?_
   refine then_n ?_
   refine swp_sr ?_
   refine s_mv rfl ?_
   refine s_mv rfl ?_
   refine s_pu (pu_nilCheck rfl) ?_
   refine s_pu (pu_fieldAddr0 rfl) ?_
   refine s_rd (rd_load rfl rfl) ?_
   refine s_ef (ef_fn (mclone_spec x.fb ef cf) rfl rfl sp0) ?_
   rintro v102 L1 ⟨b', rfl, rfl⟩
   refine swl_app ?_
   refine s_pu (pu_nilCheck rfl) ?_
   refine s_pu (pu_fieldAddr0 rfl) ?_
   refine s_ef0 (ef_store rfl rfl rfl) ?_
   refine swl_sub _ (sc0 0 rfl .nil) ?_
   refine swl_nn ?_
   refine swp_region ?_
   refine s_mv rfl ?_
   refine s_mv rfl ?_
   refine s_mv rfl ?_
   refine s_pu (pu_nilCheck rfl) ?_
   refine s_pu (pu_fieldAddr0 rfl) ?_
   refine s_ef0 (ef_store rfl rfl rfl) ?_
   refine s_pu (pu_nilCheck rfl) ?_
   refine s_pu (pu_fieldAddr0 rfl) ?_
   refine s_ef0 (ef_store rfl rfl rfl) ?_
   refine s_pu (pu_nilCheck rfl) ?_
   refine s_pu (pu_fieldAddr0 rfl) ?_
   refine s_ef0 (ef_store rfl rfl rfl) ?_
   refine swl_sub _ .nil ?_
   refine swl_nil ?_
   refine done_endE [FSA p (crashD d n keep), ro μ2] .nil ⟨μ2, hle2, rfl⟩ ?_
   refine Ent.trans (own_nil_ent (e := 127) (n := 3)) ?_
   rw [← hCe.len]
   refine Ent.trans (Split.ent' (K := [blk p 81 (fsC d.quota rs'.length b' x.fb (.slice none 0 0) 0 false), mpe b' skv ef cf, mpe x.fb skv ef cf, own 127 3 (.slice none 0 0) 0 [], recsA rs', ro μ2]) sp0) ?_
   exact fs_close (crash_rep hd hx (b' := b') hEn hB hCe)
  ·skip
   refine s_pu (pu_extractL rfl) ?_
   refine swl_sub _ (sc0 0 rfl (sc0 3 rfl (sc0 41 rfl (sc0 43 rfl .nil)))) ?_
   refine swl_nn ?_
   refine swp_seq ?_
   refine swp_cond (b := _) rfl (fun h43 => ?_) (fun h43 => by cases h43)
   obtain ⟨td', hgo', hlt⟩ := hgo.step hy hns
   have hlk := mlook_of hEn.keys hy
   rw [hEn.look] at hlk
   obtain ⟨k, hfk, hav⟩ := Option.map_eq_some_iff.1 hlk
   have hmem := findN_mem hfk
   obtain ⟨r, hr, hrf⟩ := hx.fl k (by
    rw [namesAt_eq] at hmem
    rcases namesK_live _ _ hmem with h | h
    ·exact .inr (.inl h)
    ·exact .inr (.inr h))
   have hok := Dk.fl_ok hd k
   rw [← hrf] at hok
   obtain ⟨r', hr', hra', hcut, hsl, hle⟩ := hC.now hr hok.2
   have hyv : y.2.1 = pv r'.a := by rw [← hav, adr_at hr, hra']
   have hkf : k < 9223372036854775807 := by have := (hno.good _ hmem).2; omega
   have hmo := moreF_le keep k r'.f hsl
   have hm1 := hok.1
   simp only [mostF] at hm1
   refine swp_skip ?_
   refine then_n ?_
   refine swp_block ?_
   refine swp_sr ?_
   refine s_rd (rd_entry (κ := ByteArray) rfl sp0 hy hB) ?_
   refine s_pu (pu_extractL rfl) ?_
   refine s_as rfl ?_
   refine swl_sub _ (sc0 0 rfl (sc0 3 rfl (sc0 7 rfl (sc0 41 rfl .nil)))) ?_
   refine swl_nn ?_
   refine swp_seq ?_
   rw [hyv]
   refine swp_ent (Split.ent' (K := [recsA rs', itA it x.fb cf (dn.map (·.2.2) ++ [y.2.2]) cf, mpe x.fb skv ef cf, fsH p d x, mpe x.sb skv x.es x.cs, blk b3 63 [.int .i64 n, kv], ro μ2]) sp0) ?_
   refine swp_ent (recs_open' hr' hsl) ?_
   refine swp_fact (fun m h => own_cap h) fun ⟨A', c', hv', hlc', hA'⟩ => ?_
   refine swp_region ?_
   refine s_as rfl ?_
   refine swl_sub _ (sc0 0 rfl (sc0 3 rfl (sc0 7 rfl (sc0 8 rfl (sc0 41 rfl .nil))))) ?_
   refine swl_nn ?_
   refine swp_cut (fun env L => Sub env [(0, pv p), (3, pv b3), (41, pv it), (7, pv r'.a), (8, .int .i64 (moreF keep k r'.f : Nat))] ∧ Ent L [own 5 1 r'.v r'.f.bytes.length (bcs r'.f.bytes), blk r'.a 118 [.int .i64 (k : Nat), r'.v, .int .i64 (r'.f.safe : Nat)], holeA rs' k, itA it x.fb cf (dn.map (·.2.2) ++ [y.2.2]) cf, mpe x.fb skv ef cf, fsH p d x, mpe x.sb skv x.es x.cs, blk b3 63 [.int .i64 n, kv], ro μ2]) ?_ ?_
   ·skip
    refine swp_sr ?_
    refine s_pu (pu_fieldAddr0 rfl) ?_
    refine s_rd (rd_load rfl rfl) ?_
    refine s_pu (pu_len_row hk2 rfl) ?_
    refine s_pu (pu_gtr rfl rfl) ?_
    refine swl_sub _ (sc0 0 rfl (sc0 3 rfl (sc0 7 rfl (sc0 8 rfl (sc0 41 rfl (sc0 49 rfl .nil)))))) ?_
    refine swl_nn ?_
    refine swp_cond (b := _) rfl (fun h49 => ?_) (fun h49 => ?_)
    ·skip
     have h49' : 0 < keep.length := by have := of_decide_eq_true h49; omega
     have hj : k % keep.length < keep.length := Nat.mod_lt _ h49'
     obtain ⟨kb, ko, kc, hkv, hkc, hkm, hkr⟩ := hk2.pos h49'
     have hkj : keep[k % keep.length]? = some keep[k % keep.length] := List.getElem?_eq_getElem hj
     have hkcell := (hkr.elem (f := icsk .i64) (n := 1) (fun _ => rfl) hkj).cell
     refine swp_draw [1, 5, 7, 11, 16, 21] _ [] (by simp only [List.append_nil]; exact Ent.refl _) kr0 ?_
     refine d_pu 0 rfl (pu_fieldAddr0 rfl) kr0 kr0 kr0 ?_
     refine d_rd 1 rfl (rd_load rfl rfl) rfl kr0 kr0 kr0 ?_
     refine d_pu 2 rfl (pu_move rfl) kr0 kr0 kr0 ?_
     refine d_pu 3 rfl (pu_nilCheck rfl) kr0 kr0 kr0 ?_
     refine d_pu 4 rfl (pu_fieldAddr0 rfl) kr0 kr0 kr0 ?_
     refine d_rd 5 rfl (rd_load rfl rfl) rfl kr0 kr0 kr0 ?_
     refine d_pu 6 rfl (pu_fieldAddr0 rfl) kr0 kr0 kr0 ?_
     refine d_rd 7 rfl (rd_load rfl rfl) rfl kr0 kr0 kr0 ?_
     refine d_pu 8 rfl (pu_len_row hk2 rfl) kr0 kr0 kr0 ?_
     refine d_pu 9 rfl (pu_rem_nat rfl rfl h49') kr0 kr0 kr0 ?_
     refine d_pu 10 rfl (pu_indexAddr (ko + (k % keep.length) * 1) (congrArg some hkv) rfl om0 om0 (by rw [Int.toNat_natCast])) kr0 kr0 kr0 ?_
     refine d_rd 11 rfl (rd_ro rfl hkcell) rfl kr0 kr0 kr0 ?_
     refine d_pu 12 rfl (pu_max2 rfl rfl) kr0 kr0 kr0 ?_
     refine d_pu 13 rfl (pu_move rfl) kr0 kr0 kr0 ?_
     refine d_pu 14 rfl (pu_nilCheck rfl) kr0 kr0 kr0 ?_
     refine d_pu 15 rfl (pu_fieldAddr0 rfl) kr0 kr0 kr0 ?_
     refine d_rd 16 rfl (rd_load rfl rfl) rfl kr0 kr0 kr0 ?_
     refine d_pu 17 rfl (pu_len_own ⟨A', c', hv'⟩ rfl) kr0 kr0 kr0 ?_
     refine d_pu 18 rfl (pu_move rfl) kr0 kr0 kr0 ?_
     refine d_pu 19 rfl (pu_nilCheck rfl) kr0 kr0 kr0 ?_
     refine d_pu 20 rfl (pu_fieldAddr0 rfl) kr0 kr0 kr0 ?_
     refine d_rd 21 rfl (rd_load rfl rfl) rfl kr0 kr0 kr0 ?_
     refine d_pu 22 rfl (pu_sub_as ((r'.f.bytes.length : Int) - r'.f.safe) rfl rfl om0 om0 om0) kr0 kr0 kr0 ?_
     refine d_pu 23 rfl (pu_min2 rfl rfl) kr0 kr0 kr0 ?_
     refine d_pu 24 rfl (pu_assign rfl) kr0 kr0 kr0 ?_
     refine d_sub _ (sc0 0 rfl (sc0 3 rfl (sc0 7 rfl (sc0 8 rfl (sc0 41 rfl .nil))))) ?_
     refine d_nilt kr0 ?_
     refine then_n ⟨⟨rfl, rfl, rfl, rfl, ?_, trivial⟩, Split.ent' sp0⟩
     have e1 : ((moreF keep k r'.f : Nat) : Int) = min (max keep[k % keep.length] 0) ((r'.f.bytes.length : Int) - r'.f.safe) := by
      unfold moreF; rw [if_neg om0, hkj, Option.getD_some]; omega
     rw [e1]; rfl
    ·skip
     refine swp_skip ?_
     have h49' : keep.length = 0 := by have := of_decide_eq_false h49; omega
     refine then_n ⟨⟨rfl, rfl, rfl, rfl, ?_, trivial⟩, Split.ent' sp0⟩
     have e1 : moreF keep k r'.f = 0 := by unfold moreF; rw [if_pos h49']
     rw [e1]; rfl
   rintro env L ⟨hsub, hEnt⟩
   refine swp_sub _ hsub ?_
   refine swp_ent hEnt ?_
   clear hsub hEnt env L
   refine swp_seq ?_
   refine swp_draw [4, 8] _ [] (by simp only [List.append_nil]; exact Ent.refl _) kr0 ?_
   refine d_pu 0 rfl (pu_move rfl) kr0 kr0 kr0 ?_
   refine d_pu 1 rfl (pu_move rfl) kr0 kr0 kr0 ?_
   refine d_pu 2 rfl (pu_nilCheck rfl) kr0 kr0 kr0 ?_
   refine d_pu 3 rfl (pu_fieldAddr0 rfl) kr0 kr0 kr0 ?_
   refine d_rd 4 rfl (rd_load rfl rfl) rfl kr0 kr0 kr0 ?_
   refine d_pu 5 rfl (pu_move rfl) kr0 kr0 kr0 ?_
   refine d_pu 6 rfl (pu_nilCheck rfl) kr0 kr0 kr0 ?_
   refine d_pu 7 rfl (pu_fieldAddr0 rfl) kr0 kr0 kr0 ?_
   refine d_rd 8 rfl (rd_load rfl rfl) rfl kr0 kr0 kr0 ?_
   refine d_pu 9 rfl (pu_move rfl) kr0 kr0 kr0 ?_
   refine d_pu 10 rfl (pu_add_as ((r'.f.safe + moreF keep k r'.f : Nat) : Int) rfl rfl om0 om0 om0) kr0 kr0 kr0 ?_
   refine d_pu 11 rfl (pu_slice_hi (r'.f.safe + moreF keep k r'.f) (congrArg some hv') rfl rfl om0) kr0 kr0 kr0 ?_
   refine d_fint 12 rfl kr0 kr0 (ef_fn (bclone_own A' (r'.f.safe + moreF keep k r'.f) r'.f.bytes.length c' c' r'.f.bytes rfl hmo om0 (fun h => by have := hA' h; omega)) rfl rfl (by rw [← hv']; exact sp0)) ?_
   rintro v86 L1 ⟨⟨A2, c2, rfl⟩, rfl⟩
   refine swd_app ?_
   refine d_pu 13 rfl (pu_nilCheck rfl) kr0 kr0 kr0 ?_
   refine d_pu 14 rfl (pu_fieldAddr0 rfl) kr0 kr0 kr0 ?_
   refine d_fin0f 15 rfl kr0 kr0 (ef_store rfl rfl rfl) ?_
   refine d_sub _ (sc0 0 rfl (sc0 3 rfl (sc0 7 rfl (sc0 41 rfl .nil)))) ?_
   refine d_nilf kr0 ?_
   refine then_n ?_
   refine swp_region ?_
   refine s_mv rfl ?_
   refine s_mv rfl ?_
   refine s_pu (pu_nilCheck rfl) ?_
   refine s_pu (pu_fieldAddr0 rfl) ?_
   refine s_rd (rd_load rfl rfl) ?_
   refine s_pu (pu_len rfl) ?_
   refine s_pu (pu_nilCheck rfl) ?_
   refine s_pu (pu_fieldAddr0 rfl) ?_
   refine s_ef0 (ef_store rfl rfl rfl) ?_
   refine swl_sub _ (sc0 0 rfl (sc0 3 rfl (sc0 41 rfl .nil))) ?_
   refine swl_nil ?_
   refine block_n ?_
   refine then_n ⟨(dn ++ [y], td'), ⟨⟨rfl, rfl, rfl, trivial⟩, hgo', rs'.set k ⟨r'.a, .slice A2 (r'.f.safe + moreF keep k r'.f) c2, cutF keep k r'.f⟩, ?_, ?_⟩, by dsimp only; omega⟩
   ·dsimp only
    rw [List.map_append]
    exact hC.step hfk hr hra' hcut
   ·dsimp only
    have e3 : (dn ++ [y]).map (·.2.2) = dn.map (·.2.2) ++ [y.2.2] := by rw [List.map_append]; rfl
    have e4 : (cutF keep k r'.f).bytes.length = r'.f.safe + moreF keep k r'.f := by show (r'.f.bytes.take _).length = _; rw [List.length_take, Nat.min_eq_left hmo]
    rw [e3]
    refine Ent.trans (Split.ent' (K := [own 5 1 (.slice A2 (r'.f.safe + moreF keep k r'.f) c2) (r'.f.safe + moreF keep k r'.f) (bcs (r'.f.bytes.take (r'.f.safe + moreF keep k r'.f))), blk r'.a 118 [.int .i64 (k : Nat), .slice A2 (r'.f.safe + moreF keep k r'.f) c2, .int .i64 (r'.f.safe + moreF keep k r'.f : Nat)], holeA rs' k, itA it x.fb cf (dn.map (·.2.2) ++ [y.2.2]) cf, mpe x.fb skv ef cf, fsH p d x, mpe x.sb skv x.es x.cs, blk b3 63 [.int .i64 n, kv], ro μ2]) sp0) ?_
    have h2 := recs_close' (rs := rs') (i := k) ⟨r'.a, .slice A2 (r'.f.safe + moreF keep k r'.f) c2, cutF keep k r'.f⟩ (List.getElem?_eq_some_iff.1 hr').1 (by show r'.f.safe + moreF keep k r'.f ≤ (cutF keep k r'.f).bytes.length; rw [e4]; exact Nat.le_refl _) (L := [itA it x.fb cf (dn.map (·.2.2) ++ [y.2.2]) cf, mpe x.fb skv ef cf, fsH p d x, mpe x.sb skv x.es x.cs, blk b3 63 [.int .i64 n, kv], ro μ2])
    rw [e4] at h2
    exact Ent.trans h2 (Split.ent' sp0)
end SX
namespace SX
open Go Go.Proofs
end SX
namespace SX
open Go Go.Proofs
/-! ## the document's first example -/
abbrev sa : ByteArray := ⟨#[97]⟩
abbrev hel : List UInt8 := [104, 101, 108, 108, 111]
def E1 : Dk := ⟨100, [⟨[], 0⟩], [(sa, 0)], [], [⟨nos, sa, 0⟩], 0, false⟩
def E2 : Dk := ⟨100, [⟨hel, 0⟩], [(sa, 0)], [], [⟨nos, sa, 0⟩], 0, false⟩
theorem st2 : appendD E1 sa hel = (E2, 0) := by kernel_rfl
end SX
namespace SX
open Go Go.Proofs
/-! ## the document's disk -/
abbrev rF1 (f : Fl) : List Value := [.string ⟨f.bytes.toArray⟩, .int .i64 (f.safe : Nat)]
abbrev rN1 (x : Nm) : List Value := [.string x.1, .int .i64 (x.2 : Nat)]
abbrev rC1 (c : Cg) : List Value := [.string c.gone, .string c.come, .int .i64 (c.file : Nat)]
structure RX where
  fv : Value
  sv : Value
  av : Value
  wv : Value
abbrev rdC (q : Int) (fv sv av wv : Value) (fa : Int) (off : Bool) : List Value := [.int .i64 q, fv, sv, av, wv, .int .i64 fa, .bool off]
abbrev rdH (p : Nat) (d : Dk) (x : RX) : Assn := blk p 92 (rdC d.quota x.fv x.sv x.av x.wv d.falls d.off)
def RDA (p : Nat) (d : Dk) : Assn := exA fun x : RX => [rdH p d x, own 96 2 x.fv d.files.length (d.files.flatMap rF1), own 138 2 x.sv d.seen.length (d.seen.flatMap rN1), own 138 2 x.av d.safe.length (d.safe.flatMap rN1), own 99 3 x.wv d.pend.length (d.pend.flatMap rC1)]
theorem RDA.open' {p : Nat} {d : Dk} {f : FuncId} {args : List Value} {L : List Assn} {post : Value → List Assn → Prop}
    (h : ∀ x : RX, Spec Tryz.prog f args (rdH p d x :: own 96 2 x.fv d.files.length (d.files.flatMap rF1) :: own 138 2 x.sv d.seen.length (d.seen.flatMap rN1) :: own 138 2 x.av d.safe.length (d.safe.flatMap rN1) :: own 99 3 x.wv d.pend.length (d.pend.flatMap rC1) :: L) post) : Spec Tryz.prog f args (RDA p d :: L) post := Spec.exA' fun x => h x
end SX
namespace SX
open Go Go.Proofs
/-- what the number of a name's file is, or the error -/
def FileR (d : Dk) (s : ByteArray) (k e : Int) : Prop := (e ≠ 0 ∧ readD d s = ([], e) ∧ ∀ f, onFile d s f = (d, e)) ∨ (e = 0 ∧ ∃ j : Nat, k = (j : Int) ∧ findN d.seen s = some j ∧ readD d s = ((d.fl j).bytes, 0) ∧ ∀ f, onFile d s f = f j)
end SX
namespace SX
open Go Go.Proofs
end SX
namespace SX
open Go Go.Proofs
def sA (fa : Int) : Int := if fa = 1 then 0 else if 0 < fa then fa - 1 else fa
end SX
namespace SX
open Go Go.Proofs
theorem FileR.ok {d : Dk} {s : ByteArray} {k e : Int} (h : FileR d s k e) (he : e = 0) : ∃ j : Nat, k = (j : Int) ∧ findN d.seen s = some j ∧ readD d s = ((d.fl j).bytes, 0) ∧ ∀ f, onFile d s f = f j := by
  rcases h with ⟨h, _⟩ | ⟨_, h⟩
  · exact absurd he h
  · exact h
end SX
namespace SX
open Go Go.Proofs
end SX
namespace SX
open Go Go.Proofs
end SX
namespace SX
open Go Go.Proofs
def settle2 (d : Dk) (n len : Nat) : Dk × Int := if (cutRest d n len).2 ≠ 0 then cutRest d n len else syncD (cutRest d n len).1 logN
theorem settle_two (d : Dk) (n len : Nat) : settleD d n len = if (settle2 d n len).2 ≠ 0 then settle2 d n len else syncNamesD (settle2 d n len).1 := by
  unfold settleD settle2
  by_cases h : (cutRest d n len).2 ≠ 0
  · rw [if_pos h, if_pos h, if_pos h]
  · rw [if_neg h, if_neg h]
theorem cutRest_ok {d : Dk} (hd : d.Ok) (n len : Nat) : (cutRest d n len).1.Ok := by
  unfold cutRest
  split
  · exact hd
  · exact cutD_ok hd _ _
theorem settle2_ok {d : Dk} (hd : d.Ok) (n len : Nat) : (settle2 d n len).1.Ok := by
  unfold settle2
  split
  · exact cutRest_ok hd n len
  · exact syncD_ok (cutRest_ok hd n len) _
theorem few_of {m : Nat} {d : Dk} (h : Within m d) (k : m ≤ 999000) : Few d := h.mono om0
theorem cutRest_in {m : Nat} {d : Dk} (h : Within m d) (n len : Nat) : Within m (cutRest d n len).1 := by
  unfold cutRest
  split
  · exact h
  · exact cutD_in h _ _
theorem settle2_in {m : Nat} {d : Dk} (h : Within m d) (n len : Nat) : Within m (settle2 d n len).1 := by
  unfold settle2
  split
  · exact cutRest_in h n len
  · exact syncD_in (cutRest_in h n len) _
end SX
namespace SX
open Go Go.Proofs
end SX
namespace SX
open Go Go.Proofs
end SX
namespace SX
open Go Go.Proofs
theorem samel_spec (μ : PH) (u v : Value) (xs ys : List Int) (hu : Row μ u 1 xs.length (xs.flatMap (icsk .i64))) (hv : Row μ v 1 ys.length (ys.flatMap (icsk .i64))) : Spec Tryz.prog 55 [u, v] [ro μ] (fun r L => r = .bool (decide (xs = ys)) ∧ L = [ro μ]) := by
 have hs1 := hu.small
 have hs2 := hv.small
 refine Spec.of 26 Tryz.func55 rfl rfl rfl ?_
 refine swp_sr ?_
 refine s_as rfl ?_
 refine swl_sub _ (sc0 0 rfl (sc0 1 rfl .nil)) ?_
 refine swl_nn ?_
 refine swp_seq ?_
 refine swp_sr ?_
 refine s_mv rfl ?_
 refine s_pu (pu_len_row hu rfl) ?_
 refine s_mv rfl ?_
 refine s_pu (pu_len_row hv rfl) ?_
 refine s_pu (pu_neq rfl rfl) ?_
 refine swl_sub _ (sc0 0 rfl (sc0 1 rfl (sc0 10 rfl .nil))) ?_
 refine swl_nn ?_
 refine swp_cond (b := _) rfl (fun h10 => ?_) (fun h10 => ?_)
 ·skip
  refine swp_sr ?_
  refine s_as rfl ?_
  refine swl_sub _ (sc0 4 rfl .nil) ?_
  refine swl_nn ?_
  refine swp_ret ?_
  refine then_r ?_
  simp only [Bool.not_eq_true', decide_eq_false_iff_not] at h10
  exact done_ret [ro μ] (.tmp rfl .nil) ⟨by rw [decide_eq_false (fun e => h10 (by rw [e]))]; rfl, rfl⟩ sp0
 ·skip
  refine swp_skip ?_
  refine then_n ?_
  refine swp_seq ?_
  refine swp_sr ?_
  refine s_as rfl ?_
  refine swl_sub _ (sc0 0 rfl (sc0 1 rfl (sc0 5 rfl .nil))) ?_
  refine swl_nn ?_
  refine swp_block ?_
  have hlen : xs.length = ys.length := by
   simp only [Bool.not_eq_false', decide_eq_true_eq] at h10; omega
  refine swp_loop (ι := Nat) (fun i env L => Sub env [(0, u), (1, v), (5, .int .i64 (i : Nat))] ∧ L = [ro μ] ∧ i ≤ xs.length ∧ ∀ j, j < i → xs[j]? = ys[j]?) (fun i => xs.length - i) 0 ⟨⟨rfl, rfl, rfl, trivial⟩, rfl, Nat.zero_le _, fun j h => by omega⟩ ?_
  rintro i env L ⟨hsub, rfl, hi, hlo⟩
  refine swp_sub _ hsub ?_
  clear hsub env
  refine swp_seq ?_
  refine swp_sr ?_
  refine s_mv rfl ?_
  refine s_mv rfl ?_
  refine s_pu (pu_len_row hu rfl) ?_
  refine s_pu (pu_lss rfl rfl) ?_
  refine swl_sub _ (sc0 0 rfl (sc0 1 rfl (sc0 5 rfl (sc0 14 rfl .nil)))) ?_
  refine swl_nn ?_
  refine swp_cond (b := _) rfl (fun h14 => ?_) (fun h14 => ?_)
  ·skip
   have h14' : i < xs.length := by have := of_decide_eq_true h14; omega
   obtain ⟨x, hx⟩ : ∃ x, xs[i]? = some x := ⟨_, List.getElem?_eq_getElem h14'⟩
   obtain ⟨y, hy⟩ : ∃ y, ys[i]? = some y := ⟨_, List.getElem?_eq_getElem om0⟩
   obtain ⟨ab, ao, ac, hav, hxl⟩ := int_at hu hx
   obtain ⟨bb, bo, bc, hbv, hyl⟩ := int_at hv hy
   refine swp_skip ?_
   refine then_n ?_
   refine swp_seq ?_
   refine swp_block ?_
   refine swp_seq ?_
   refine swp_draw [3, 7] _ [] (by simp only [List.append_nil]; exact Ent.refl _) kr0 ?_
   refine d_pu 0 rfl (pu_move rfl) kr0 kr0 kr0 ?_
   refine d_pu 1 rfl (pu_move rfl) kr0 kr0 kr0 ?_
   refine d_pu 2 rfl (pu_indexAddr (ao + i * 1) (congrArg some hav) rfl om0 om0 (by rw [Int.toNat_natCast])) kr0 kr0 kr0 ?_
   refine d_rd 3 rfl (rd_ro rfl hxl) rfl kr0 kr0 kr0 ?_
   refine d_pu 4 rfl (pu_move rfl) kr0 kr0 kr0 ?_
   refine d_pu 5 rfl (pu_move rfl) kr0 kr0 kr0 ?_
   refine d_pu 6 rfl (pu_indexAddr (bo + i * 1) (congrArg some hbv) rfl om0 om0 (by rw [Int.toNat_natCast])) kr0 kr0 kr0 ?_
   refine d_rd 7 rfl (rd_ro rfl hyl) rfl kr0 kr0 kr0 ?_
   refine d_pu 8 rfl (pu_neq rfl rfl) kr0 kr0 kr0 ?_
   refine d_sub _ (sc0 0 rfl (sc0 1 rfl (sc0 5 rfl (sc0 25 rfl .nil)))) ?_
   refine d_nilt kr0 ?_
   refine then_n ?_
   refine swp_cond (b := _) rfl (fun h25 => ?_) (fun h25 => ?_)
   ·skip
    refine swp_sr ?_
    refine s_as rfl ?_
    refine swl_sub _ (sc0 4 rfl .nil) ?_
    refine swl_nn ?_
    refine swp_ret ?_
    refine block_r ?_
    refine then_r ?_
    refine then_r ?_
    refine block_r ?_
    refine then_r ?_
    simp only [Bool.not_eq_true', decide_eq_false_iff_not] at h25
    exact done_ret [ro μ] (.tmp rfl .nil) ⟨by rw [decide_eq_false (fun e => h25 (by subst e; rw [hx] at hy; exact Option.some.inj hy))]; rfl, rfl⟩ sp0
   ·skip
    refine swp_skip ?_
    refine block_n ?_
    refine then_n ?_
    refine swp_region ?_
    refine s_mv rfl ?_
    refine s_pu (pu_add_as ((i + 1 : Nat) : Int) rfl rfl om0 om0 om0) ?_
    refine s_as rfl ?_
    refine swl_sub _ (sc0 0 rfl (sc0 1 rfl (sc0 5 rfl .nil))) ?_
    refine swl_nil ?_
    simp only [Bool.not_eq_false', decide_eq_true_eq] at h25
    exact then_n ⟨i + 1, ⟨⟨rfl, rfl, rfl, trivial⟩, rfl, h14', fun j hj => by
     by_cases e : j = i
     ·subst e; rw [hx, hy, h25]
     ·exact hlo j om0⟩, by omega⟩
  ·skip
   have h14' := of_decide_eq_false h14
   obtain rfl : i = xs.length := by omega
   refine swp_exit ?_
   refine then_x ?_
   refine then_x ?_
   refine block_hit rfl ?_
   refine then_n ?_
   refine swp_sr ?_
   refine s_as rfl ?_
   refine swl_sub _ (sc0 4 rfl .nil) ?_
   refine swl_nn ?_
   refine swp_ret ?_
   exact done_ret [ro μ] (.tmp rfl .nil) ⟨by rw [decide_eq_true (List.ext_getElem? fun j => by
    by_cases hj : j < xs.length
    ·exact hlo j hj
    ·rw [List.getElem?_eq_none om0, List.getElem?_eq_none om0])]; rfl, rfl⟩ sp0
theorem samec_spec (μ : PH) (u v : Value) (a c : Cm) (hu : Row μ u 1 a.1.length (a.1.flatMap (icsk .i64))) (hv : Row μ v 1 c.1.length (c.1.flatMap (icsk .i64))) : Spec Tryz.prog 17 [cmV u a.2, cmV v c.2] [ro μ] (fun r L => r = .bool (decide (a = c)) ∧ L = [ro μ]) := by
 obtain ⟨U, cu, hU⟩ := hu.sl
 obtain ⟨V, cw, hV⟩ := hv.sl
 subst hU hV
 refine Spec.of 17 Tryz.func17 rfl rfl rfl ?_
 refine swp_sr ?_
 refine s_ef (ef_box rfl rfl) ?_
 intro b2
 refine s_ef (ef_box rfl rfl) ?_
 intro b3
 refine s_as rfl ?_
 refine swl_sub _ (sc0 2 rfl (sc0 3 rfl .nil)) ?_
 refine swl_nn ?_
 refine swp_sr ?_
 refine s_pu (pu_fieldAddr0 rfl) ?_
 refine s_rd (rd_load rfl rfl) ?_
 refine s_pu (pu_fieldAddr0 rfl) ?_
 refine s_rd (rd_load rfl rfl) ?_
 refine s_pu (pu_eql rfl rfl) ?_
 refine s_mv rfl ?_
 refine s_split 10 rfl (fun h10 => ?_) (fun h10 => ?_)
 ·skip
  have h10' : a.2 = c.2 := of_decide_eq_true h10
  refine s_on rfl rfl ?_
  refine s_pu (pu_fieldAddr0 rfl) ?_
  refine s_on rfl rfl ?_
  refine s_rd (rd_load rfl rfl) ?_
  refine s_on rfl rfl ?_
  refine s_pu (pu_fieldAddr0 rfl) ?_
  refine s_on rfl rfl ?_
  refine s_rd (rd_load rfl rfl) ?_
  refine s_on rfl rfl ?_
  refine s_ef (ef_fn (samel_spec μ (.slice U a.1.length cu) (.slice V c.1.length cw) a.1 c.1 hu hv) rfl rfl sp0) ?_
  rintro v15 L1 ⟨rfl, rfl⟩
  refine swl_app ?_
  refine s_pu (pu_pick_t rfl rfl) ?_
  refine s_as rfl ?_
  refine swl_sub _ (sc0 4 rfl .nil) ?_
  refine swl_nn ?_
  refine swp_ret ?_
  refine done_ret [ro μ] (.tmp rfl .nil) ⟨?_, rfl⟩ sp0
  by_cases e : a.1 = c.1
  ·rw [decide_eq_true e, decide_eq_true (Prod.ext e h10')]; rfl
  ·rw [decide_eq_false e, decide_eq_false (fun k => e (congrArg Prod.fst k))]; rfl
 ·skip
  refine s_off rfl rfl rfl ?_
  refine s_off rfl rfl rfl ?_
  refine s_off rfl rfl rfl ?_
  refine s_off rfl rfl rfl ?_
  refine s_off rfl rfl rfl ?_
  refine s_pu (pu_pick_f rfl rfl) ?_
  refine s_as rfl ?_
  refine swl_sub _ (sc0 4 rfl .nil) ?_
  refine swl_nn ?_
  refine swp_ret ?_
  have h10' : ¬ a.2 = c.2 := of_decide_eq_false h10
  refine done_ret [ro μ] (.tmp rfl .nil) ⟨?_, rfl⟩ sp0
  rw [decide_eq_false (fun k => h10' (congrArg Prod.snd k))]; rfl
end SX
namespace SX
open Go Go.Proofs
theorem gr_at {μ : PH} {v : Value} {G : List (Value × List Int)} (h : Graph μ v G) {i : Nat} {x : Value × List Int} (hi : G[i]? = some x) : ∃ b off cap, v = .slice (some ⟨b, off, none⟩) G.length cap ∧ CellAt μ b (off + i * 1) x.1 ∧ Row μ x.1 1 x.2.length (x.2.flatMap (icsk .i64)) ∧ (nums G)[i]? = some x.2 := by
  have hl := (List.getElem?_eq_some_iff.1 hi).1
  obtain ⟨b, off, cap, hv, _, _, hr⟩ := h.1.pos om0
  refine ⟨b, off, cap, hv, (hr.elem (f := gcs) (n := 1) (fun _ => rfl) hi).cell, h.2 x (List.mem_of_getElem? hi), ?_⟩
  show (G.map (·.2))[i]? = _
  rw [List.getElem?_map, hi]; rfl
theorem sameg_spec (μ : PH) (u v : Value) (Ga Gb : List (Value × List Int)) (hu : Graph μ u Ga) (hv : Graph μ v Gb) : Spec Tryz.prog 56 [u, v] [ro μ] (fun r L => r = .bool (decide (nums Ga = nums Gb)) ∧ L = [ro μ]) := by
 have hs1 := hu.1.small
 have hs2 := hv.1.small
 have hla : (nums Ga).length = Ga.length := List.length_map _
 have hlb : (nums Gb).length = Gb.length := List.length_map _
 refine Spec.of 27 Tryz.func56 rfl rfl rfl ?_
 refine swp_sr ?_
 refine s_as rfl ?_
 refine swl_sub _ (sc0 0 rfl (sc0 1 rfl .nil)) ?_
 refine swl_nn ?_
 refine swp_seq ?_
 refine swp_sr ?_
 refine s_mv rfl ?_
 refine s_pu (pu_len_row hu.1 rfl) ?_
 refine s_mv rfl ?_
 refine s_pu (pu_len_row hv.1 rfl) ?_
 refine s_pu (pu_neq rfl rfl) ?_
 refine swl_sub _ (sc0 0 rfl (sc0 1 rfl (sc0 10 rfl .nil))) ?_
 refine swl_nn ?_
 refine swp_cond (b := _) rfl (fun h10 => ?_) (fun h10 => ?_)
 ·skip
  refine swp_sr ?_
  refine s_as rfl ?_
  refine swl_sub _ (sc0 4 rfl .nil) ?_
  refine swl_nn ?_
  refine swp_ret ?_
  refine then_r ?_
  simp only [Bool.not_eq_true', decide_eq_false_iff_not] at h10
  exact done_ret [ro μ] (.tmp rfl .nil) ⟨by rw [decide_eq_false (fun e => h10 (by rw [← hla, ← hlb, e]))]; rfl, rfl⟩ sp0
 ·skip
  refine swp_skip ?_
  refine then_n ?_
  refine swp_seq ?_
  refine swp_sr ?_
  refine s_as rfl ?_
  refine swl_sub _ (sc0 0 rfl (sc0 1 rfl (sc0 5 rfl .nil))) ?_
  refine swl_nn ?_
  refine swp_block ?_
  have hlen : Ga.length = Gb.length := by
   simp only [Bool.not_eq_false', decide_eq_true_eq] at h10; omega
  refine swp_loop (ι := Nat) (fun i env L => Sub env [(0, u), (1, v), (5, .int .i64 (i : Nat))] ∧ L = [ro μ] ∧ i ≤ Ga.length ∧ ∀ j, j < i → (nums Ga)[j]? = (nums Gb)[j]?) (fun i => Ga.length - i) 0 ⟨⟨rfl, rfl, rfl, trivial⟩, rfl, Nat.zero_le _, fun j h => by omega⟩ ?_
  rintro i env L ⟨hsub, rfl, hi, hlo⟩
  refine swp_sub _ hsub ?_
  clear hsub env
  refine swp_seq ?_
  refine swp_sr ?_
  refine s_mv rfl ?_
  refine s_mv rfl ?_
  refine s_pu (pu_len_row hu.1 rfl) ?_
  refine s_pu (pu_lss rfl rfl) ?_
  refine swl_sub _ (sc0 0 rfl (sc0 1 rfl (sc0 5 rfl (sc0 14 rfl .nil)))) ?_
  refine swl_nn ?_
  refine swp_cond (b := _) rfl (fun h14 => ?_) (fun h14 => ?_)
  ·skip
   have h14' : i < Ga.length := by have := of_decide_eq_true h14; omega
   obtain ⟨x, hx⟩ : ∃ x, Ga[i]? = some x := ⟨_, List.getElem?_eq_getElem h14'⟩
   obtain ⟨y, hy⟩ : ∃ y, Gb[i]? = some y := ⟨_, List.getElem?_eq_getElem om0⟩
   obtain ⟨ab, ao, ac, hav, hxl, hxr, hxn⟩ := gr_at hu hx
   obtain ⟨bb, bo, bc, hbv, hyl, hyr, hyn⟩ := gr_at hv hy
   refine swp_skip ?_
   refine then_n ?_
   refine swp_seq ?_
   refine swp_block ?_
   refine swp_seq ?_
   refine swp_draw [3, 7] _ [] (by simp only [List.append_nil]; exact Ent.refl _) kr0 ?_
   refine d_pu 0 rfl (pu_move rfl) kr0 kr0 kr0 ?_
   refine d_pu 1 rfl (pu_move rfl) kr0 kr0 kr0 ?_
   refine d_pu 2 rfl (pu_indexAddr (ao + i * 1) (congrArg some hav) rfl om0 om0 (by rw [Int.toNat_natCast])) kr0 kr0 kr0 ?_
   refine d_rd 3 rfl (rd_ro rfl hxl) rfl kr0 kr0 kr0 ?_
   refine d_pu 4 rfl (pu_move rfl) kr0 kr0 kr0 ?_
   refine d_pu 5 rfl (pu_move rfl) kr0 kr0 kr0 ?_
   refine d_pu 6 rfl (pu_indexAddr (bo + i * 1) (congrArg some hbv) rfl om0 om0 (by rw [Int.toNat_natCast])) kr0 kr0 kr0 ?_
   refine d_rd 7 rfl (rd_ro rfl hyl) rfl kr0 kr0 kr0 ?_
   refine d_fint 8 rfl kr0 kr0 (ef_fn (samel_spec μ x.1 y.1 x.2 y.2 hxr hyr) rfl rfl sp0) ?_
   rintro v25 L1 ⟨rfl, rfl⟩
   refine swd_app ?_
   refine d_pu 9 rfl (pu_not rfl) kr0 kr0 kr0 ?_
   refine d_sub _ (sc0 0 rfl (sc0 1 rfl (sc0 5 rfl (sc0 26 rfl .nil)))) ?_
   refine d_nilf kr0 ?_
   refine then_n ?_
   refine swp_cond (b := _) rfl (fun h26 => ?_) (fun h26 => ?_)
   ·skip
    refine swp_sr ?_
    refine s_as rfl ?_
    refine swl_sub _ (sc0 4 rfl .nil) ?_
    refine swl_nn ?_
    refine swp_ret ?_
    refine block_r ?_
    refine then_r ?_
    refine then_r ?_
    refine block_r ?_
    refine then_r ?_
    simp only [Bool.not_eq_true', decide_eq_false_iff_not] at h26
    exact done_ret [ro μ] (.tmp rfl .nil) ⟨by rw [decide_eq_false (fun e => h26 (by rw [e, hyn] at hxn; exact (Option.some.inj hxn).symm))]; rfl, rfl⟩ sp0
   ·skip
    refine swp_skip ?_
    refine block_n ?_
    refine then_n ?_
    refine swp_region ?_
    refine s_mv rfl ?_
    refine s_pu (pu_add_as ((i + 1 : Nat) : Int) rfl rfl om0 om0 om0) ?_
    refine s_as rfl ?_
    refine swl_sub _ (sc0 0 rfl (sc0 1 rfl (sc0 5 rfl .nil))) ?_
    refine swl_nil ?_
    simp only [Bool.not_eq_false', decide_eq_true_eq] at h26
    exact then_n ⟨i + 1, ⟨⟨rfl, rfl, rfl, trivial⟩, rfl, h14', fun j hj => by
     by_cases e : j = i
     ·subst e; rw [hxn, hyn, h26]
     ·exact hlo j om0⟩, by omega⟩
  ·skip
   have h14' := of_decide_eq_false h14
   obtain rfl : i = Ga.length := by omega
   refine swp_exit ?_
   refine then_x ?_
   refine then_x ?_
   refine block_hit rfl ?_
   refine then_n ?_
   refine swp_sr ?_
   refine s_as rfl ?_
   refine swl_sub _ (sc0 4 rfl .nil) ?_
   refine swl_nn ?_
   refine swp_ret ?_
   exact done_ret [ro μ] (.tmp rfl .nil) ⟨by rw [decide_eq_true (List.ext_getElem? fun j => by
    by_cases hj : j < Ga.length
    ·exact hlo j hj
    ·rw [List.getElem?_eq_none om0, List.getElem?_eq_none om0])]; rfl, rfl⟩ sp0
end SX
namespace SX
open Go Go.Proofs
/-- trees and parents of which a copy may be made -/
def SW.Small (W : SW) : Prop := (∀ x ∈ W.T, x.2.length ≤ 1048576) ∧ ∀ x ∈ W.C, x.2.1.length ≤ 1048576
theorem trees_eq {a b : List (List En)} (hl : a.length = b.length) (h : ∀ j : Nat, j < a.length + 2 → treeAt a ((j : Int) - 1) = treeAt b ((j : Int) - 1)) : a = b := by
  apply List.ext_getElem? 
  intro k
  by_cases hk : k < a.length
  · obtain ⟨x, hx⟩ : ∃ x, a[k]? = some x := ⟨_, List.getElem?_eq_getElem hk⟩
    obtain ⟨y, hy⟩ : ∃ y, b[k]? = some y := ⟨_, List.getElem?_eq_getElem om0⟩
    have := h (k + 1) om0
    rw [show (((k + 1 : Nat) : Int) - 1) = (k : Nat) by omega, treeAt_at hx, treeAt_at hy] at this
    rw [hx, hy, (Prod.mk.inj this).1]
  · rw [List.getElem?_eq_none om0, List.getElem?_eq_none om0]
theorem coms_eq {a b : List Cm} (hl : a.length = b.length) (h : ∀ j : Nat, j < a.length + 2 → comAt a ((j : Int) - 1) = comAt b ((j : Int) - 1)) : a = b := by
  apply List.ext_getElem? 
  intro k
  by_cases hk : k < a.length
  · obtain ⟨x, hx⟩ : ∃ x, a[k]? = some x := ⟨_, List.getElem?_eq_getElem hk⟩
    obtain ⟨y, hy⟩ : ∃ y, b[k]? = some y := ⟨_, List.getElem?_eq_getElem om0⟩
    have := h (k + 1) om0
    rw [show (((k + 1 : Nat) : Int) - 1) = (k : Nat) by omega, comAt_at hx, comAt_at hy] at this
    rw [hx, hy, (Prod.mk.inj this).1]
  · rw [List.getElem?_eq_none om0, List.getElem?_eq_none om0]
def sameW (a b : SW) : Bool := decide (a.pl = b.pl ∧ a.dead = b.dead)
theorem sameW_no {a b : SW} (h : ¬ (a.pl = b.pl ∧ a.dead = b.dead)) : Value.bool (sameW a b) = .bool false := by unfold sameW; rw [decide_eq_false h]
theorem pl_len1 (W : SW) : W.pl.1.length = W.T.length := List.length_map _
theorem pl_len2 (W : SW) : W.pl.2.length = W.C.length := List.length_map _
end SX
namespace SX
open Go Go.Proofs
/-- a disk with a log alone -/
abbrev lg (q : Int) (B : List UInt8) : Dk := one1 q logN ⟨B, B.length⟩ 0 false
theorem lg_write {q : Int} {B : List UInt8} {f : Fm} (h : (B.length : Int) + ((f.2.length + 9 : Nat) : Int) ≤ q) : writeD (lg q B) f = (lg q (B ++ encFm f), 0) := by
  have e : appendD (lg q B) logN (encFm f) = (one1 q logN ⟨B ++ encFm f, B.length⟩ 0 false, 0) := by
    rw [one_append (by show (B.length : Int) + (encFm f).length ≤ q; rw [encFm_len]; exact h)]; rfl
  unfold writeD
  rw [e, if_neg (fun k => k rfl)]
  rw [one_sync]
theorem lg_open (q : Int) : openD (newD q) = (lg q [], 0) := by
  have e1 : readD (newD q) logN = ([], 6) := rfl
  have e2 : createD (newD q) logN = (⟨q, [⟨[], 0⟩], [(logN, 0)], [], [⟨nos, logN, 0⟩], 0, false⟩, 0) := by kernel_rfl
  have e3 : freshD (newD q) = (lg q [], 0) := by
    unfold freshD
    rw [e2, if_neg (fun k => k rfl)]
    rfl
  unfold openD
  rw [e1, if_pos rfl]
  exact e3
theorem lg_openS (q : Int) : openS (newD q) = ([], []) := by
  have e1 : readD (newD q) logN = ([], 6) := rfl
  unfold openS
  rw [e1]
  rfl
theorem lg_addT {q : Int} {B : List UInt8} {s : St2} {t : List En} (h0 : encErr t = 0) (hn : s.1.length < 65536) (h : (B.length : Int) + (((encT t).length + 9 : Nat) : Int) ≤ q) :
    addT ⟨lg q B, s, false⟩ t = ((⟨lg q (B ++ encFm (1, encT t)), (s.1 ++ [t], s.2), false⟩ : PSt), ((s.1.length : Nat) : Int), (0 : Int)) := by
  have hw := lg_write (f := (1, encT t)) h
  unfold addT
  rw [addR_ok (x := ⟨lg q B, s, false⟩) rfl h0 hn (by rw [hw])]
  rw [hw]
theorem lg_addC {q : Int} {B : List UInt8} {s : St2} {c : Cm} (h0 : checkC c = 0) (h1 : knownS s.1.length s.2.length c = true) (hn : s.2.length < 65536) (h : (B.length : Int) + (((encC' c).length + 9 : Nat) : Int) ≤ q) :
    addC ⟨lg q B, s, false⟩ c = ((⟨lg q (B ++ encFm (2, encC' c)), (s.1, s.2 ++ [c]), false⟩ : PSt), ((s.2.length : Nat) : Int), (0 : Int)) := by
  have hw := lg_write (f := (2, encC' c)) h
  unfold addC
  rw [addR_ok (x := ⟨lg q B, s, false⟩) rfl (by rw [if_neg (not_not_intro h0), if_neg (by rw [h1]; decide)]) hn (by rw [hw])]
  rw [hw]
theorem settle_ok {d : Dk} (hd : d.Ok) (n len : Nat) : (settleD d n len).1.Ok := by
  rw [settle_two]
  split
  · exact settle2_ok hd n len
  · exact syncNamesD_ok (settle2_ok hd n len)
theorem fresh_ok {d : Dk} (hd : d.Ok) : (freshD d).1.Ok := by
  unfold freshD
  split
  · exact createD_ok hd _
  · exact syncNamesD_ok (createD_ok hd _)
theorem open_ok {d : Dk} (hd : d.Ok) : (openD d).1.Ok := by
  unfold openD
  split
  · exact fresh_ok hd
  · split
    · exact hd
    · exact settle_ok hd _ _
theorem addR_okD {x : PSt} {e0 : Int} {n : Nat} {f : Fm} {s' : St2} (h : x.d.Ok) : (addR x e0 n f s').1.d.Ok := by
  unfold addR
  repeat' split
  · exact h
  · exact h
  · exact h
  · exact writeD_ok h f
  · exact writeD_ok h f
theorem addT_ok {x : PSt} (h : x.d.Ok) (t : List En) : (addT x t).1.d.Ok := addR_okD h
theorem addC_ok {x : PSt} (h : x.d.Ok) (c : Cm) : (addC x c).1.d.Ok := addR_okD h
abbrev ta1 : List En := [(⟨#[97]⟩, 1)]
theorem ta1_err : encErr ta1 = 0 := by decide
theorem ta1_len : (encT ta1).length ≤ 300 := by
  have := encEs_len [] ta1 (fun e he => (check_paths (t := ta1) (by decide) e he).1)
  unfold encT
  rw [List.length_append, numB_len]
  have h1 : ta1.length = 1 := rfl
  omega
theorem encC_fit (c : Cm) (h : c.1.length ≤ 1) : (encC' c).length ≤ 9 := by
  unfold encC'
  simp only [List.length_append, numB_len, encPs_len]
  omega
theorem u32_ta1 : U32s ta1 := fun e he => by
  obtain rfl : e = (⟨#[97]⟩, 1) := by simpa using he
  exact ⟨by decide, by decide⟩
set_option maxHeartbeats 8000000 in
theorem opens_spec : Spec Tryz.prog 7 [] [] (fun r L => r = .bool true ∧ L = []) := by
 have hn0 : (newD 1000).Ok := newD_ok (by decide)
 have ho0 : (lg 1000 []).Ok := by have := open_ok hn0; rwa [lg_open] at this
 have hl1 := ta1_len
 have a1 := lg_addT (q := 1000) (B := []) (s := ([], [])) ta1_err (by decide) (by have := ta1_len; show (0 : Int) + _ ≤ 1000; omega)
 have b1 := encFm_len (1, encT ta1)
 generalize hB1 : ([] : List UInt8) ++ encFm (1, encT ta1) = B1 at a1
 have b1' : B1.length ≤ 309 := by rw [← hB1, List.nil_append, b1]; show (encT ta1).length + 9 ≤ 309; omega
 have ho1 : (lg 1000 B1).Ok := by have := addT_ok (x := ⟨lg 1000 [], ([], []), false⟩) ho0 ta1; rwa [a1] at this
 have a2 := lg_addC (q := 1000) (B := B1) (s := ([ta1], [])) (c := ([], 0)) (by decide) (by decide) (by decide) (by have := encC_fit ([], 0) (by decide); omega)
 generalize hB2 : B1 ++ encFm (2, encC' ([], 0)) = B2 at a2
 have b2' : B2.length ≤ 327 := by rw [← hB2, List.length_append, encFm_len]; have := encC_fit ([], 0) (by decide); show B1.length + ((encC' ([], 0)).length + 9) ≤ 327; omega
 have ho2 : (lg 1000 B2).Ok := by have := addC_ok (x := ⟨lg 1000 B1, ([ta1], []), false⟩) ho1 ([], 0); rwa [a2] at this
 have a3 := lg_addC (q := 1000) (B := B2) (s := ([ta1], [([], 0)])) (c := ([0], 0)) (by decide) (by decide) (by decide) (by have := encC_fit ([0], 0) (by decide); omega)
 generalize hB3 : B2 ++ encFm (2, encC' ([0], 0)) = B3 at a3
 have ho3 : (lg 1000 B3).Ok := by have := addC_ok (x := ⟨lg 1000 B2, ([ta1], [([], 0)]), false⟩) ho2 ([0], 0); rwa [a3] at this
 have a4 : addC ⟨lg 1000 B3, ([ta1], [([], 0), ([0], 0)]), false⟩ ([2], 0) = ((⟨lg 1000 B3, ([ta1], [([], 0), ([0], 0)]), false⟩ : PSt), (0 : Int), (9 : Int)) := by
  unfold addC
  exact addR_err rfl (by show (if checkC (([2], 0) : Cm) ≠ 0 then checkC (([2], 0) : Cm) else if knownS 1 2 (([2], 0) : Cm) = false then 9 else 0) ≠ 0; decide)
 refine Spec.of 90 Tryz.func7 rfl rfl rfl ?_
 refine swp_ent ent_roZ ?_
 generalize (fun _ => none : PH) = μ
 refine swp_sr ?_
 refine s_as rfl ?_
 refine swl_sub _ .nil ?_
 refine swl_nn ?_
 refine swp_sr ?_
 refine s_ef (ef_fn (new_spec 1000) rfl rfl sp0) ?_
 rintro v13 L1 hnw
 obtain ⟨q, rfl, rfl⟩ : ∃ q, v13 = .tuple #[pv q, .int .i64 0] ∧ L1 = [FSA q (newD 1000)] := by
  rcases hnw with ⟨h, _⟩ | ⟨_, q, h1, h2⟩
  ·exact absurd (show newOk 1000 from ⟨by decide, by decide⟩) h
  ·exact ⟨q, h1, h2⟩
 refine swl_app ?_
 refine s_mv rfl ?_
 refine s_pu (pu_extractL rfl) ?_
 refine s_pu (pu_extractL rfl) ?_
 refine s_as rfl ?_
 refine s_as rfl ?_
 refine swl_sub _ (sc0 1 rfl .nil) ?_
 refine swl_nn ?_
 refine swp_sr ?_
 refine s_mv rfl ?_
 refine s_ef (ef_fn (open_spec μ q (newD 1000) hn0 ⟨by decide, by decide⟩) rfl rfl sp0) ?_
 rintro v18 L1 ⟨p, W0, μ0, e, hq, rfl, rfl⟩
 obtain ⟨l0, hW0, hq0, hd0, he, hpl⟩ := hq
 rw [lg_open] at he
 have he' : e = 0 := he
 subst he'
 have hpl0 : W0.pl = ([], []) := by rw [hpl rfl, lg_openS]
 rw [if_pos rfl, lg_open, ← hq0]
 refine swl_app ?_
 refine s_mv rfl ?_
 refine s_pu (pu_extractL rfl) ?_
 refine s_pu (pu_extractL rfl) ?_
 refine s_as rfl ?_
 refine s_as rfl ?_
 refine swl_sub _ (sc0 3 rfl (sc0 4 rfl .nil)) ?_
 refine swl_nn ?_
 refine swp_seq ?_
 refine swp_sr ?_
 refine s_mv rfl ?_
 refine s_pu (pu_ptr_eq_nil rfl rfl) ?_
 refine s_mv rfl ?_
 refine s_split 23 rfl (fun h23 => by cases h23) (fun h23 => ?_)
 refine s_on rfl rfl ?_
 refine s_mv rfl ?_
 refine s_on rfl rfl ?_
 refine s_pu (pu_neq rfl rfl) ?_
 refine s_pu (pu_pick_f rfl rfl) ?_
 refine swl_sub _ (sc0 3 rfl (sc0 26 rfl .nil)) ?_
 refine swl_nn ?_
 refine swp_cond (b := _) rfl (fun h26 => by cases h26) (fun h26 => ?_)
 refine swp_skip ?_
 refine then_n ?_
 refine swp_sr ?_
 refine s_mv rfl ?_
 refine s_pu (pu_bld (qs := [(0, _), (1, _)]) rfl) ?_
 refine s_ef (ef_bldS (qs := [(0, _)]) rfl rfl rfl) ?_
 intro b30
 refine swl_share (b := b30) (μ := μ0) sp0 fun μ1 l1 k1 => ?_
 have r1 := row_of_blk (n := 2) (l := 1) (cs := ens ta1) k1 (by rfl) (by decide)
 refine s_ef (ef_fn (addtree_spec μ1 p W0 (hW0.le l1) (lg 1000 []) ho0 (.slice (some ⟨b30, 0, none⟩) 1 1) ta1 r1 u32_ta1) rfl rfl sp0) ?_
 rintro v31 L1 ⟨W1, μ2, hq1, rfl⟩
 rw [hpl0, hd0, a1] at hq1
 rw [hpl0, hd0, a1]
 obtain ⟨l2, hW1, hqq1, hp1, hd1, rfl⟩ := hq1
 refine swl_app ?_
 replace hp1 : W1.pl = (([ta1], []) : St2) := hp1
 replace hd1 : W1.dead = false := hd1
 refine s_mv rfl ?_
 refine s_pu (pu_extractL rfl) ?_
 refine s_pu (pu_extractL rfl) ?_
 refine s_as rfl ?_
 refine s_as rfl ?_
 refine swl_sub _ (sc0 3 rfl (sc0 4 rfl (sc0 5 rfl .nil))) ?_
 refine swl_nn ?_
 refine swp_sr ?_
 refine s_mv rfl ?_
 refine s_pu (pu_bld (qs := []) rfl) ?_
 refine s_ef (ef_fn (addcommit_spec μ2 p W1 hW1 (lg 1000 B1) ho1 (.slice none 0 0) ([], 0) (Row.nil _ _)) rfl rfl sp0) ?_
 rintro v37 L1 ⟨W2, μ3, hq2, rfl⟩
 rw [hp1, hd1, a2] at hq2
 rw [hp1, hd1, a2]
 obtain ⟨l3, hW2, hqq2, hp2, hd2, rfl⟩ := hq2
 refine swl_app ?_
 replace hp2 : W2.pl = (([ta1], [([], 0)]) : St2) := hp2
 replace hd2 : W2.dead = false := hd2
 refine s_mv rfl ?_
 refine s_pu (pu_extractL rfl) ?_
 refine s_pu (pu_extractL rfl) ?_
 refine s_as rfl ?_
 refine s_as rfl ?_
 refine swl_sub _ (sc0 3 rfl (sc0 4 rfl (sc0 5 rfl (sc0 6 rfl (sc0 7 rfl .nil))))) ?_
 refine swl_nn ?_
 refine swp_sr ?_
 refine s_mv rfl ?_
 refine s_ef (ef_bldS (qs := [(0, _)]) rfl rfl rfl) ?_
 intro b42
 refine s_pu (pu_bld (qs := [(0, _)]) rfl) ?_
 refine swl_share (b := b42) (μ := μ3) sp0 fun μ4 l4 k4 => ?_
 have r4 := row_of_blk (n := 1) (l := 1) (cs := ([0] : List Int).flatMap (icsk .i64)) k4 (by rfl) (by decide)
 refine s_ef (ef_fn (addcommit_spec μ4 p W2 (hW2.le l4) (lg 1000 B2) ho2 (.slice (some ⟨b42, 0, none⟩) 1 1) ([0], 0) r4) rfl rfl sp0) ?_
 rintro v44 L1 ⟨W3, μ5, hq3, rfl⟩
 rw [hp2, hd2, a3] at hq3
 rw [hp2, hd2, a3]
 obtain ⟨l5, hW3, hqq3, hp3, hd3, rfl⟩ := hq3
 refine swl_app ?_
 replace hp3 : W3.pl = (([ta1], [([], 0), ([0], 0)]) : St2) := hp3
 replace hd3 : W3.dead = false := hd3
 refine s_mv rfl ?_
 refine s_pu (pu_extractL rfl) ?_
 refine s_pu (pu_extractL rfl) ?_
 refine s_as rfl ?_
 refine s_as rfl ?_
 refine swl_sub _ (sc0 3 rfl (sc0 4 rfl (sc0 5 rfl (sc0 6 rfl (sc0 7 rfl (sc0 8 rfl (sc0 9 rfl .nil))))))) ?_
 refine swl_nn ?_
 refine swp_sr ?_
 refine s_mv rfl ?_
 refine s_ef (ef_bldS (qs := [(0, _)]) rfl rfl rfl) ?_
 intro b49
 refine s_pu (pu_bld (qs := [(0, _)]) rfl) ?_
 refine swl_share (b := b49) (μ := μ5) sp0 fun μ6 l6 k6 => ?_
 have r6 := row_of_blk (n := 1) (l := 1) (cs := ([2] : List Int).flatMap (icsk .i64)) k6 (by rfl) (by decide)
 refine s_ef (ef_fn (addcommit_spec μ6 p W3 (hW3.le l6) (lg 1000 B3) ho3 (.slice (some ⟨b49, 0, none⟩) 1 1) ([2], 0) r6) rfl rfl sp0) ?_
 rintro v51 L1 ⟨W4, μ7, hq4, rfl⟩
 rw [hp3, hd3] at hq4
 rw [a4] at hq4
 obtain ⟨l7, hW4, hqq4, hp4, hd4, rfl⟩ := hq4
 refine swl_app ?_
 replace hp4 : W4.pl = (([ta1], [([], 0), ([0], 0)]) : St2) := hp4
 have hC4 : W4.C.length = 2 := by rw [← pl_len2, hp4]; rfl
 have hT4 : W4.T.length = 1 := by rw [← pl_len1, hp4]; rfl
 refine s_mv rfl ?_
 refine s_pu (pu_extractL rfl) ?_
 refine s_pu (pu_extractL rfl) ?_
 refine s_as rfl ?_
 refine s_as rfl ?_
 refine swl_sub _ (sc0 3 rfl (sc0 4 rfl (sc0 5 rfl (sc0 6 rfl (sc0 7 rfl (sc0 8 rfl (sc0 9 rfl (sc0 11 rfl .nil)))))))) ?_
 refine swl_nn ?_
 refine swp_sr ?_
 refine s_mv rfl ?_
 refine s_pu (pu_eql rfl rfl) ?_
 refine s_mv rfl ?_
 refine s_split 56 rfl (fun h56 => ?_) (fun h56 => by cases h56)
 refine s_on rfl rfl ?_
 refine s_mv rfl ?_
 refine s_on rfl rfl ?_
 refine s_pu (pu_eql rfl rfl) ?_
 refine s_pu (pu_pick_t rfl rfl) ?_
 refine s_mv rfl ?_
 refine s_split 60 rfl (fun h60 => ?_) (fun h60 => by cases h60)
 refine s_on rfl rfl ?_
 refine s_mv rfl ?_
 refine s_on rfl rfl ?_
 refine s_pu (pu_eql rfl rfl) ?_
 refine s_pu (pu_pick_t rfl rfl) ?_
 refine s_mv rfl ?_
 refine s_split 64 rfl (fun h64 => ?_) (fun h64 => by cases h64)
 refine s_on rfl rfl ?_
 refine s_mv rfl ?_
 refine s_on rfl rfl ?_
 refine s_pu (pu_eql rfl rfl) ?_
 refine s_pu (pu_pick_t rfl rfl) ?_
 refine s_mv rfl ?_
 refine s_split 68 rfl (fun h68 => ?_) (fun h68 => by cases h68)
 refine s_on rfl rfl ?_
 refine s_mv rfl ?_
 refine s_on rfl rfl ?_
 refine s_pu (pu_eql rfl rfl) ?_
 refine s_pu (pu_pick_t rfl rfl) ?_
 refine s_mv rfl ?_
 refine s_split 72 rfl (fun h72 => ?_) (fun h72 => by cases h72)
 refine s_on rfl rfl ?_
 refine s_mv rfl ?_
 refine s_on rfl rfl ?_
 refine s_pu (pu_eql rfl rfl) ?_
 refine s_pu (pu_pick_t rfl rfl) ?_
 refine s_mv rfl ?_
 refine s_split 76 rfl (fun h76 => ?_) (fun h76 => by cases h76)
 refine s_on rfl rfl ?_
 refine s_mv rfl ?_
 refine s_on rfl rfl ?_
 refine s_pu (pu_eql rfl rfl) ?_
 refine s_pu (pu_pick_t rfl rfl) ?_
 refine s_mv rfl ?_
 refine s_split 80 rfl (fun h80 => ?_) (fun h80 => by cases h80)
 refine s_on rfl rfl ?_
 refine s_mv rfl ?_
 refine s_on rfl rfl ?_
 refine s_ef (ef_fn (coms_spec p W4 μ7 hW4) rfl rfl sp0) ?_
 rintro v82 L1 ⟨rfl, rfl⟩
 refine swl_app ?_
 refine s_on rfl rfl ?_
 refine s_pu (pu_eql rfl rfl) ?_
 refine s_pu (pu_pick_t rfl rfl) ?_
 refine s_mv rfl ?_
 refine s_split 85 rfl (fun h85 => ?_) (fun h85 => by rw [hC4] at h85; cases h85)
 refine s_on rfl rfl ?_
 refine s_mv rfl ?_
 refine s_on rfl rfl ?_
 refine s_ef (ef_fn (trees_spec p W4 μ7 hW4) rfl rfl sp0) ?_
 rintro v87 L1 ⟨rfl, rfl⟩
 refine swl_app ?_
 refine s_on rfl rfl ?_
 refine s_pu (pu_eql rfl rfl) ?_
 refine s_pu (pu_pick_t rfl rfl) ?_
 refine s_as rfl ?_
 refine swl_sub _ (sc0 0 rfl .nil) ?_
 refine swl_nn ?_
 refine swp_ret ?_
 exact done_ret [] (.tmp rfl .nil) ⟨by rw [hT4]; rfl, rfl⟩ sp0
end SX
namespace SX
open Go Go.Proofs
end SX
namespace SX
open Go Go.Proofs
end SX
namespace SX
open Go Go.Proofs
end SX
namespace SX
open Go Go.Proofs
abbrev sf : ByteArray := ⟨#[102]⟩
abbrev QQ : Int := 16777216
end SX
namespace SX
open Go Go.Proofs
theorem Within.few {m : Nat} {d : Dk} (h : Within m d) (k : m ≤ 1000000) : Few d := h.mono k
end SX
namespace SX
open Go Go.Proofs
end SX
namespace SX
open Go Go.Proofs
end SX
namespace SX
open Go Go.Proofs
/-- both stores -/
abbrev Two : Type := Nat × SW × Nat × SW
/-- both stores have this -/
def TwoOk (μ : PH) (pd pr : Nat) (s : St2) (dead : Bool) (x : Two) : Prop := x.2.1.Ok μ ∧ x.2.2.2.Ok μ ∧ x.2.1.q = pd ∧ x.2.2.2.q = pr ∧ x.2.1.pl = s ∧ x.2.2.2.pl = s ∧ x.2.1.dead = dead ∧ x.2.2.2.dead = dead
end SX
namespace SX
open Go Go.Proofs
def SmallS (s : St2) : Prop := (∀ t ∈ s.1, t.length ≤ 1048576) ∧ ∀ c ∈ s.2, c.1.length ≤ 1048576
theorem SmallS.w {W : SW} (h : SmallS W.pl) : W.Small := ⟨fun x hx => h.1 x.2 (List.mem_map.2 ⟨x, hx, rfl⟩), fun x hx => h.2 x.2 (List.mem_map.2 ⟨x, hx, rfl⟩)⟩
def OptOk (μ : PH) (pd pr : Nat) (o : Option (St2 × Bool)) (t : Option Two) : Prop := match o, t with
  | none, none => True
  | some y, some x => TwoOk μ pd pr y.1 y.2 x ∧ SmallS y.1
  | _, _ => False
theorem TwoOk.le {μ μ' : PH} {pd pr : Nat} {s : St2} {dead : Bool} {x : Two} (h : TwoOk μ pd pr s dead x) (k : Le μ μ') : TwoOk μ' pd pr s dead x := ⟨h.1.le k, h.2.1.le k, h.2.2⟩
theorem OptOk.le {μ μ' : PH} {pd pr : Nat} {o : Option (St2 × Bool)} {t : Option Two} (h : OptOk μ pd pr o t) (k : Le μ μ') : OptOk μ' pd pr o t := by
  cases o with
  | none => cases t with
    | none => trivial
    | some x => exact h
  | some y => cases t with
    | none => exact h
    | some x => exact ⟨h.1.le k, h.2⟩
end SX
namespace SX
open Go Go.Proofs
theorem SmallS.addT {s : St2} (h : SmallS s) {t : List En} (ht : t.length ≤ 1048576) : SmallS (s.1 ++ [t], s.2) := ⟨fun x hx => by
  rcases List.mem_append.1 hx with hx | hx
  · exact h.1 x hx
  · obtain rfl : x = t := by simpa using hx
    exact ht, h.2⟩
theorem SmallS.addC {s : St2} (h : SmallS s) {c : Cm} (hc : c.1.length ≤ 1048576) : SmallS (s.1, s.2 ++ [c]) := ⟨h.1, fun x hx => by
  rcases List.mem_append.1 hx with hx | hx
  · exact h.2 x hx
  · obtain rfl : x = c := by simpa using hx
    exact hc⟩
theorem writeD_in {m : Nat} {d : Dk} (h : Within m d) (f : Fm) : Within m (writeD d f).1 := by
  unfold writeD
  split
  · exact appendD_in h _ _
  · exact syncD_in (appendD_in h _ _) _
theorem addR_in {m : Nat} {x : PSt} {e0 : Int} {n : Nat} {f : Fm} {s' : St2} (h : Within m x.d) : Within m (addR x e0 n f s').1.d := by
  unfold addR
  repeat' split
  · exact h
  · exact h
  · exact h
  · exact writeD_in h f
  · exact writeD_in h f
theorem addT_in {m : Nat} {x : PSt} (h : Within m x.d) (t : List En) : Within m (addT x t).1.d := addR_in h
theorem addC_in {m : Nat} {x : PSt} (h : Within m x.d) (c : Cm) : Within m (addC x c).1.d := addR_in h
theorem settle_in {m : Nat} {d : Dk} (h : Within m d) (n len : Nat) : Within m (settleD d n len).1 := by
  rw [settle_two]
  split
  · exact settle2_in h n len
  · exact syncNamesD_in (settle2_in h n len)
theorem open_in {m : Nat} {d : Dk} (h : Within m d) : Within (m + 1) (openD d).1 := by
  unfold openD
  split
  · unfold freshD
    split
    · exact createD_in h _
    · exact syncNamesD_in (createD_in h _)
  · split
    · exact h.mono om0
    · exact (settle_in h _ _).mono om0
end SX
namespace SX
open Go Go.Proofs
end SX
namespace SX
open Go Go.Proofs
end SX
namespace SX
open Go Go.Proofs
end SX
namespace SX
open Go Go.Proofs
/-- a document's store of which only the tables are there, and only to be read -/
abbrev rnH (dv : Value) (p : Nat) (W : SW) : Assn := blk p 39 [dv, W.tv, W.cv, .bool W.dead]
structure SW.Rok (μ : PH) (W : SW) : Prop where
  tt : Row μ W.tv 1 W.T.length (W.T.flatMap tcs)
  ct : Row μ W.cv 2 W.C.length (W.C.flatMap ccs)
  tr : ∀ x ∈ W.T, Row μ x.1 2 x.2.length (ens x.2)
  cr : ∀ x ∈ W.C, Row μ x.1 1 x.2.1.length (x.2.1.flatMap (icsk .i64))
  tl : W.T.length ≤ 65536
  cl : W.C.length ≤ 65536
theorem SW.Rok.le {μ μ' : PH} {W : SW} (h : W.Rok μ) (k : Le μ μ') : W.Rok μ' := ⟨h.tt.le k, h.ct.le k, fun x hx => (h.tr x hx).le k, fun x hx => (h.cr x hx).le k, h.tl, h.cl⟩
set_option maxHeartbeats 2000000 in
theorem rtreeN_spec (dv : Value) (p : Nat) (W : SW) (μ : PH) (hW : W.Rok μ) (n : Int) : Spec Tryz.prog 58 [pv p, .int .i64 n] [rnH dv p W, ro μ] (fun r L => ∃ v, r = .tuple #[v, .int .i64 (treeAt W.pl.1 n).2] ∧ Row μ v 2 (treeAt W.pl.1 n).1.length (ens (treeAt W.pl.1 n).1) ∧ L = [rnH dv p W, ro μ]) := by
 have hW0 := hW
 obtain ⟨A1, c1, e1⟩ := hW.tt.sl
 obtain ⟨A2, c2, e2⟩ := hW.ct.sl
 obtain ⟨htt, hct, htr, hcr, hT, hC⟩ := hW
 obtain ⟨q, tv, cv, T, C, dead⟩ := W
 dsimp only at e1 e2 htt hct htr hcr hT hC
 subst e1 e2
 have hlen : (SW.pl ⟨q, .slice A1 T.length c1, .slice A2 C.length c2, T, C, dead⟩).1.length = T.length := List.length_map _
 refine Spec.of 24 Tryz.func58 rfl rfl rfl ?_
 refine swp_sr ?_
 refine s_as rfl ?_
 refine s_as rfl ?_
 refine swl_sub _ (sc0 0 rfl (sc0 1 rfl .nil)) ?_
 refine swl_nn ?_
 refine swp_seq ?_
 refine swp_sr ?_
 refine s_mv rfl ?_
 refine s_pu (pu_lss rfl rfl) ?_
 refine s_mv rfl ?_
 refine s_split 8 rfl (fun h8 => ?_) (fun h8 => ?_)
 ·skip
  have h12' : n < 0 := of_decide_eq_true h8
  rw [treeAt_no (.inl h12')]
  refine s_off rfl rfl rfl ?_
  refine s_off rfl rfl rfl ?_
  refine s_off rfl rfl rfl ?_
  refine s_off rfl rfl rfl ?_
  refine s_off rfl rfl rfl ?_
  refine s_off rfl rfl rfl ?_
  refine s_off rfl rfl rfl ?_
  first | refine s_pu (pu_pick_t rfl rfl) ?_ | refine s_pu (pu_pick_f rfl rfl) ?_
  refine swl_sub _ (sc0 0 rfl (sc0 1 rfl (sc0 16 rfl .nil))) ?_
  refine swl_nn ?_
  refine swp_cond (b := _) rfl (fun h16 => ?_) (fun h16 => by cases h16)
  refine swp_sr ?_
  refine s_as rfl ?_
  refine s_as rfl ?_
  refine swl_sub _ (sc0 4 rfl (sc0 5 rfl .nil)) ?_
  refine swl_nn ?_
  refine swp_ret ?_
  refine then_r ?_
  exact done_ret [rnH dv p ⟨q, .slice A1 T.length c1, .slice A2 C.length c2, T, C, dead⟩, ro μ] (.tmp rfl (.tmp rfl .nil)) ⟨.slice none 0 0, rfl, Row.nil _ _, rfl⟩ sp0
 ·skip
  have h12' : 0 ≤ n := by have := of_decide_eq_false h8; omega
  refine s_on rfl rfl ?_
  refine s_mv rfl ?_
  refine s_on rfl rfl ?_
  refine s_mv rfl ?_
  refine s_on rfl rfl ?_
  first | refine s_pu (pu_nilCheck rfl) ?_ | refine s_pu (pu_nilCheck_fn rfl) ?_ | refine s_pu (pu_nilCheck_if rfl) ?_
  refine s_on rfl rfl ?_
  first | refine s_pu (pu_fieldAddr0 rfl) ?_ | refine s_pu (pu_fieldAddr rfl) ?_
  refine s_on rfl rfl ?_
  refine s_rd (rd_load rfl rfl) ?_
  refine s_on rfl rfl ?_
  refine s_pu (pu_len rfl) ?_
  refine s_on rfl rfl ?_
  refine s_pu (pu_geq rfl rfl) ?_
  first | refine s_pu (pu_pick_t rfl rfl) ?_ | refine s_pu (pu_pick_f rfl rfl) ?_
  refine swl_sub _ (sc0 0 rfl (sc0 1 rfl (sc0 16 rfl .nil))) ?_
  refine swl_nn ?_
  refine swp_cond (b := _) rfl (fun h16 => ?_) (fun h16 => ?_)
  ·skip
   refine swp_sr ?_
   refine s_as rfl ?_
   refine s_as rfl ?_
   refine swl_sub _ (sc0 4 rfl (sc0 5 rfl .nil)) ?_
   refine swl_nn ?_
   refine swp_ret ?_
   refine then_r ?_
   have h9' : (T.length : Int) ≤ n := of_decide_eq_true h16
   rw [treeAt_no (.inr (by rw [hlen]; exact h9'))]
   exact done_ret [rnH dv p ⟨q, .slice A1 T.length c1, .slice A2 C.length c2, T, C, dead⟩, ro μ] (.tmp rfl (.tmp rfl .nil)) ⟨.slice none 0 0, rfl, Row.nil _ _, rfl⟩ sp0
  ·skip
   have h9' : ¬ (T.length : Int) ≤ n := of_decide_eq_false h16
   obtain ⟨k, rfl⟩ : ∃ k : Nat, n = (k : Int) := ⟨n.toNat, by omega⟩
   have hk : k < T.length := by omega
   obtain ⟨x, hx⟩ : ∃ x, T[k]? = some x := ⟨_, List.getElem?_eq_getElem hk⟩
   have hxt : (SW.pl ⟨q, .slice A1 T.length c1, .slice A2 C.length c2, T, C, dead⟩).1[k]? = some x.2 := by show (T.map (·.2))[k]? = _; rw [List.getElem?_map, hx]; rfl
   rw [treeAt_at hxt]
   have hxm := List.mem_of_getElem? hx
   have hxr := htr x hxm
   obtain ⟨b, off, cap, hA1, _, _, hrr⟩ := htt.pos om0
   have hx1 := (hrr.elem (f := tcs) (n := 1) (fun _ => rfl) hx).cell
   refine swp_skip ?_
   refine then_n ?_
   refine swp_sr ?_
   refine s_mv rfl ?_
   first | refine s_pu (pu_nilCheck rfl) ?_ | refine s_pu (pu_nilCheck_fn rfl) ?_ | refine s_pu (pu_nilCheck_if rfl) ?_
   first | refine s_pu (pu_fieldAddr0 rfl) ?_ | refine s_pu (pu_fieldAddr rfl) ?_
   refine s_rd (rd_load rfl rfl) ?_
   refine s_mv rfl ?_
   refine s_pu (pu_indexAddr (off + k * 1) (congrArg some hA1) rfl om0 om0 (by rw [Int.toNat_natCast])) ?_
   refine s_rd (rd_ro rfl hx1) ?_
   refine s_as rfl ?_
   refine s_as rfl ?_
   refine swl_sub _ (sc0 4 rfl (sc0 5 rfl .nil)) ?_
   refine swl_nn ?_
   refine swp_ret ?_
   exact done_ret [rnH dv p ⟨q, .slice A1 T.length c1, .slice A2 C.length c2, T, C, dead⟩, ro μ] (.tmp rfl (.tmp rfl .nil)) ⟨x.1, rfl, hxr, rfl⟩ sp0
set_option maxHeartbeats 2000000 in
theorem rcommitN_spec (dv : Value) (p : Nat) (W : SW) (μ : PH) (hW : W.Rok μ) (n : Int) : Spec Tryz.prog 59 [pv p, .int .i64 n] [rnH dv p W, ro μ] (fun r L => ∃ v, r = .tuple #[cmV v (comAt W.pl.2 n).1.2, .int .i64 (comAt W.pl.2 n).2] ∧ Row μ v 1 (comAt W.pl.2 n).1.1.length ((comAt W.pl.2 n).1.1.flatMap (icsk .i64)) ∧ L = [rnH dv p W, ro μ]) := by
 have hW0 := hW
 obtain ⟨A1, c1, e1⟩ := hW.tt.sl
 obtain ⟨A2, c2, e2⟩ := hW.ct.sl
 obtain ⟨htt, hct, htr, hcr, hT, hC⟩ := hW
 obtain ⟨q, tv, cv, T, C, dead⟩ := W
 dsimp only at e1 e2 htt hct htr hcr hT hC
 subst e1 e2
 have hlen : (SW.pl ⟨q, .slice A1 T.length c1, .slice A2 C.length c2, T, C, dead⟩).2.length = C.length := List.length_map _
 refine Spec.of 25 Tryz.func59 rfl rfl rfl ?_
 refine swp_sr ?_
 refine s_ef (ef_alloc) ?_
 intro b4
 refine s_as rfl ?_
 refine swl_sub _ (sc0 0 rfl (sc0 1 rfl (sc0 4 rfl .nil))) ?_
 refine swl_nn ?_
 refine swp_seq ?_
 refine swp_sr ?_
 refine s_mv rfl ?_
 refine s_pu (pu_lss rfl rfl) ?_
 refine s_mv rfl ?_
 refine s_split 8 rfl (fun h8 => ?_) (fun h8 => ?_)
 ·skip
  have h12' : n < 0 := of_decide_eq_true h8
  rw [comAt_no (.inl h12')]
  refine s_off rfl rfl rfl ?_
  refine s_off rfl rfl rfl ?_
  refine s_off rfl rfl rfl ?_
  refine s_off rfl rfl rfl ?_
  refine s_off rfl rfl rfl ?_
  refine s_off rfl rfl rfl ?_
  refine s_off rfl rfl rfl ?_
  first | refine s_pu (pu_pick_t rfl rfl) ?_ | refine s_pu (pu_pick_f rfl rfl) ?_
  refine swl_sub _ (sc0 0 rfl (sc0 1 rfl (sc0 4 rfl (sc0 16 rfl .nil)))) ?_
  refine swl_nn ?_
  refine swp_cond (b := _) rfl (fun h16 => ?_) (fun h16 => by cases h16)
  refine swp_sr ?_
  refine s_pu (pu_bld (qs := []) rfl) ?_
  refine s_ef0 (ef_storeA rfl rfl rfl rfl) ?_
  refine s_as rfl ?_
  refine swl_sub _ (sc0 4 rfl (sc0 5 rfl .nil)) ?_
  refine swl_nn ?_
  refine swp_ret ?_
  refine then_r ?_
  exact done_ret [rnH dv p ⟨q, .slice A1 T.length c1, .slice A2 C.length c2, T, C, dead⟩, ro μ] (.cell rfl (ld_whole rfl) (.tmp rfl .nil)) ⟨.slice none 0 0, rfl, Row.nil _ _, rfl⟩ sp0
 ·skip
  have h12' : 0 ≤ n := by have := of_decide_eq_false h8; omega
  refine s_on rfl rfl ?_
  refine s_mv rfl ?_
  refine s_on rfl rfl ?_
  refine s_mv rfl ?_
  refine s_on rfl rfl ?_
  first | refine s_pu (pu_nilCheck rfl) ?_ | refine s_pu (pu_nilCheck_fn rfl) ?_ | refine s_pu (pu_nilCheck_if rfl) ?_
  refine s_on rfl rfl ?_
  first | refine s_pu (pu_fieldAddr0 rfl) ?_ | refine s_pu (pu_fieldAddr rfl) ?_
  refine s_on rfl rfl ?_
  refine s_rd (rd_load rfl rfl) ?_
  refine s_on rfl rfl ?_
  refine s_pu (pu_len rfl) ?_
  refine s_on rfl rfl ?_
  refine s_pu (pu_geq rfl rfl) ?_
  first | refine s_pu (pu_pick_t rfl rfl) ?_ | refine s_pu (pu_pick_f rfl rfl) ?_
  refine swl_sub _ (sc0 0 rfl (sc0 1 rfl (sc0 4 rfl (sc0 16 rfl .nil)))) ?_
  refine swl_nn ?_
  refine swp_cond (b := _) rfl (fun h16 => ?_) (fun h16 => ?_)
  ·skip
   refine swp_sr ?_
   refine s_pu (pu_bld (qs := []) rfl) ?_
   refine s_ef0 (ef_storeA rfl rfl rfl rfl) ?_
   refine s_as rfl ?_
   refine swl_sub _ (sc0 4 rfl (sc0 5 rfl .nil)) ?_
   refine swl_nn ?_
   refine swp_ret ?_
   refine then_r ?_
   have h9' : (C.length : Int) ≤ n := of_decide_eq_true h16
   rw [comAt_no (.inr (by rw [hlen]; exact h9'))]
   exact done_ret [rnH dv p ⟨q, .slice A1 T.length c1, .slice A2 C.length c2, T, C, dead⟩, ro μ] (.cell rfl (ld_whole rfl) (.tmp rfl .nil)) ⟨.slice none 0 0, rfl, Row.nil _ _, rfl⟩ sp0
  ·skip
   have h9' : ¬ (C.length : Int) ≤ n := of_decide_eq_false h16
   obtain ⟨k, rfl⟩ : ∃ k : Nat, n = (k : Int) := ⟨n.toNat, by omega⟩
   have hk : k < C.length := by omega
   obtain ⟨x, hx⟩ : ∃ x, C[k]? = some x := ⟨_, List.getElem?_eq_getElem hk⟩
   have hxt : (SW.pl ⟨q, .slice A1 T.length c1, .slice A2 C.length c2, T, C, dead⟩).2[k]? = some x.2 := by show (C.map (·.2))[k]? = _; rw [List.getElem?_map, hx]; rfl
   rw [comAt_at hxt]
   have hxm := List.mem_of_getElem? hx
   have hxr := hcr x hxm
   obtain ⟨A6, c6, hx1⟩ := hxr.sl
   rw [hx1] at hxr
   obtain ⟨b, off, cap, hA1, _, _, hrr⟩ := hct.pos om0
   have hx2 := hrr.elem (f := ccs) (n := 2) (fun _ => rfl) hx
   unfold ccs at hx2
   rw [hx1] at hx2
   refine swp_skip ?_
   refine then_n ?_
   refine swp_sr ?_
   refine s_mv rfl ?_
   first | refine s_pu (pu_nilCheck rfl) ?_ | refine s_pu (pu_nilCheck_fn rfl) ?_ | refine s_pu (pu_nilCheck_if rfl) ?_
   first | refine s_pu (pu_fieldAddr0 rfl) ?_ | refine s_pu (pu_fieldAddr rfl) ?_
   refine s_rd (rd_load rfl rfl) ?_
   refine s_mv rfl ?_
   refine s_pu (pu_indexAddr (off + k * 2) (congrArg some hA1) rfl om0 om0 (by rw [Int.toNat_natCast])) ?_
   refine s_rd (rd_roA (vs := [.slice A6 x.2.1.length c6, .int .i64 x.2.2]) rfl rfl hx2) ?_
   refine s_ef0 (ef_storeA rfl rfl rfl rfl) ?_
   refine s_as rfl ?_
   refine swl_sub _ (sc0 4 rfl (sc0 5 rfl .nil)) ?_
   refine swl_nn ?_
   refine swp_ret ?_
   exact done_ret [rnH dv p ⟨q, .slice A1 T.length c1, .slice A2 C.length c2, T, C, dead⟩, ro μ] (.cell rfl (ld_whole rfl) (.tmp rfl .nil)) ⟨.slice A6 x.2.1.length c6, rfl, hxr, rfl⟩ sp0
set_option maxHeartbeats 2000000 in
theorem rgraphN_spec (dv : Value) (p : Nat) (W : SW) (μ : PH) (hW : W.Rok μ) (hlt : ∀ x ∈ W.C, x.2.1.length ≤ 1048576) : Spec Tryz.prog 57 [pv p] [rnH dv p W, ro μ] (fun r L => ∃ μ' G, Le μ μ' ∧ Graph μ' r G ∧ nums G = parS W.pl ∧ L = [rnH dv p W, ro μ']) := by
 have hW0 := hW
 obtain ⟨A1, c1, e1⟩ := hW.tt.sl
 obtain ⟨A2, c2, e2⟩ := hW.ct.sl
 obtain ⟨htt, hct, htr, hcr, hT, hC⟩ := hW
 obtain ⟨q, tv, cv, T, C, dead⟩ := W
 dsimp only at e1 e2 htt hct htr hcr hT hC hlt
 subst e1 e2
 refine Spec.of 28 Tryz.func57 rfl rfl rfl ?_
 refine swp_sr ?_
 refine s_as rfl ?_
 refine swl_sub _ (sc0 0 rfl .nil) ?_
 refine swl_nn ?_
 refine swp_sr ?_
 refine s_as rfl ?_
 refine swl_sub _ (sc0 0 rfl (sc0 3 rfl .nil)) ?_
 refine swl_nn ?_
 refine swp_seq ?_
 refine swp_sr ?_
 refine s_as rfl ?_
 refine swl_sub _ (sc0 0 rfl (sc0 3 rfl (sc0 4 rfl .nil))) ?_
 refine swl_nn ?_
 refine swp_block ?_
 refine swp_ent (own_nil_ent (e := 23) (n := 1)) ?_
 refine swp_loop (ι := Nat × Value × List (Value × List Int) × PH) (fun k env L => Sub env [(0, pv p), (3, k.2.1), (4, .int .i64 (k.1 : Nat))] ∧ Ent L [own 23 1 k.2.1 k.1 (k.2.2.1.flatMap gcs), rnH dv p ⟨q, .slice A1 T.length c1, .slice A2 C.length c2, T, C, dead⟩, ro k.2.2.2] ∧ k.1 ≤ C.length ∧ Le μ k.2.2.2 ∧ nums k.2.2.1 = ((C.take k.1).map (·.2)).map (·.1) ∧ (∀ x ∈ k.2.2.1, Row k.2.2.2 x.1 1 x.2.length (x.2.flatMap (icsk .i64)))) (fun k => C.length - k.1) (0, .slice none 0 0, [], μ) ⟨⟨rfl, rfl, rfl, trivial⟩, by show Ent _ [own 23 1 (.slice none 0 0) 0 [], rnH dv p ⟨q, .slice A1 T.length c1, .slice A2 C.length c2, T, C, dead⟩, ro μ]; exact Split.ent' sp0, Nat.zero_le _, Le.refl _, rfl, fun x hx => (by cases hx)⟩ ?_
 rintro ⟨k, v3, Gk, μk⟩ env L ⟨hsub, hE, hk, hle, hnk, hrk⟩
 dsimp only at hsub hE hk hle hnk hrk ⊢
 refine swp_sub _ hsub ?_
 refine swp_ent hE ?_
 clear hsub hE env L
 refine swp_seq ?_
 refine swp_sr ?_
 refine s_mv rfl ?_
 refine s_mv rfl ?_
 first | refine s_pu (pu_nilCheck rfl) ?_ | refine s_pu (pu_nilCheck_fn rfl) ?_ | refine s_pu (pu_nilCheck_if rfl) ?_
 first | refine s_pu (pu_fieldAddr0 rfl) ?_ | refine s_pu (pu_fieldAddr rfl) ?_
 refine s_rd (rd_load rfl rfl) ?_
 refine s_pu (pu_len rfl) ?_
 refine s_pu (pu_lss rfl rfl) ?_
 refine swl_sub _ (sc0 0 rfl (sc0 3 rfl (sc0 4 rfl (sc0 11 rfl .nil)))) ?_
 refine swl_nn ?_
 refine swp_cond (b := _) rfl (fun h11 => ?_) (fun h11 => ?_)
 ·skip
  have h8' : k < C.length := by have := of_decide_eq_true h11; omega
  obtain ⟨x, hx⟩ : ∃ x, C[k]? = some x := ⟨_, List.getElem?_eq_getElem h8'⟩
  have hxm := List.mem_of_getElem? hx
  have hxr := (hcr x hxm).le hle
  have hlx := hlt x hxm
  obtain ⟨b, off, cap, hA2, _, _, hrr⟩ := (hct.le hle).pos om0
  have hx2 := (hrr.elem (f := ccs) (n := 2) (fun _ => rfl) hx) 0 x.1 rfl
  refine swp_skip ?_
  refine then_n ?_
  refine swp_seq ?_
  refine swp_block ?_
  refine swp_region ?_
  refine s_mv rfl ?_
  refine s_ef (ef_bldS (qs := []) rfl rfl rfl) ?_
  intro b15
  refine swl_ent (own_empty (n := 1)) ?_
  refine s_mv rfl ?_
  first | refine s_pu (pu_nilCheck rfl) ?_ | refine s_pu (pu_nilCheck_fn rfl) ?_ | refine s_pu (pu_nilCheck_if rfl) ?_
  first | refine s_pu (pu_fieldAddr0 rfl) ?_ | refine s_pu (pu_fieldAddr rfl) ?_
  refine s_rd (rd_load rfl rfl) ?_
  refine s_mv rfl ?_
  refine s_pu (pu_indexAddr (off + k * 2) (congrArg some hA2) rfl om0 om0 (by rw [Int.toNat_natCast])) ?_
  first | refine s_pu (pu_fieldAddr0 rfl) ?_ | refine s_pu (pu_fieldAddr rfl) ?_
  refine s_rd (rd_ro rfl hx2) ?_
  refine s_ef (ef_append_ro hxr rfl rfl sp0 (icsk_one _) (by simp only [maxLen]; omega) om0) ?_
  rintro v24 -
  rw [Nat.zero_add x.2.1.length, List.nil_append]
  refine swl_fact (fun m h => own_form h) fun ⟨A3, c3, hv3⟩ => ?_
  subst hv3
  refine s_ef (ef_bldS (qs := [(0, _)]) rfl rfl rfl) ?_
  intro b25
  refine s_ef (ef_append_lit (l := k) (m := 1) rfl rfl sp0 (by simp only [maxLen]; omega) om0) ?_
  rintro v26 -
  skip
  refine s_as rfl ?_
  refine swl_sub _ (sc0 0 rfl (sc0 3 rfl (sc0 4 rfl .nil))) ?_
  refine swl_share_own (μ := μk) (v := .slice A3 x.2.1.length c3) (e := 3) (n := 1) sp0 fun μ' hle' hrow' => ?_
  refine swl_nil ?_
  refine block_n ?_
  refine then_n ?_
  refine swp_region ?_
  refine s_mv rfl ?_
  refine s_pu (pu_add_as ((k + 1 : Nat) : Int) rfl rfl om0 om0 om0) ?_
  refine s_as rfl ?_
  refine swl_sub _ (sc0 0 rfl (sc0 3 rfl (sc0 4 rfl .nil))) ?_
  refine swl_nil ?_
  refine then_n ⟨(k + 1, v26, Gk ++ [(.slice A3 x.2.1.length c3, x.2.1)], μ'), ⟨⟨rfl, rfl, rfl, trivial⟩, ?_, h8', hle.trans hle', ?_, fun y hy => ?_⟩, by show C.length - (k + 1) < C.length - k; omega⟩
  ·show Ent _ [own 23 1 v26 (k + 1) ((Gk ++ [(Value.slice A3 x.2.1.length c3, x.2.1)]).flatMap gcs), rnH dv p ⟨q, .slice A1 T.length c1, .slice A2 C.length c2, T, C, dead⟩, ro μ']
   rw [show (Gk ++ [(Value.slice A3 x.2.1.length c3, x.2.1)]).flatMap gcs = Gk.flatMap gcs ++ [Value.slice A3 x.2.1.length c3] by rw [List.flatMap_append]; rfl]
   exact Split.ent' sp0
  ·show List.map (·.2) (Gk ++ [((_ : Value), x.2.1)]) = ((C.take (k + 1)).map (·.2)).map (·.1)
   rw [List.map_append, List.take_add_one, hx, List.map_append, List.map_append, ← hnk]; rfl
  ·rcases List.mem_append.1 hy with hy | hy
   ·exact (hrk y hy).le hle'
   ·obtain rfl : y = (Value.slice A3 x.2.1.length c3, x.2.1) := by simpa using hy
    exact hrow'
 ·skip
  have h8' := of_decide_eq_false h11
  obtain rfl : k = C.length := by omega
  rw [List.take_length] at hnk
  refine swp_exit ?_
  refine then_x ?_
  refine then_x ?_
  refine block_hit rfl ?_
  refine then_n ?_
  refine swp_seq ?_
  refine swp_share_own (μ := μk) (v := v3) (e := 23) (n := 1) sp0 fun μ' hle' hrow' => ?_
  refine swp_region ?_
  refine s_mv rfl ?_
  refine s_as rfl ?_
  refine swl_sub _ (sc0 2 rfl .nil) ?_
  refine swl_nn ?_
  refine swp_ret ?_
  have hGl : C.length = Gk.length := by
   have := congrArg List.length hnk
   simp only [nums, List.length_map] at this
   exact this.symm
  rw [hGl] at hrow'
  exact done_ret [rnH dv p ⟨q, .slice A1 T.length c1, .slice A2 C.length c2, T, C, dead⟩, ro μ'] (.tmp rfl .nil) ⟨μ', Gk, hle.trans hle', ⟨hrow', fun x hx => (hrk x hx).le hle'⟩, hnk, rfl⟩ sp0
end SX
namespace SX
open Go Go.Proofs
set_option maxHeartbeats 8000000 in
theorem lsameN_spec (μ : PH) (dv : Value) (p w : Nat) (Wa Wb : SW) (hA : Wa.Ok μ) (hB : Wb.Rok μ) (sA : Wa.Small) (sB : Wb.Small) : Spec Tryz.prog 18 [pv p, pv w] [stH p Wa, ttA Wa, ccA Wa, rnH dv w Wb, ro μ]
  (fun r L => ∃ μ', Le μ μ' ∧ r = .bool (sameW Wa Wb) ∧ L = [stH p Wa, ttA Wa, ccA Wa, rnH dv w Wb, ro μ']) := by
 have hB0 := hB
 have h1a := pl_len1 Wa
 have h2a := pl_len2 Wa
 have h1b := pl_len1 Wb
 have h2b := pl_len2 Wb
 obtain ⟨A1, c1, e1⟩ := hB.tt.sl
 obtain ⟨A2, c2, e2⟩ := hB.ct.sl
 obtain ⟨htt, hct, htr, hcr, hT, hC⟩ := hB
 obtain ⟨q, tv, cv, T, C, dead⟩ := Wb
 dsimp only at e1 e2 htt hct htr hcr hT hC h1b h2b
 subst e1 e2
 have hTa := hA.tl
 have hCa := hA.cl
 refine Spec.of 110 Tryz.func18 rfl rfl rfl ?_
 refine swp_sr ?_
 refine s_as rfl ?_
 refine swl_sub _ (sc0 0 rfl (sc0 1 rfl .nil)) ?_
 refine swl_nn ?_
 refine swp_seq ?_
 refine swp_seq ?_
 refine swp_draw [5, 14, 24] ([rnH dv w ⟨q, .slice A1 T.length c1, .slice A2 C.length c2, T, C, dead⟩]) ([stH p Wa, ttA Wa, ccA Wa, ro μ]) (Split.ent sp0) kr0 ?_
 refine d_pu 0 rfl (pu_move rfl) kr0 kr0 kr0 ?_
 refine d_pu 2 rfl (pu_move rfl) kr0 kr0 kr0 ?_
 first | refine d_pu 3 rfl (pu_nilCheck rfl) kr0 kr0 kr0 ?_ | refine d_pu 3 rfl (pu_nilCheck_fn rfl) kr0 kr0 kr0 ?_ | refine d_pu 3 rfl (pu_nilCheck_if rfl) kr0 kr0 kr0 ?_
 first | refine d_pu 4 rfl (pu_fieldAddr0 rfl) kr0 kr0 kr0 ?_ | refine d_pu 4 rfl (pu_fieldAddr rfl) kr0 kr0 kr0 ?_
 refine d_rd 5 rfl (rd_load rfl rfl) rfl kr0 kr0 kr0 ?_
 refine d_pu 6 rfl (pu_len rfl) kr0 kr0 kr0 ?_
 refine d_eft 1 rfl kr0 (ef_fn (trees_spec p Wa μ hA) rfl rfl sp0) ?_
 rintro v16 L1 ⟨rfl, rfl⟩
 refine ⟨_, ent_appC (Split.ent sp0), ?_⟩
 refine d_pu 7 rfl (pu_neq rfl rfl) kr0 kr0 kr0 ?_
 refine d_pu 8 rfl (pu_move rfl) kr0 kr0 kr0 ?_
 refine d_split 23 rfl (fun h23 => ?_) (fun h23 => ?_)
 ·skip
  have hn : ¬ Wa.T.length = T.length := fun e => by rw [e] at h23; simp at h23
  refine d_off 9 rfl rfl rfl rfl kr0 kr0 kr0 ?_
  refine d_off 10 rfl rfl rfl rfl kr0 kr0 kr0 ?_
  refine d_off 11 rfl rfl rfl rfl kr0 kr0 kr0 ?_
  refine d_off 12 rfl rfl rfl rfl kr0 kr0 kr0 ?_
  refine d_off 13 rfl rfl rfl rfl kr0 kr0 kr0 ?_
  refine d_off 14 rfl rfl rfl rfl kr0 kr0 kr0 ?_
  refine d_off 15 rfl rfl rfl rfl kr0 kr0 kr0 ?_
  refine d_off 16 rfl rfl rfl rfl kr0 kr0 kr0 ?_
  first | refine d_pu 17 rfl (pu_pick_t rfl rfl) kr0 kr0 kr0 ?_ | refine d_pu 17 rfl (pu_pick_f rfl rfl) kr0 kr0 kr0 ?_
  refine d_pu 18 rfl (pu_move rfl) kr0 kr0 kr0 ?_
  refine d_split 33 rfl (fun h33 => ?_) (fun h33 => by cases h33)
  refine d_off 19 rfl rfl rfl rfl kr0 kr0 kr0 ?_
  refine d_off 20 rfl rfl rfl rfl kr0 kr0 kr0 ?_
  refine d_off 21 rfl rfl rfl rfl kr0 kr0 kr0 ?_
  refine d_off 22 rfl rfl rfl rfl kr0 kr0 kr0 ?_
  refine d_off 23 rfl rfl rfl rfl kr0 kr0 kr0 ?_
  refine d_off 24 rfl rfl rfl rfl kr0 kr0 kr0 ?_
  refine d_off 25 rfl rfl rfl rfl kr0 kr0 kr0 ?_
  first | refine d_pu 26 rfl (pu_pick_t rfl rfl) kr0 kr0 kr0 ?_ | refine d_pu 26 rfl (pu_pick_f rfl rfl) kr0 kr0 kr0 ?_
  refine d_pu 27 rfl (pu_move rfl) kr0 kr0 kr0 ?_
  refine d_split 42 rfl (fun h42 => ?_) (fun h42 => by cases h42)
  refine d_off 28 rfl rfl rfl rfl kr0 kr0 kr0 ?_
  refine d_off 29 rfl rfl rfl rfl kr0 kr0 kr0 ?_
  refine d_off 30 rfl rfl rfl rfl kr0 kr0 kr0 ?_
  refine d_off 31 rfl rfl rfl rfl kr0 kr0 kr0 ?_
  refine d_off 32 rfl rfl rfl rfl kr0 kr0 kr0 ?_
  refine d_off 33 rfl rfl rfl rfl kr0 kr0 kr0 ?_
  first | refine d_pu 34 rfl (pu_pick_t rfl rfl) kr0 kr0 kr0 ?_ | refine d_pu 34 rfl (pu_pick_f rfl rfl) kr0 kr0 kr0 ?_
  refine d_sub _ (sc0 0 rfl (sc0 1 rfl (sc0 49 rfl .nil))) ?_
  first | refine d_nilt kr0 ?_ | refine d_nilf kr0 ?_
  refine then_n ?_
  refine swp_cond (b := _) rfl (fun h49 => ?_) (fun h49 => by cases h49)
  refine swp_sr ?_
  refine s_as rfl ?_
  refine swl_sub _ (sc0 4 rfl .nil) ?_
  refine swl_nn ?_
  refine swp_ret ?_
  refine then_r ?_
  exact done_ret [stH p Wa, ttA Wa, ccA Wa, rnH dv w ⟨q, .slice A1 T.length c1, .slice A2 C.length c2, T, C, dead⟩, ro μ] (.tmp rfl .nil) ⟨μ, Le.refl _, (sameW_no fun k => hn (by rw [← h1a, ← h1b, k.1])).symm, rfl⟩ sp0
 ·skip
  have hnT : Wa.T.length = T.length := by
   have : ((Wa.T.length : Nat) : Int) = (T.length : Nat) := by simpa using h23
   omega
  refine d_pu_on 9 rfl rfl rfl (pu_move rfl) kr0 kr0 kr0 ?_
  refine d_pu_on 11 rfl rfl rfl (pu_move rfl) kr0 kr0 kr0 ?_
  first | refine d_pu_on 12 rfl rfl rfl (pu_nilCheck rfl) kr0 kr0 kr0 ?_ | refine d_pu_on 12 rfl rfl rfl (pu_nilCheck_fn rfl) kr0 kr0 kr0 ?_ | refine d_pu_on 12 rfl rfl rfl (pu_nilCheck_if rfl) kr0 kr0 kr0 ?_
  first | refine d_pu_on 13 rfl rfl rfl (pu_fieldAddr0 rfl) kr0 kr0 kr0 ?_ | refine d_pu_on 13 rfl rfl rfl (pu_fieldAddr rfl) kr0 kr0 kr0 ?_
  refine d_rd_on 14 rfl rfl rfl (rd_load rfl rfl) rfl kr0 kr0 kr0 ?_
  refine d_pu_on 15 rfl rfl rfl (pu_len rfl) kr0 kr0 kr0 ?_
  refine d_amb [10] kr0 rfl ?_
  refine dA_ef 10 rfl (GOn.some rfl rfl) (ef_fn (coms_spec p Wa μ hA) rfl rfl sp0) ?_
  rintro v25 L1 ⟨rfl, rfl⟩
  refine ⟨_, ent_appC (Split.ent sp0), ?_⟩
  refine d_pu_on 16 rfl rfl rfl (pu_neq rfl rfl) kr0 kr0 kr0 ?_
  first | refine d_pu 17 rfl (pu_pick_t rfl rfl) kr0 kr0 kr0 ?_ | refine d_pu 17 rfl (pu_pick_f rfl rfl) kr0 kr0 kr0 ?_
  refine d_pu 18 rfl (pu_move rfl) kr0 kr0 kr0 ?_
  refine d_split 33 rfl (fun h33 => ?_) (fun h33 => ?_)
  ·skip
   have hn : ¬ Wa.C.length = C.length := fun e => by rw [e] at h33; simp at h33
   refine d_off 19 rfl rfl rfl rfl kr0 kr0 kr0 ?_
   refine d_off 20 rfl rfl rfl rfl kr0 kr0 kr0 ?_
   refine d_off 21 rfl rfl rfl rfl kr0 kr0 kr0 ?_
   refine d_off 22 rfl rfl rfl rfl kr0 kr0 kr0 ?_
   refine d_off 23 rfl rfl rfl rfl kr0 kr0 kr0 ?_
   refine d_off 24 rfl rfl rfl rfl kr0 kr0 kr0 ?_
   refine d_off 25 rfl rfl rfl rfl kr0 kr0 kr0 ?_
   first | refine d_pu 26 rfl (pu_pick_t rfl rfl) kr0 kr0 kr0 ?_ | refine d_pu 26 rfl (pu_pick_f rfl rfl) kr0 kr0 kr0 ?_
   refine d_pu 27 rfl (pu_move rfl) kr0 kr0 kr0 ?_
   refine d_split 42 rfl (fun h42 => ?_) (fun h42 => by cases h42)
   refine d_off 28 rfl rfl rfl rfl kr0 kr0 kr0 ?_
   refine d_off 29 rfl rfl rfl rfl kr0 kr0 kr0 ?_
   refine d_off 30 rfl rfl rfl rfl kr0 kr0 kr0 ?_
   refine d_off 31 rfl rfl rfl rfl kr0 kr0 kr0 ?_
   refine d_off 32 rfl rfl rfl rfl kr0 kr0 kr0 ?_
   refine d_off 33 rfl rfl rfl rfl kr0 kr0 kr0 ?_
   first | refine d_pu 34 rfl (pu_pick_t rfl rfl) kr0 kr0 kr0 ?_ | refine d_pu 34 rfl (pu_pick_f rfl rfl) kr0 kr0 kr0 ?_
   refine d_sub _ (sc0 0 rfl (sc0 1 rfl (sc0 49 rfl .nil))) ?_
   first | refine d_nilt kr0 ?_ | refine d_nilf kr0 ?_
   refine then_n ?_
   refine swp_cond (b := _) rfl (fun h49 => ?_) (fun h49 => by cases h49)
   refine swp_sr ?_
   refine s_as rfl ?_
   refine swl_sub _ (sc0 4 rfl .nil) ?_
   refine swl_nn ?_
   refine swp_ret ?_
   refine then_r ?_
   exact done_ret [stH p Wa, ttA Wa, ccA Wa, rnH dv w ⟨q, .slice A1 T.length c1, .slice A2 C.length c2, T, C, dead⟩, ro μ] (.tmp rfl .nil) ⟨μ, Le.refl _, (sameW_no fun k => hn (by rw [← h2a, ← h2b, k.1])).symm, rfl⟩ sp0
  ·skip
   have hnC : Wa.C.length = C.length := by
    have : ((Wa.C.length : Nat) : Int) = (C.length : Nat) := by simpa using h33
    omega
   refine d_pu_on 19 rfl rfl rfl (pu_move rfl) kr0 kr0 kr0 ?_
   refine d_pu_on 21 rfl rfl rfl (pu_move rfl) kr0 kr0 kr0 ?_
   first | refine d_pu_on 22 rfl rfl rfl (pu_nilCheck rfl) kr0 kr0 kr0 ?_ | refine d_pu_on 22 rfl rfl rfl (pu_nilCheck_fn rfl) kr0 kr0 kr0 ?_ | refine d_pu_on 22 rfl rfl rfl (pu_nilCheck_if rfl) kr0 kr0 kr0 ?_
   first | refine d_pu_on 23 rfl rfl rfl (pu_fieldAddr0 rfl) kr0 kr0 kr0 ?_ | refine d_pu_on 23 rfl rfl rfl (pu_fieldAddr rfl) kr0 kr0 kr0 ?_
   refine d_rd_on 24 rfl rfl rfl (rd_load rfl rfl) rfl kr0 kr0 kr0 ?_
   refine d_amb [20] kr0 rfl ?_
   refine dA_ef 20 rfl (GOn.some rfl rfl) (ef_fn (dead_spec p Wa) rfl rfl sp0) ?_
   rintro v35 L1 ⟨rfl, rfl⟩
   refine ⟨_, ent_appC (Split.ent sp0), ?_⟩
   refine d_pu_on 25 rfl rfl rfl (pu_bool_ne rfl rfl) kr0 kr0 kr0 ?_
   first | refine d_pu 26 rfl (pu_pick_t rfl rfl) kr0 kr0 kr0 ?_ | refine d_pu 26 rfl (pu_pick_f rfl rfl) kr0 kr0 kr0 ?_
   refine d_pu 27 rfl (pu_move rfl) kr0 kr0 kr0 ?_
   refine d_split 42 rfl (fun h42 => ?_) (fun h42 => ?_)
   ·skip
    have hn : ¬ Wa.dead = dead := fun e => by rw [e] at h42; simp at h42
    refine d_off 28 rfl rfl rfl rfl kr0 kr0 kr0 ?_
    refine d_off 29 rfl rfl rfl rfl kr0 kr0 kr0 ?_
    refine d_off 30 rfl rfl rfl rfl kr0 kr0 kr0 ?_
    refine d_off 31 rfl rfl rfl rfl kr0 kr0 kr0 ?_
    refine d_off 32 rfl rfl rfl rfl kr0 kr0 kr0 ?_
    refine d_off 33 rfl rfl rfl rfl kr0 kr0 kr0 ?_
    first | refine d_pu 34 rfl (pu_pick_t rfl rfl) kr0 kr0 kr0 ?_ | refine d_pu 34 rfl (pu_pick_f rfl rfl) kr0 kr0 kr0 ?_
    refine d_sub _ (sc0 0 rfl (sc0 1 rfl (sc0 49 rfl .nil))) ?_
    first | refine d_nilt kr0 ?_ | refine d_nilf kr0 ?_
    refine then_n ?_
    refine swp_cond (b := _) rfl (fun h49 => ?_) (fun h49 => by cases h49)
    refine swp_sr ?_
    refine s_as rfl ?_
    refine swl_sub _ (sc0 4 rfl .nil) ?_
    refine swl_nn ?_
    refine swp_ret ?_
    refine then_r ?_
    exact done_ret [stH p Wa, ttA Wa, ccA Wa, rnH dv w ⟨q, .slice A1 T.length c1, .slice A2 C.length c2, T, C, dead⟩, ro μ] (.tmp rfl .nil) ⟨μ, Le.refl _, (sameW_no fun k => hn k.2).symm, rfl⟩ sp0
   ·skip
    have hnd : Wa.dead = dead := by
     cases ha : Wa.dead <;> cases hb : dead <;> rw [ha, hb] at h42 <;> first | rfl | simp at h42
    refine d_pu_on 28 rfl rfl rfl (pu_move rfl) kr0 kr0 kr0 ?_
    refine d_pu_on 30 rfl rfl rfl (pu_move rfl) kr0 kr0 kr0 ?_
    refine d_amb [29] kr0 rfl ?_
    first | refine dA_fint 29 rfl (GOn.some rfl rfl) kr0 (ef_fn (graph_spec p Wa μ hA sA.2) rfl rfl sp0) ?_ | refine dA_finf 29 rfl (GOn.some rfl rfl) kr0 (ef_fn (graph_spec p Wa μ hA sA.2) rfl rfl sp0) ?_
    rintro v44 L1 ⟨μ1, Ga, l1, hGa, hna, rfl⟩
    refine swd_app ?_
    refine d_amb [31] kr0 rfl ?_
    first | refine dA_fint 31 rfl (GOn.some rfl rfl) kr0 (ef_fn (rgraphN_spec dv w ⟨q, .slice A1 T.length c1, .slice A2 C.length c2, T, C, dead⟩ μ1 (hB0.le l1) sB.2) rfl rfl sp0) ?_ | refine dA_finf 31 rfl (GOn.some rfl rfl) kr0 (ef_fn (rgraphN_spec dv w ⟨q, .slice A1 T.length c1, .slice A2 C.length c2, T, C, dead⟩ μ1 (hB0.le l1) sB.2) rfl rfl sp0) ?_
    rintro v46 L2 ⟨μ2, Gb, l2, hGb, hnb, rfl⟩
    refine swd_app ?_
    refine d_amb [32] kr0 rfl ?_
    first | refine dA_fint 32 rfl (GOn.some rfl rfl) kr0 (ef_fn (sameg_spec μ2 v44 v46 Ga Gb (hGa.le l2) hGb) rfl rfl sp0) ?_ | refine dA_finf 32 rfl (GOn.some rfl rfl) kr0 (ef_fn (sameg_spec μ2 v44 v46 Ga Gb (hGa.le l2) hGb) rfl rfl sp0) ?_
    rintro v47 L3 ⟨rfl, rfl⟩
    refine swd_app ?_
    refine d_pu_on 33 rfl rfl rfl (pu_not rfl) kr0 kr0 kr0 ?_
    first | refine d_pu 34 rfl (pu_pick_t rfl rfl) kr0 kr0 kr0 ?_ | refine d_pu 34 rfl (pu_pick_f rfl rfl) kr0 kr0 kr0 ?_
    refine d_sub _ (sc0 0 rfl (sc0 1 rfl (sc0 49 rfl .nil))) ?_
    first | refine d_nilt kr0 ?_ | refine d_nilf kr0 ?_
    refine then_n ?_
    refine swp_cond (b := _) rfl (fun h49 => ?_) (fun h49 => ?_)
    ·skip
     refine swp_sr ?_
     refine s_as rfl ?_
     refine swl_sub _ (sc0 4 rfl .nil) ?_
     refine swl_nn ?_
     refine swp_ret ?_
     refine then_r ?_
     have hn : ¬ nums Ga = nums Gb := by simpa using h49
     exact done_ret [stH p Wa, ttA Wa, ccA Wa, rnH dv w ⟨q, .slice A1 T.length c1, .slice A2 C.length c2, T, C, dead⟩, ro μ2] (.tmp rfl .nil) ⟨μ2, l1.trans l2, (sameW_no fun k => hn (by rw [hna, hnb, k.1])).symm, rfl⟩ sp0
    ·skip
     refine swp_skip ?_
     refine then_n ?_
     refine swp_seq ?_
     refine swp_sr ?_
     refine s_as rfl ?_
     refine swl_sub _ (sc0 0 rfl (sc0 1 rfl (sc0 5 rfl .nil))) ?_
     refine swl_nn ?_
     refine swp_block ?_
     refine swp_loop (ι := Nat × PH) (fun x env L => Sub env [(0, pv p), (1, pv w), (5, .int .i64 ((x.1 : Int) - 1))] ∧ Ent L [stH p Wa, ttA Wa, ccA Wa, rnH dv w ⟨q, .slice A1 T.length c1, .slice A2 C.length c2, T, C, dead⟩, ro x.2] ∧ Le μ x.2 ∧ x.1 ≤ T.length + 2 ∧ ∀ j : Nat, j < x.1 → treeAt Wa.pl.1 ((j : Int) - 1) = treeAt (SW.pl ⟨q, .slice A1 T.length c1, .slice A2 C.length c2, T, C, dead⟩).1 ((j : Int) - 1)) (fun x => T.length + 2 - x.1) (0, μ2) ⟨⟨rfl, rfl, rfl, trivial⟩, Split.ent' sp0, l1.trans l2, Nat.zero_le _, fun j hj => by omega⟩ ?_
     clear hGa hGb hna hnb l1 l2
     rintro ⟨k, μk⟩ env L ⟨hsub, hE, hle, hk, hlo⟩
     dsimp only at hsub hE hle hk hlo
     refine swp_sub _ hsub ?_
     refine swp_ent hE ?_
     clear hsub hE env L
     dsimp only
     refine swp_seq ?_
     refine swp_sr ?_
     refine s_mv rfl ?_
     refine s_mv rfl ?_
     first | refine s_pu (pu_nilCheck rfl) ?_ | refine s_pu (pu_nilCheck_fn rfl) ?_ | refine s_pu (pu_nilCheck_if rfl) ?_
     first | refine s_pu (pu_fieldAddr0 rfl) ?_ | refine s_pu (pu_fieldAddr rfl) ?_
     refine s_rd (rd_load rfl rfl) ?_
     refine s_pu (pu_len rfl) ?_
     refine s_pu (pu_leq rfl rfl) ?_
     refine swl_sub _ (sc0 0 rfl (sc0 1 rfl (sc0 5 rfl (sc0 56 rfl .nil)))) ?_
     refine swl_nn ?_
     refine swp_cond (b := _) rfl (fun h56 => ?_) (fun h56 => ?_)
     ·skip
      have h56' : k < T.length + 2 := by have := of_decide_eq_true h56; omega
      refine swp_skip ?_
      refine then_n ?_
      refine swp_seq ?_
      refine swp_block ?_
      refine swp_sr ?_
      refine s_mv rfl ?_
      refine s_mv rfl ?_
      refine s_ef (ef_fn (tree_spec p Wa μk (hA.le hle) sA.1 ((k : Int) - 1)) rfl rfl sp0) ?_
      rintro v62 L1 ⟨A3, c3, rfl, rfl⟩
      refine swl_app ?_
      refine s_mv rfl ?_
      first | refine s_pu (pu_extractL rfl) ?_ | refine s_pu (pu_extract rfl rfl) ?_
      first | refine s_pu (pu_extractL rfl) ?_ | refine s_pu (pu_extract rfl rfl) ?_
      refine s_as rfl ?_
      refine s_as rfl ?_
      refine swl_sub _ (sc0 0 rfl (sc0 1 rfl (sc0 5 rfl (sc0 6 rfl (sc0 7 rfl .nil))))) ?_
      refine swl_nn ?_
      refine swp_sr ?_
      refine s_mv rfl ?_
      refine s_mv rfl ?_
      refine s_ef (ef_fn (rtreeN_spec dv w ⟨q, .slice A1 T.length c1, .slice A2 C.length c2, T, C, dead⟩ μk (hB0.le hle) ((k : Int) - 1)) rfl rfl sp0) ?_
      rintro v68 L1 ⟨v8, rfl, hrb, rfl⟩
      refine swl_app ?_
      refine s_mv rfl ?_
      first | refine s_pu (pu_extractL rfl) ?_ | refine s_pu (pu_extract rfl rfl) ?_
      first | refine s_pu (pu_extractL rfl) ?_ | refine s_pu (pu_extract rfl rfl) ?_
      refine s_as rfl ?_
      refine s_as rfl ?_
      refine swl_sub _ (sc0 0 rfl (sc0 1 rfl (sc0 5 rfl (sc0 6 rfl (sc0 7 rfl (sc0 8 rfl (sc0 9 rfl .nil))))))) ?_
      refine swl_nn ?_
      refine swp_seq ?_
      generalize hta : treeAt Wa.pl.1 ((k : Int) - 1) = ta at *
      generalize htb : treeAt (SW.pl ⟨q, .slice A1 T.length c1, .slice A2 C.length c2, T, C, dead⟩).1 ((k : Int) - 1) = tb at *
      refine swp_share_own (μ := μk) (v := .slice A3 ta.1.length c3) (e := 47) (n := 2) sp0 fun μ' hl' hra => ?_
      refine swp_region ?_
      refine s_mv rfl ?_
      refine s_mv rfl ?_
      refine s_pu (pu_neq rfl rfl) ?_
      refine s_mv rfl ?_
      refine s_split 74 rfl (fun h74 => ?_) (fun h74 => ?_)
      ·skip
       refine s_off rfl rfl rfl ?_
       refine s_off rfl rfl rfl ?_
       refine s_off rfl rfl rfl ?_
       refine s_off rfl rfl rfl ?_
       first | refine s_pu (pu_pick_t rfl rfl) ?_ | refine s_pu (pu_pick_f rfl rfl) ?_
       refine swl_sub _ (sc0 0 rfl (sc0 1 rfl (sc0 5 rfl (sc0 79 rfl .nil)))) ?_
       refine swl_nn ?_
       refine swp_cond (b := _) rfl (fun h79 => ?_) (fun h79 => by cases h79)
       refine swp_sr ?_
       refine s_as rfl ?_
       refine swl_sub _ (sc0 4 rfl .nil) ?_
       refine swl_nn ?_
       refine swp_ret ?_
       refine block_r ?_
       refine then_r ?_
       refine then_r ?_
       refine block_r ?_
       refine then_r ?_
       have hn : ¬ ta.2 = tb.2 := by simpa using h74
       exact done_ret [stH p Wa, ttA Wa, ccA Wa, rnH dv w ⟨q, .slice A1 T.length c1, .slice A2 C.length c2, T, C, dead⟩, ro μ'] (.tmp rfl .nil) ⟨μ', hle.trans hl', (sameW_no fun k => hn (by rw [← hta, ← htb, k.1])).symm, rfl⟩ sp0
      ·skip
       refine s_on rfl rfl ?_
       refine s_mv rfl ?_
       refine s_on rfl rfl ?_
       refine s_mv rfl ?_
       refine s_on rfl rfl ?_
       refine s_ef (ef_fn (same_spec μ' (.slice A3 ta.1.length c3) v8 ta.1 tb.1 hra (hrb.le hl')) rfl rfl sp0) ?_
       rintro v77 L1 ⟨rfl, rfl⟩
       refine swl_app ?_
       refine s_on rfl rfl ?_
       refine s_pu (pu_not rfl) ?_
       first | refine s_pu (pu_pick_t rfl rfl) ?_ | refine s_pu (pu_pick_f rfl rfl) ?_
       refine swl_sub _ (sc0 0 rfl (sc0 1 rfl (sc0 5 rfl (sc0 79 rfl .nil)))) ?_
       refine swl_nn ?_
       refine swp_cond (b := _) rfl (fun h79 => ?_) (fun h79 => ?_)
       ·skip
        refine swp_sr ?_
        refine s_as rfl ?_
        refine swl_sub _ (sc0 4 rfl .nil) ?_
        refine swl_nn ?_
        refine swp_ret ?_
        refine block_r ?_
        refine then_r ?_
        refine then_r ?_
        refine block_r ?_
        refine then_r ?_
        have hn : ¬ ta.1 = tb.1 := by simpa using h79
        exact done_ret [stH p Wa, ttA Wa, ccA Wa, rnH dv w ⟨q, .slice A1 T.length c1, .slice A2 C.length c2, T, C, dead⟩, ro μ'] (.tmp rfl .nil) ⟨μ', hle.trans hl', (sameW_no fun k => hn (by rw [← hta, ← htb, k.1])).symm, rfl⟩ sp0
       ·skip
        refine swp_skip ?_
        refine block_n ?_
        refine then_n ?_
        refine swp_region ?_
        refine s_mv rfl ?_
        refine s_pu (pu_add_as (((k + 1 : Nat) : Int) - 1) rfl rfl om0 om0 om0) ?_
        refine s_as rfl ?_
        refine swl_sub _ (sc0 0 rfl (sc0 1 rfl (sc0 5 rfl .nil))) ?_
        refine swl_nil ?_
        have q2 : ta.2 = tb.2 := by simpa using h74
        have q1 : ta.1 = tb.1 := by simpa using h79
        refine then_n ⟨(k + 1, μ'), ⟨⟨rfl, rfl, rfl, trivial⟩, Split.ent' sp0, hle.trans hl', h56', fun j hj => ?_⟩, by show T.length + 2 - (k + 1) < T.length + 2 - k; omega⟩
        by_cases e : j = k
        ·subst e; rw [hta, htb]; exact Prod.ext q1 q2
        ·exact hlo j om0
     ·skip
      have h56' := of_decide_eq_false h56
      obtain rfl : k = T.length + 2 := by omega
      have hpT : Wa.pl.1 = (SW.pl ⟨q, .slice A1 T.length c1, .slice A2 C.length c2, T, C, dead⟩).1 := trees_eq (by rw [h1a, h1b, hnT]) (fun j hj => hlo j (by rw [h1a] at hj; omega))
      clear hlo hk h56 h56'
      refine swp_exit ?_
      refine then_x ?_
      refine then_x ?_
      refine block_hit rfl ?_
      refine then_n ?_
      refine swp_seq ?_
      refine swp_sr ?_
      refine s_as rfl ?_
      refine swl_sub _ (sc0 0 rfl (sc0 1 rfl (sc0 10 rfl .nil))) ?_
      refine swl_nn ?_
      refine swp_block ?_
      refine swp_loop (ι := Nat × PH) (fun x env L => Sub env [(0, pv p), (1, pv w), (10, .int .i64 ((x.1 : Int) - 1))] ∧ Ent L [stH p Wa, ttA Wa, ccA Wa, rnH dv w ⟨q, .slice A1 T.length c1, .slice A2 C.length c2, T, C, dead⟩, ro x.2] ∧ Le μ x.2 ∧ x.1 ≤ C.length + 2 ∧ ∀ j : Nat, j < x.1 → comAt Wa.pl.2 ((j : Int) - 1) = comAt (SW.pl ⟨q, .slice A1 T.length c1, .slice A2 C.length c2, T, C, dead⟩).2 ((j : Int) - 1)) (fun x => C.length + 2 - x.1) (0, μk) ⟨⟨rfl, rfl, rfl, trivial⟩, Split.ent' sp0, hle, Nat.zero_le _, fun j hj => by omega⟩ ?_
      clear hle μk
      rintro ⟨k, μk⟩ env L ⟨hsub, hE, hle, hk, hlo⟩
      dsimp only at hsub hE hle hk hlo
      refine swp_sub _ hsub ?_
      refine swp_ent hE ?_
      clear hsub hE env L
      dsimp only
      refine swp_seq ?_
      refine swp_sr ?_
      refine s_mv rfl ?_
      refine s_mv rfl ?_
      first | refine s_pu (pu_nilCheck rfl) ?_ | refine s_pu (pu_nilCheck_fn rfl) ?_ | refine s_pu (pu_nilCheck_if rfl) ?_
      first | refine s_pu (pu_fieldAddr0 rfl) ?_ | refine s_pu (pu_fieldAddr rfl) ?_
      refine s_rd (rd_load rfl rfl) ?_
      refine s_pu (pu_len rfl) ?_
      refine s_pu (pu_leq rfl rfl) ?_
      refine swl_sub _ (sc0 0 rfl (sc0 1 rfl (sc0 10 rfl (sc0 86 rfl .nil)))) ?_
      refine swl_nn ?_
      refine swp_cond (b := _) rfl (fun h86 => ?_) (fun h86 => ?_)
      ·skip
       have h86' : k < C.length + 2 := by have := of_decide_eq_true h86; omega
       refine swp_skip ?_
       refine then_n ?_
       refine swp_seq ?_
       refine swp_block ?_
       refine swp_sr ?_
       refine s_mv rfl ?_
       refine s_mv rfl ?_
       refine s_ef (ef_fn (commit_spec p Wa μk (hA.le hle) sA.2 ((k : Int) - 1)) rfl rfl sp0) ?_
       rintro v92 L1 ⟨A3, c3, rfl, rfl⟩
       refine swl_app ?_
       refine s_mv rfl ?_
       first | refine s_pu (pu_extractL rfl) ?_ | refine s_pu (pu_extract rfl rfl) ?_
       first | refine s_pu (pu_extractL rfl) ?_ | refine s_pu (pu_extract rfl rfl) ?_
       refine s_ef (ef_alloc) ?_
       intro b11
       refine s_ef0 (ef_storeA rfl rfl rfl rfl) ?_
       refine s_as rfl ?_
       refine swl_sub _ (sc0 0 rfl (sc0 1 rfl (sc0 10 rfl (sc0 11 rfl (sc0 12 rfl .nil))))) ?_
       refine swl_nn ?_
       refine swp_sr ?_
       refine s_mv rfl ?_
       refine s_mv rfl ?_
       refine s_ef (ef_fn (rcommitN_spec dv w ⟨q, .slice A1 T.length c1, .slice A2 C.length c2, T, C, dead⟩ μk (hB0.le hle) ((k : Int) - 1)) rfl rfl sp0) ?_
       rintro v98 L1 ⟨v8, rfl, hrb, rfl⟩
       obtain ⟨A4, c4, rfl⟩ := hrb.sl
       refine swl_app ?_
       refine s_mv rfl ?_
       first | refine s_pu (pu_extractL rfl) ?_ | refine s_pu (pu_extract rfl rfl) ?_
       first | refine s_pu (pu_extractL rfl) ?_ | refine s_pu (pu_extract rfl rfl) ?_
       refine s_ef (ef_alloc) ?_
       intro b13
       refine s_ef0 (ef_storeA rfl rfl rfl rfl) ?_
       refine s_as rfl ?_
       refine swl_sub _ (sc0 0 rfl (sc0 1 rfl (sc0 10 rfl (sc0 11 rfl (sc0 12 rfl (sc0 13 rfl (sc0 14 rfl .nil))))))) ?_
       refine swl_nn ?_
       refine swp_seq ?_
       generalize hta : comAt Wa.pl.2 ((k : Int) - 1) = ta at *
       generalize htb : comAt (SW.pl ⟨q, .slice A1 T.length c1, .slice A2 C.length c2, T, C, dead⟩).2 ((k : Int) - 1) = tb at *
       refine swp_share_own (μ := μk) (v := .slice A3 ta.1.1.length c3) (e := 3) (n := 1) sp0 fun μ' hl' hra => ?_
       refine swp_region ?_
       refine s_mv rfl ?_
       refine s_mv rfl ?_
       refine s_pu (pu_neq rfl rfl) ?_
       refine s_mv rfl ?_
       refine s_split 104 rfl (fun h104 => ?_) (fun h104 => ?_)
       ·skip
        refine s_off rfl rfl rfl ?_
        refine s_off rfl rfl rfl ?_
        refine s_off rfl rfl rfl ?_
        refine s_off rfl rfl rfl ?_
        first | refine s_pu (pu_pick_t rfl rfl) ?_ | refine s_pu (pu_pick_f rfl rfl) ?_
        refine swl_sub _ (sc0 0 rfl (sc0 1 rfl (sc0 10 rfl (sc0 109 rfl .nil)))) ?_
        refine swl_nn ?_
        refine swp_cond (b := _) rfl (fun h109 => ?_) (fun h109 => by cases h109)
        refine swp_sr ?_
        refine s_as rfl ?_
        refine swl_sub _ (sc0 4 rfl .nil) ?_
        refine swl_nn ?_
        refine swp_ret ?_
        refine block_r ?_
        refine then_r ?_
        refine then_r ?_
        refine block_r ?_
        refine then_r ?_
        have hn : ¬ ta.2 = tb.2 := by simpa using h104
        exact done_ret [stH p Wa, ttA Wa, ccA Wa, rnH dv w ⟨q, .slice A1 T.length c1, .slice A2 C.length c2, T, C, dead⟩, ro μ'] (.tmp rfl .nil) ⟨μ', hle.trans hl', (sameW_no fun k => hn (by rw [← hta, ← htb, k.1])).symm, rfl⟩ sp0
       ·skip
        refine s_on rfl rfl ?_
        first | refine s_rd (rd_loadW rfl rfl) ?_ | refine s_rd (rd_loadX rfl rfl rfl) ?_
        refine s_on rfl rfl ?_
        first | refine s_rd (rd_loadW rfl rfl) ?_ | refine s_rd (rd_loadX rfl rfl rfl) ?_
        refine s_on rfl rfl ?_
        refine s_ef (ef_fn (samec_spec μ' (.slice A3 ta.1.1.length c3) (.slice A4 tb.1.1.length c4) ta.1 tb.1 hra (hrb.le hl')) rfl rfl sp0) ?_
        rintro v107 L1 ⟨rfl, rfl⟩
        refine swl_app ?_
        refine s_on rfl rfl ?_
        refine s_pu (pu_not rfl) ?_
        first | refine s_pu (pu_pick_t rfl rfl) ?_ | refine s_pu (pu_pick_f rfl rfl) ?_
        refine swl_sub _ (sc0 0 rfl (sc0 1 rfl (sc0 10 rfl (sc0 109 rfl .nil)))) ?_
        refine swl_nn ?_
        refine swp_cond (b := _) rfl (fun h109 => ?_) (fun h109 => ?_)
        ·skip
         refine swp_sr ?_
         refine s_as rfl ?_
         refine swl_sub _ (sc0 4 rfl .nil) ?_
         refine swl_nn ?_
         refine swp_ret ?_
         refine block_r ?_
         refine then_r ?_
         refine then_r ?_
         refine block_r ?_
         refine then_r ?_
         have hn : ¬ ta.1 = tb.1 := by simpa using h109
         exact done_ret [stH p Wa, ttA Wa, ccA Wa, rnH dv w ⟨q, .slice A1 T.length c1, .slice A2 C.length c2, T, C, dead⟩, ro μ'] (.tmp rfl .nil) ⟨μ', hle.trans hl', (sameW_no fun k => hn (by rw [← hta, ← htb, k.1])).symm, rfl⟩ sp0
        ·skip
         refine swp_skip ?_
         refine block_n ?_
         refine then_n ?_
         refine swp_region ?_
         refine s_mv rfl ?_
         refine s_pu (pu_add_as (((k + 1 : Nat) : Int) - 1) rfl rfl om0 om0 om0) ?_
         refine s_as rfl ?_
         refine swl_sub _ (sc0 0 rfl (sc0 1 rfl (sc0 10 rfl .nil))) ?_
         refine swl_nil ?_
         have q2 : ta.2 = tb.2 := by simpa using h104
         have q1 : ta.1 = tb.1 := by simpa using h109
         refine then_n ⟨(k + 1, μ'), ⟨⟨rfl, rfl, rfl, trivial⟩, Split.ent' sp0, hle.trans hl', h86', fun j hj => ?_⟩, by show C.length + 2 - (k + 1) < C.length + 2 - k; omega⟩
         by_cases e : j = k
         ·subst e; rw [hta, htb]; exact Prod.ext q1 q2
         ·exact hlo j om0
      ·skip
       have h86' := of_decide_eq_false h86
       obtain rfl : k = C.length + 2 := by omega
       have hpC : Wa.pl.2 = (SW.pl ⟨q, .slice A1 T.length c1, .slice A2 C.length c2, T, C, dead⟩).2 := coms_eq (by rw [h2a, h2b, hnC]) (fun j hj => hlo j (by rw [h2a] at hj; omega))
       refine swp_exit ?_
       refine then_x ?_
       refine then_x ?_
       refine block_hit rfl ?_
       refine then_n ?_
       refine swp_sr ?_
       refine s_as rfl ?_
       refine swl_sub _ (sc0 4 rfl .nil) ?_
       refine swl_nn ?_
       refine swp_ret ?_
       have hy : sameW Wa ⟨q, .slice A1 T.length c1, .slice A2 C.length c2, T, C, dead⟩ = true := by unfold sameW; exact decide_eq_true ⟨Prod.ext hpT hpC, hnd⟩
       exact done_ret [stH p Wa, ttA Wa, ccA Wa, rnH dv w ⟨q, .slice A1 T.length c1, .slice A2 C.length c2, T, C, dead⟩, ro μk] (.tmp rfl .nil) ⟨μk, hle, congrArg Value.bool hy.symm, rfl⟩ sp0
end SX
