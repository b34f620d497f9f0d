/- A part of the proof: walks of the program's functions, and the rules by which they go. -/
import Derived.Test.YtllgakmdhjgmoaaGreatB6708c965
import Derived.Test.YtllgakmdhjgmoaaGreatB44548fbd
import Derived.Test.YtllgakmdhjgmoaaGreatB2ca5cded
namespace SX
open Go Go.Proofs
/-- a store and its disk -/
structure PSt where
  d : Dk
  s : St2
  dead : Bool
def addR (x : PSt) (e0 : Int) (n : Nat) (f : Fm) (s' : St2) : PSt × Int × Int :=
  if x.dead = true then (x, 0, 8) else if e0 ≠ 0 then (x, 0, e0) else if 65536 ≤ n then (x, 0, 7) else
  if (writeD x.d f).2 ≠ 0 then (⟨(writeD x.d f).1, x.s, decide ((writeD x.d f).2 = 8)⟩, 0, (writeD x.d f).2) else (⟨(writeD x.d f).1, s', false⟩, (n : Nat), 0)
def addT (x : PSt) (t : List En) : PSt × Int × Int := addR x (encErr t) x.s.1.length (1, encT t) (x.s.1 ++ [t], x.s.2)
def addC (x : PSt) (c : Cm) : PSt × Int × Int := addR x (if checkC c ≠ 0 then checkC c else if knownS x.s.1.length x.s.2.length c = false then 9 else 0) x.s.2.length (2, encC' c) (x.s.1, x.s.2 ++ [c])
section
variable {x : PSt} {e0 : Int} {n : Nat} {f : Fm} {s' : St2}
theorem addR_dead (h : x.dead = true) : addR x e0 n f s' = (x, 0, 8) := by unfold addR; rw [if_pos h]
theorem addR_err (h : x.dead = false) (h2 : e0 ≠ 0) : addR x e0 n f s' = (x, 0, e0) := by unfold addR; rw [if_neg (by rw [h]; decide), if_pos h2]
theorem addR_full (h : x.dead = false) (h2 : e0 = 0) (h3 : 65536 ≤ n) : addR x e0 n f s' = (x, 0, 7) := by unfold addR; rw [if_neg (by rw [h]; decide), if_neg (not_not_intro h2), if_pos h3]
theorem addR_wr (h : x.dead = false) (h2 : e0 = 0) (h3 : n < 65536) (h4 : (writeD x.d f).2 ≠ 0) : addR x e0 n f s' = ((⟨(writeD x.d f).1, x.s, decide ((writeD x.d f).2 = 8)⟩ : PSt), (0 : Int), (writeD x.d f).2) := by unfold addR; rw [if_neg (by rw [h]; decide), if_neg (not_not_intro h2), if_neg om0, if_pos h4]
theorem addR_ok (h : x.dead = false) (h2 : e0 = 0) (h3 : n < 65536) (h4 : (writeD x.d f).2 = 0) : addR x e0 n f s' = ((⟨(writeD x.d f).1, s', false⟩ : PSt), ((n : Nat) : Int), (0 : Int)) := by unfold addR; rw [if_neg (by rw [h]; decide), if_neg (not_not_intro h2), if_neg om0, if_neg (not_not_intro h4)]
end
/-- what a call that adds leaves -/
def AddQ (μ : PH) (W : SW) (y : PSt × Int × Int) (r : Value) (W' : SW) (μ' : PH) : Prop := Le μ μ' ∧ W'.Ok μ' ∧ W'.q = W.q ∧ W'.pl = y.1.s ∧ W'.dead = y.1.dead ∧ r = .tuple #[.int .i64 y.2.1, .int .i64 y.2.2]
theorem encErr_ok {t : List En} (h : encErr t = 0) : t.length ≤ 1024 ∧ checkE t = 0 := by
  unfold encErr at h
  split at h
  · cases h
  · exact ⟨by omega, h⟩
theorem encT_len {t : List En} (h : encErr t = 0) : (encT t).length ≤ 1048567 := by
  obtain ⟨h1, h2⟩ := encErr_ok h
  have := encEs_len [] t fun e he => (check_paths h2 e he).1
  unfold encT
  rw [List.length_append, numB_len]
  omega
theorem encC_len {c : Cm} (h : checkC c = 0) : (encC' c).length ≤ 1048567 := by
  obtain ⟨h1, _⟩ := checkC_ok h
  unfold encC'
  simp only [List.length_append, numB_len, encPs_len]
  omega
theorem SW.Ok.dead {μ : PH} {W : SW} (h : W.Ok μ) (b : Bool) : SW.Ok μ { W with dead := b } := ⟨h.tf, h.cf, h.tr, h.cr, h.tl, h.cl⟩
set_option maxHeartbeats 4000000 in
theorem addtree_spec (μ : PH) (p : Nat) (W : SW) (hW : W.Ok μ) (d : Dk) (hd : d.Ok) (v : Value) (t : List En) (hv : Row μ v 2 t.length (ens t)) (hu : U32s t) : Spec Tryz.prog 12 [pv p, v] [FSA W.q d, stH p W, ttA W, ccA W, ro μ]
  (fun r L => ∃ W' μ', AddQ μ W (addT ⟨d, W.pl, W.dead⟩ t) r W' μ' ∧ L = [FSA W'.q (addT ⟨d, W.pl, W.dead⟩ t).1.d, stH p W', ttA W', ccA W', ro μ']) := by
 have hW0 := hW
 obtain ⟨⟨A1, c1, e1⟩, ⟨A2, c2, e2⟩, _, _, hT, hC⟩ := hW
 obtain ⟨q, tv, cv, T, C, dead⟩ := W
 dsimp only at e1 e2 hT hC
 subst e1 e2
 have hlen : (SW.pl ⟨q, .slice A1 T.length c1, .slice A2 C.length c2, T, C, dead⟩).1.length = T.length := List.length_map _
 generalize hy : addT ⟨d, SW.pl ⟨q, .slice A1 T.length c1, .slice A2 C.length c2, T, C, dead⟩, dead⟩ t = y
 refine Spec.of 54 Tryz.func12 rfl rfl rfl ?_
 refine swp_sr ?_
 refine s_as rfl ?_
 refine s_as rfl ?_
 refine swl_sub _ (sc0 0 rfl (sc0 1 rfl .nil)) ?_
 refine swl_nn ?_
 refine swp_seq ?_
 refine swp_sr ?_
 refine s_mv rfl ?_
 refine s_ef (ef_fn (live_spec p ⟨q, .slice A1 T.length c1, .slice A2 C.length c2, T, C, dead⟩) rfl rfl sp0) ?_
 rintro v10 L1 ⟨rfl, rfl⟩
 refine swl_app ?_
 refine s_as rfl ?_
 refine swl_sub _ (sc0 0 rfl (sc0 1 rfl (sc0 6 rfl .nil))) ?_
 refine swl_nn ?_
 refine swp_sr ?_
 refine s_mv rfl ?_
 refine s_pu (pu_neq rfl rfl) ?_
 refine swl_sub _ (sc0 0 rfl (sc0 1 rfl (sc0 6 rfl (sc0 12 rfl .nil)))) ?_
 refine swl_nn ?_
 refine swp_cond (b := _) rfl (fun h12 => ?_) (fun h12 => ?_)
 ·skip
  refine swp_sr ?_
  refine s_mv rfl ?_
  refine s_as rfl ?_
  refine s_as rfl ?_
  refine swl_sub _ (sc0 4 rfl (sc0 5 rfl .nil)) ?_
  refine swl_nn ?_
  refine swp_ret ?_
  refine then_r ?_
  have hdd : dead = true := by
   cases dead with
   | true => rfl
   | false => simp at h12
  have ha : (⟨d, SW.pl ⟨q, .slice A1 T.length c1, .slice A2 C.length c2, T, C, dead⟩, dead⟩, 0, 8) = y := by rw [← hy]; exact (addR_dead (x := ⟨d, SW.pl ⟨q, .slice A1 T.length c1, .slice A2 C.length c2, T, C, dead⟩, dead⟩) hdd).symm
  subst ha
  exact done_ret [FSA q d, stH p ⟨q, .slice A1 T.length c1, .slice A2 C.length c2, T, C, dead⟩, ttA ⟨q, .slice A1 T.length c1, .slice A2 C.length c2, T, C, dead⟩, ccA ⟨q, .slice A1 T.length c1, .slice A2 C.length c2, T, C, dead⟩, ro μ] (.tmp rfl (.tmp rfl .nil)) ⟨⟨q, .slice A1 T.length c1, .slice A2 C.length c2, T, C, dead⟩, μ, ⟨Le.refl _, hW0, rfl, rfl, rfl, by rw [if_pos hdd]; rfl⟩, rfl⟩ sp0
 ·skip
  have hdd : dead = false := by
   cases dead with
   | true => simp at h12
   | false => rfl
  refine swp_skip ?_
  refine then_n ?_
  refine swp_sr ?_
  refine s_mv rfl ?_
  refine s_ef (ef_fn (tenc_spec μ v t hv hu) rfl rfl sp0) ?_
  rintro v16 L1 ⟨rfl, rfl⟩
  refine swl_app ?_
  refine s_mv rfl ?_
  refine s_pu (pu_extractL rfl) ?_
  refine s_pu (pu_extractL rfl) ?_
  refine s_as rfl ?_
  refine s_as rfl ?_
  refine swl_sub _ (sc0 0 rfl (sc0 1 rfl (sc0 7 rfl (sc0 8 rfl .nil)))) ?_
  refine swl_nn ?_
  refine swp_seq ?_
  refine swp_sr ?_
  refine s_mv rfl ?_
  refine s_pu (pu_eql rfl rfl) ?_
  refine s_mv rfl ?_
  refine s_split 21 rfl (fun h21 => ?_) (fun h21 => ?_)
  ·skip
   have h21' : encErr t = 0 := of_decide_eq_true h21
   obtain ⟨hl1, hl2⟩ := encErr_ok h21'
   have hev : encV t = encT t := by unfold encV; rw [if_pos h21']
   refine s_on rfl rfl ?_
   refine s_mv rfl ?_
   refine s_on rfl rfl ?_
   refine s_pu (pu_nilCheck rfl) ?_
   refine s_on rfl rfl ?_
   refine s_pu (pu_fieldAddr0 rfl) ?_
   refine s_on rfl rfl ?_
   refine s_rd (rd_load rfl rfl) ?_
   refine s_on rfl rfl ?_
   refine s_pu (pu_len rfl) ?_
   refine s_on rfl rfl ?_
   refine s_pu (pu_geq rfl rfl) ?_
   refine s_pu (pu_pick_t rfl rfl) ?_
   refine swl_sub _ (sc0 0 rfl (sc0 1 rfl (sc0 7 rfl (sc0 8 rfl (sc0 28 rfl .nil))))) ?_
   refine swl_nn ?_
   refine swp_cond (b := _) rfl (fun h28 => ?_) (fun h28 => ?_)
   ·skip
    have h28' : 65536 ≤ T.length := by have := of_decide_eq_true h28; omega
    refine swp_region ?_
    refine s_as rfl ?_
    refine swl_sub _ (sc0 0 rfl (sc0 1 rfl (sc0 7 rfl (sc0 8 rfl .nil)))) ?_
    refine swl_nn ?_
    refine swp_seq ?_
    refine swp_sr ?_
    refine s_mv rfl ?_
    refine s_pu (pu_eql rfl rfl) ?_
    refine swl_sub _ (sc0 0 rfl (sc0 1 rfl (sc0 7 rfl (sc0 8 rfl (sc0 30 rfl .nil))))) ?_
    refine swl_nn ?_
    refine swp_cond (b := _) rfl (fun h30 => by cases h30) (fun h30 => ?_)
    refine swp_skip ?_
    refine then_n ?_
    refine swp_seq ?_
    refine swp_sr ?_
    refine s_mv rfl ?_
    refine s_pu (pu_neq rfl rfl) ?_
    refine swl_sub _ (sc0 0 rfl (sc0 1 rfl (sc0 8 rfl (sc0 35 rfl .nil)))) ?_
    refine swl_nn ?_
    refine swp_cond (b := _) rfl (fun h35 => ?_) (fun h35 => by cases h35)
    refine swp_sr ?_
    refine s_mv rfl ?_
    refine s_as rfl ?_
    refine s_as rfl ?_
    refine swl_sub _ (sc0 4 rfl (sc0 5 rfl .nil)) ?_
    refine swl_nn ?_
    refine swp_ret ?_
    refine then_r ?_
    have ha : (⟨d, SW.pl ⟨q, .slice A1 T.length c1, .slice A2 C.length c2, T, C, dead⟩, dead⟩, 0, 7) = y := by rw [← hy]; exact (addR_full (x := ⟨d, SW.pl ⟨q, .slice A1 T.length c1, .slice A2 C.length c2, T, C, dead⟩, dead⟩) hdd h21' (by first | (show (SW.pl ⟨q, .slice A1 T.length c1, .slice A2 C.length c2, T, C, dead⟩).1.length < 65536; rw [hlen]; exact h28') | (show 65536 ≤ (SW.pl ⟨q, .slice A1 T.length c1, .slice A2 C.length c2, T, C, dead⟩).1.length; rw [hlen]; exact h28'))).symm
    subst ha
    exact done_ret [FSA q d, stH p ⟨q, .slice A1 T.length c1, .slice A2 C.length c2, T, C, dead⟩, ttA ⟨q, .slice A1 T.length c1, .slice A2 C.length c2, T, C, dead⟩, ccA ⟨q, .slice A1 T.length c1, .slice A2 C.length c2, T, C, dead⟩, ro μ] (.tmp rfl (.tmp rfl .nil)) ⟨⟨q, .slice A1 T.length c1, .slice A2 C.length c2, T, C, dead⟩, μ, ⟨Le.refl _, hW0, rfl, rfl, rfl, rfl⟩, rfl⟩ sp0
   ·skip
    have h28' : T.length < 65536 := by have := of_decide_eq_false h28; omega
    refine swp_skip ?_
    refine then_n ?_
    refine swp_seq ?_
    refine swp_sr ?_
    refine s_mv rfl ?_
    refine s_pu (pu_eql rfl rfl) ?_
    refine swl_sub _ (sc0 0 rfl (sc0 1 rfl (sc0 7 rfl (sc0 8 rfl (sc0 30 rfl .nil))))) ?_
    refine swl_nn ?_
    refine swp_cond (b := _) rfl (fun h30 => ?_) (fun h30 => by rw [h21'] at h30; cases h30)
    refine swp_region ?_
    refine s_mv rfl ?_
    refine s_mv rfl ?_
    refine s_ef (ef_fn (write_spec p ⟨q, .slice A1 T.length c1, .slice A2 C.length c2, T, C, dead⟩ d hd (1, encV t) (by show 0 < 1; decide) (by show 1 < 256; decide) (by rw [hev]; exact encT_len h21')) rfl rfl sp0) ?_
    rintro v33 L1 ⟨rfl, rfl⟩
    rw [hev]
    refine swl_app ?_
    dsimp only
    refine s_as rfl ?_
    refine swl_sub _ (sc0 0 rfl (sc0 1 rfl (sc0 8 rfl .nil))) ?_
    refine swl_nn ?_
    refine swp_seq ?_
    refine swp_sr ?_
    refine s_mv rfl ?_
    refine s_pu (pu_neq rfl rfl) ?_
    refine swl_sub _ (sc0 0 rfl (sc0 1 rfl (sc0 8 rfl (sc0 35 rfl .nil)))) ?_
    refine swl_nn ?_
    refine swp_cond (b := _) rfl (fun h35 => ?_) (fun h35 => ?_)
    ·skip
     refine swp_sr ?_
     refine s_mv rfl ?_
     refine s_as rfl ?_
     refine s_as rfl ?_
     refine swl_sub _ (sc0 4 rfl (sc0 5 rfl .nil)) ?_
     refine swl_nn ?_
     refine swp_ret ?_
     refine then_r ?_
     have h35' : (writeD d (1, encT t)).2 ≠ 0 := by simpa using h35
     have ha : (⟨(writeD d (1, encT t)).1, SW.pl ⟨q, .slice A1 T.length c1, .slice A2 C.length c2, T, C, dead⟩, decide ((writeD d (1, encT t)).2 = 8)⟩, 0, (writeD d (1, encT t)).2) = y := by rw [← hy]; exact (addR_wr (x := ⟨d, SW.pl ⟨q, .slice A1 T.length c1, .slice A2 C.length c2, T, C, dead⟩, dead⟩) hdd h21' (by first | (show (SW.pl ⟨q, .slice A1 T.length c1, .slice A2 C.length c2, T, C, dead⟩).1.length < 65536; rw [hlen]; exact h28') | (show 65536 ≤ (SW.pl ⟨q, .slice A1 T.length c1, .slice A2 C.length c2, T, C, dead⟩).1.length; rw [hlen]; exact h28')) h35').symm
     subst ha
     exact done_ret [FSA q (writeD d (1, encT t)).1, stH p ⟨q, .slice A1 T.length c1, .slice A2 C.length c2, T, C, decide ((writeD d (1, encT t)).2 = 8)⟩, ttA ⟨q, .slice A1 T.length c1, .slice A2 C.length c2, T, C, dead⟩, ccA ⟨q, .slice A1 T.length c1, .slice A2 C.length c2, T, C, dead⟩, ro μ] (.tmp rfl (.tmp rfl .nil)) ⟨⟨q, .slice A1 T.length c1, .slice A2 C.length c2, T, C, decide ((writeD d (1, encT t)).2 = 8)⟩, μ, ⟨Le.refl _, SW.Ok.dead hW0 _, rfl, rfl, rfl, rfl⟩, rfl⟩ sp0
    ·skip
     have h35' : (writeD d (1, encT t)).2 = 0 := by simpa using h35
     have ha : (⟨(writeD d (1, encT t)).1, ((SW.pl ⟨q, .slice A1 T.length c1, .slice A2 C.length c2, T, C, dead⟩).1 ++ [t], (SW.pl ⟨q, .slice A1 T.length c1, .slice A2 C.length c2, T, C, dead⟩).2), false⟩, ((SW.pl ⟨q, .slice A1 T.length c1, .slice A2 C.length c2, T, C, dead⟩).1.length : Int), 0) = y := by rw [← hy]; exact (addR_ok (x := ⟨d, SW.pl ⟨q, .slice A1 T.length c1, .slice A2 C.length c2, T, C, dead⟩, dead⟩) hdd h21' (by first | (show (SW.pl ⟨q, .slice A1 T.length c1, .slice A2 C.length c2, T, C, dead⟩).1.length < 65536; rw [hlen]; exact h28') | (show 65536 ≤ (SW.pl ⟨q, .slice A1 T.length c1, .slice A2 C.length c2, T, C, dead⟩).1.length; rw [hlen]; exact h28')) h35').symm
     have hd8 : decide ((writeD d (1, encT t)).2 = 8) = false := by rw [h35']; rfl
     rw [hd8]
     subst ha
     refine swp_skip ?_
     refine then_n ?_
     refine swp_seq ?_
     refine swp_draw [4] ([stH p ⟨q, .slice A1 T.length c1, .slice A2 C.length c2, T, C, false⟩]) ([FSA q (writeD d (1, encT t)).1, ro μ, ttA ⟨q, .slice A1 T.length c1, .slice A2 C.length c2, T, C, dead⟩, ccA ⟨q, .slice A1 T.length c1, .slice A2 C.length c2, T, C, dead⟩]) (Split.ent sp0) kr0 ?_
     refine d_pu 0 rfl (pu_move rfl) kr0 kr0 kr0 ?_
     refine d_pu 1 rfl (pu_move rfl) kr0 kr0 kr0 ?_
     refine d_pu 2 rfl (pu_nilCheck rfl) kr0 kr0 kr0 ?_
     refine d_pu 3 rfl (pu_fieldAddr0 rfl) kr0 kr0 kr0 ?_
     refine d_rd 4 rfl (rd_load rfl rfl) rfl kr0 kr0 kr0 ?_
     refine d_pu 5 rfl (pu_move rfl) kr0 kr0 kr0 ?_
     refine d_eft 6 rfl kr0 (ef_fn (cloneT_spec μ v t hv om0) rfl rfl sp0) ?_
     rintro v43 L1 ⟨A3, c3, rfl, rfl⟩
     refine ⟨_, ent_appC (Split.ent sp0), ?_⟩
     refine d_eft 7 rfl kr0 (ef_bldS (qs := [(0, _)]) rfl rfl rfl) ?_
     intro b44
     refine ⟨_, Split.ent sp0, ?_⟩
     refine d_fint 8 rfl kr0 kr0 (ef_append_lit (l := T.length) (m := 1) rfl rfl sp0 (by simp only [maxLen]; omega) om0) ?_
     rintro v45 -
     refine swd_factf (fun m h => own_form h) fun ⟨A45, c45, hv45⟩ => ?_
     subst hv45
     refine d_pu 9 rfl (pu_nilCheck rfl) kr0 kr0 kr0 ?_
     refine d_pu 10 rfl (pu_fieldAddr0 rfl) kr0 kr0 kr0 ?_
     refine d_fin0f 11 rfl kr0 kr0 (ef_store rfl rfl rfl) ?_
     refine d_sub _ (sc0 0 rfl .nil) ?_
     refine d_nilf kr0 ?_
     refine then_n ?_
     refine swp_seq ?_
     refine swp_share_own (μ := μ) (v := .slice A3 t.length c3) (e := 47) (n := 2) sp0 fun μ' hle hrow => ?_
     refine swp_region ?_
     refine s_mv rfl ?_
     refine s_pu (pu_nilCheck rfl) ?_
     refine s_pu (pu_fieldAddr0 rfl) ?_
     refine s_rd (rd_load rfl rfl) ?_
     refine s_pu (pu_len rfl) ?_
     refine s_pu (pu_sub_as ((T.length : Nat) : Int) rfl rfl om0 om0 om0) ?_
     refine s_as rfl ?_
     refine s_as rfl ?_
     refine swl_sub _ (sc0 4 rfl (sc0 5 rfl .nil)) ?_
     refine swl_nn ?_
     refine swp_ret ?_
     refine done_ret [FSA q (writeD d (1, encT t)).1, stH p ⟨q, .slice A45 (T.length + 1) c45, .slice A2 C.length c2, T ++ [(.slice A3 t.length c3, t)], C, false⟩, own 22 1 (.slice A45 (T.length + 1) c45) (T.length + 1) (T.flatMap tcs ++ [.slice A3 t.length c3]), ccA ⟨q, .slice A1 T.length c1, .slice A2 C.length c2, T, C, dead⟩, ro μ'] (.tmp rfl (.tmp rfl .nil)) ⟨⟨q, .slice A45 (T.length + 1) c45, .slice A2 C.length c2, T ++ [(.slice A3 t.length c3, t)], C, false⟩, μ', ⟨hle, SW.Ok.dead (Ok.addT hW0 hle hrow h28') false, rfl, ?_, rfl, ?_⟩, ?_⟩ sp0
     ·unfold SW.pl; rw [List.map_append]; rfl
     ·rw [hlen]; rfl
     ·simp only [ttA, List.length_append, List.length_singleton, List.flatMap_append]; rfl
  ·skip
   have h21' : encErr t ≠ 0 := of_decide_eq_false h21
   refine s_off rfl rfl rfl ?_
   refine s_off rfl rfl rfl ?_
   refine s_off rfl rfl rfl ?_
   refine s_off rfl rfl rfl ?_
   refine s_off rfl rfl rfl ?_
   refine s_off rfl rfl rfl ?_
   refine s_pu (pu_pick_f rfl rfl) ?_
   refine swl_sub _ (sc0 0 rfl (sc0 1 rfl (sc0 7 rfl (sc0 8 rfl (sc0 28 rfl .nil))))) ?_
   refine swl_nn ?_
   refine swp_cond (b := _) rfl (fun h28 => by cases h28) (fun h28 => ?_)
   refine swp_skip ?_
   refine then_n ?_
   refine swp_seq ?_
   refine swp_sr ?_
   refine s_mv rfl ?_
   refine s_pu (pu_eql rfl rfl) ?_
   refine swl_sub _ (sc0 0 rfl (sc0 1 rfl (sc0 7 rfl (sc0 8 rfl (sc0 30 rfl .nil))))) ?_
   refine swl_nn ?_
   refine swp_cond (b := _) rfl (fun h30 => by exact absurd (of_decide_eq_true h30) h21') (fun h30 => ?_)
   refine swp_skip ?_
   refine then_n ?_
   refine swp_seq ?_
   refine swp_sr ?_
   refine s_mv rfl ?_
   refine s_pu (pu_neq rfl rfl) ?_
   refine swl_sub _ (sc0 0 rfl (sc0 1 rfl (sc0 8 rfl (sc0 35 rfl .nil)))) ?_
   refine swl_nn ?_
   refine swp_cond (b := _) rfl (fun h35 => ?_) (fun h35 => by rw [decide_eq_false h21'] at h35; cases h35)
   refine swp_sr ?_
   refine s_mv rfl ?_
   refine s_as rfl ?_
   refine s_as rfl ?_
   refine swl_sub _ (sc0 4 rfl (sc0 5 rfl .nil)) ?_
   refine swl_nn ?_
   refine swp_ret ?_
   refine then_r ?_
   have ha : (⟨d, SW.pl ⟨q, .slice A1 T.length c1, .slice A2 C.length c2, T, C, dead⟩, dead⟩, 0, encErr t) = y := by rw [← hy]; exact (addR_err (x := ⟨d, SW.pl ⟨q, .slice A1 T.length c1, .slice A2 C.length c2, T, C, dead⟩, dead⟩) hdd h21').symm
   subst ha
   exact done_ret [FSA q d, stH p ⟨q, .slice A1 T.length c1, .slice A2 C.length c2, T, C, dead⟩, ttA ⟨q, .slice A1 T.length c1, .slice A2 C.length c2, T, C, dead⟩, ccA ⟨q, .slice A1 T.length c1, .slice A2 C.length c2, T, C, dead⟩, ro μ] (.tmp rfl (.tmp rfl .nil)) ⟨⟨q, .slice A1 T.length c1, .slice A2 C.length c2, T, C, dead⟩, μ, ⟨Le.refl _, hW0, rfl, rfl, rfl, rfl⟩, rfl⟩ sp0
end SX
namespace SX
open Go Go.Proofs
theorem comV_ok {c : Cm} (h : checkC c = 0) : comV c = encC' c := by unfold comV; rw [if_pos h]
set_option maxHeartbeats 4000000 in
theorem addcommit_spec (μ : PH) (p : Nat) (W : SW) (hW : W.Ok μ) (d : Dk) (hd : d.Ok) (v : Value) (c : Cm) (hv : Row μ v 1 c.1.length (c.1.flatMap (icsk .i64))) : Spec Tryz.prog 13 [pv p, cmV v c.2] [FSA W.q d, stH p W, ttA W, ccA W, ro μ]
  (fun r L => ∃ W' μ', AddQ μ W (addC ⟨d, W.pl, W.dead⟩ c) r W' μ' ∧ L = [FSA W'.q (addC ⟨d, W.pl, W.dead⟩ c).1.d, stH p W', ttA W', ccA W', ro μ']) := by
 have hW0 := hW
 obtain ⟨⟨A1, c1, e1⟩, ⟨A2, c2, e2⟩, _, _, hT, hC⟩ := hW
 obtain ⟨A5, c5, rfl⟩ := hv.sl
 obtain ⟨q, tv, cv, T, C, dead⟩ := W
 dsimp only at e1 e2 hT hC
 subst e1 e2
 have hlen : (SW.pl ⟨q, .slice A1 T.length c1, .slice A2 C.length c2, T, C, dead⟩).1.length = T.length := List.length_map _
 have hlen2 : (SW.pl ⟨q, .slice A1 T.length c1, .slice A2 C.length c2, T, C, dead⟩).2.length = C.length := List.length_map _
 generalize hy : addC ⟨d, SW.pl ⟨q, .slice A1 T.length c1, .slice A2 C.length c2, T, C, dead⟩, dead⟩ c = y
 unfold addC at hy
 dsimp only at hy
 rw [hlen, hlen2] at hy
 refine Spec.of 61 Tryz.func13 rfl rfl rfl ?_
 refine swp_sr ?_
 refine s_ef (ef_box rfl rfl) ?_
 intro b3
 refine s_as rfl ?_
 refine s_as rfl ?_
 refine swl_sub _ (sc0 0 rfl (sc0 3 rfl .nil)) ?_
 refine swl_nn ?_
 refine swp_seq ?_
 refine swp_sr ?_
 refine s_mv rfl ?_
 refine s_ef (ef_fn (live_spec p ⟨q, .slice A1 T.length c1, .slice A2 C.length c2, T, C, dead⟩) rfl rfl sp0) ?_
 rintro v10 L1 ⟨rfl, rfl⟩
 refine swl_app ?_
 refine s_as rfl ?_
 refine swl_sub _ (sc0 0 rfl (sc0 3 rfl (sc0 6 rfl .nil))) ?_
 refine swl_nn ?_
 refine swp_sr ?_
 refine s_mv rfl ?_
 refine s_pu (pu_neq rfl rfl) ?_
 refine swl_sub _ (sc0 0 rfl (sc0 3 rfl (sc0 6 rfl (sc0 12 rfl .nil)))) ?_
 refine swl_nn ?_
 refine swp_cond (b := _) rfl (fun h12 => ?_) (fun h12 => ?_)
 ·skip
  refine swp_sr ?_
  refine s_mv rfl ?_
  refine s_as rfl ?_
  refine s_as rfl ?_
  refine swl_sub _ (sc0 4 rfl (sc0 5 rfl .nil)) ?_
  refine swl_nn ?_
  refine swp_ret ?_
  refine then_r ?_
  have hdd : dead = true := by
   cases dead with
   | true => rfl
   | false => simp at h12
  have ha : (⟨d, SW.pl ⟨q, .slice A1 T.length c1, .slice A2 C.length c2, T, C, dead⟩, dead⟩, 0, 8) = y := by rw [← hy]; exact (addR_dead (x := ⟨d, SW.pl ⟨q, .slice A1 T.length c1, .slice A2 C.length c2, T, C, dead⟩, dead⟩) hdd).symm
  subst ha
  exact done_ret [FSA q d, stH p ⟨q, .slice A1 T.length c1, .slice A2 C.length c2, T, C, dead⟩, ttA ⟨q, .slice A1 T.length c1, .slice A2 C.length c2, T, C, dead⟩, ccA ⟨q, .slice A1 T.length c1, .slice A2 C.length c2, T, C, dead⟩, ro μ] (.tmp rfl (.tmp rfl .nil)) ⟨⟨q, .slice A1 T.length c1, .slice A2 C.length c2, T, C, dead⟩, μ, ⟨Le.refl _, hW0, rfl, rfl, rfl, by rw [if_pos hdd]; rfl⟩, rfl⟩ sp0
 ·skip
  have hdd : dead = false := by
   cases dead with
   | true => simp at h12
   | false => rfl
  refine swp_skip ?_
  refine then_n ?_
  refine swp_sr ?_
  refine s_rd (rd_loadW rfl rfl) ?_
  refine s_ef (ef_fn (cenc_spec μ (.slice A5 c.1.length c5) c hv) rfl rfl sp0) ?_
  rintro v16 L1 ⟨rfl, rfl⟩
  refine swl_app ?_
  refine s_mv rfl ?_
  refine s_pu (pu_extractL rfl) ?_
  refine s_pu (pu_extractL rfl) ?_
  refine s_as rfl ?_
  refine s_as rfl ?_
  refine swl_sub _ (sc0 0 rfl (sc0 3 rfl (sc0 7 rfl (sc0 8 rfl .nil)))) ?_
  refine swl_nn ?_
  refine swp_seq ?_
  refine swp_block ?_
  refine swp_sr ?_
  refine s_mv rfl ?_
  refine s_pu (pu_neq rfl rfl) ?_
  refine s_as rfl ?_
  refine swl_sub _ (sc0 0 rfl (sc0 3 rfl (sc0 7 rfl (sc0 8 rfl (sc0 22 rfl .nil))))) ?_
  refine swl_nn ?_
  refine swp_cond (b := _) rfl (fun h22 => ?_) (fun h22 => ?_)
  ·skip
   have h22' : checkC c ≠ 0 := by simpa using h22
   rw [if_pos h22'] at hy
   refine swp_skip ?_
   refine block_n ?_
   refine then_n ?_
   refine swp_seq ?_
   refine swp_sr ?_
   refine s_mv rfl ?_
   refine s_pu (pu_neq rfl rfl) ?_
   refine swl_sub _ (sc0 0 rfl (sc0 3 rfl (sc0 8 rfl (sc0 38 rfl .nil)))) ?_
   refine swl_nn ?_
   refine swp_cond (b := _) rfl (fun h38 => ?_) (fun h38 => by rw [decide_eq_false h22'] at h38; cases h38)
   refine swp_sr ?_
   refine s_mv rfl ?_
   refine s_as rfl ?_
   refine s_as rfl ?_
   refine swl_sub _ (sc0 4 rfl (sc0 5 rfl .nil)) ?_
   refine swl_nn ?_
   refine swp_ret ?_
   refine then_r ?_
   have ha : (⟨d, SW.pl ⟨q, .slice A1 T.length c1, .slice A2 C.length c2, T, C, dead⟩, dead⟩, 0, checkC c) = y := by rw [← hy]; exact (addR_err (x := ⟨d, SW.pl ⟨q, .slice A1 T.length c1, .slice A2 C.length c2, T, C, dead⟩, dead⟩) hdd h22').symm
   subst ha
   exact done_ret [FSA q d, stH p ⟨q, .slice A1 T.length c1, .slice A2 C.length c2, T, C, dead⟩, ttA ⟨q, .slice A1 T.length c1, .slice A2 C.length c2, T, C, dead⟩, ccA ⟨q, .slice A1 T.length c1, .slice A2 C.length c2, T, C, dead⟩, ro μ] (.tmp rfl (.tmp rfl .nil)) ⟨⟨q, .slice A1 T.length c1, .slice A2 C.length c2, T, C, dead⟩, μ, ⟨Le.refl _, hW0, rfl, rfl, rfl, rfl⟩, rfl⟩ sp0
  ·skip
   have h22' : checkC c = 0 := by simpa using h22
   rw [if_neg (not_not_intro h22')] at hy
   refine swp_sr ?_
   refine s_mv rfl ?_
   refine s_rd (rd_loadW rfl rfl) ?_
   refine s_ef (ef_fn (known_spec μ p ⟨q, .slice A1 T.length c1, .slice A2 C.length c2, T, C, dead⟩ hW0 (.slice A5 c.1.length c5) c hv) rfl rfl sp0) ?_
   rintro v28 L1 ⟨rfl, rfl⟩
   refine swl_app ?_
   refine s_pu (pu_not rfl) ?_
   refine s_as rfl ?_
   refine swl_sub _ (sc0 0 rfl (sc0 3 rfl (sc0 7 rfl (sc0 25 rfl .nil)))) ?_
   refine swl_nn ?_
   refine swp_cond (b := _) rfl (fun h25 => ?_) (fun h25 => ?_)
   ·skip
    have h25' : knownS T.length C.length c = false := by simpa using h25
    rw [if_pos h25'] at hy
    refine swp_region ?_
    refine s_as rfl ?_
    refine swl_sub _ (sc0 0 rfl (sc0 3 rfl (sc0 8 rfl .nil))) ?_
    refine swl_nil ?_
    refine block_n ?_
    refine then_n ?_
    refine swp_seq ?_
    refine swp_sr ?_
    refine s_mv rfl ?_
    refine s_pu (pu_neq rfl rfl) ?_
    refine swl_sub _ (sc0 0 rfl (sc0 3 rfl (sc0 8 rfl (sc0 38 rfl .nil)))) ?_
    refine swl_nn ?_
    refine swp_cond (b := _) rfl (fun h38 => ?_) (fun h38 => by cases h38)
    refine swp_sr ?_
    refine s_mv rfl ?_
    refine s_as rfl ?_
    refine s_as rfl ?_
    refine swl_sub _ (sc0 4 rfl (sc0 5 rfl .nil)) ?_
    refine swl_nn ?_
    refine swp_ret ?_
    refine then_r ?_
    have ha : (⟨d, SW.pl ⟨q, .slice A1 T.length c1, .slice A2 C.length c2, T, C, dead⟩, dead⟩, 0, 9) = y := by rw [← hy]; exact (addR_err (x := ⟨d, SW.pl ⟨q, .slice A1 T.length c1, .slice A2 C.length c2, T, C, dead⟩, dead⟩) hdd (by decide)).symm
    subst ha
    exact done_ret [FSA q d, stH p ⟨q, .slice A1 T.length c1, .slice A2 C.length c2, T, C, dead⟩, ttA ⟨q, .slice A1 T.length c1, .slice A2 C.length c2, T, C, dead⟩, ccA ⟨q, .slice A1 T.length c1, .slice A2 C.length c2, T, C, dead⟩, ro μ] (.tmp rfl (.tmp rfl .nil)) ⟨⟨q, .slice A1 T.length c1, .slice A2 C.length c2, T, C, dead⟩, μ, ⟨Le.refl _, hW0, rfl, rfl, rfl, rfl⟩, rfl⟩ sp0
   ·skip
    have h25' : knownS T.length C.length c = true := by simpa using h25
    rw [if_neg (by rw [h25']; decide)] at hy
    refine swp_sr ?_
    refine s_mv rfl ?_
    refine s_pu (pu_nilCheck rfl) ?_
    refine s_pu (pu_fieldAddr0 rfl) ?_
    refine s_rd (rd_load rfl rfl) ?_
    refine s_pu (pu_len rfl) ?_
    refine s_pu (pu_geq rfl rfl) ?_
    refine s_as rfl ?_
    refine swl_sub _ (sc0 0 rfl (sc0 3 rfl (sc0 7 rfl (sc0 30 rfl .nil)))) ?_
    refine swl_nn ?_
    refine swp_cond (b := _) rfl (fun h30 => ?_) (fun h30 => ?_)
    ·skip
     have h30' : 65536 ≤ C.length := by have := of_decide_eq_true h30; omega
     refine swp_region ?_
     refine s_as rfl ?_
     refine swl_sub _ (sc0 0 rfl (sc0 3 rfl (sc0 8 rfl .nil))) ?_
     refine swl_nil ?_
     refine block_n ?_
     refine then_n ?_
     refine swp_seq ?_
     refine swp_sr ?_
     refine s_mv rfl ?_
     refine s_pu (pu_neq rfl rfl) ?_
     refine swl_sub _ (sc0 0 rfl (sc0 3 rfl (sc0 8 rfl (sc0 38 rfl .nil)))) ?_
     refine swl_nn ?_
     refine swp_cond (b := _) rfl (fun h38 => ?_) (fun h38 => by cases h38)
     refine swp_sr ?_
     refine s_mv rfl ?_
     refine s_as rfl ?_
     refine s_as rfl ?_
     refine swl_sub _ (sc0 4 rfl (sc0 5 rfl .nil)) ?_
     refine swl_nn ?_
     refine swp_ret ?_
     refine then_r ?_
     have ha : (⟨d, SW.pl ⟨q, .slice A1 T.length c1, .slice A2 C.length c2, T, C, dead⟩, dead⟩, 0, 7) = y := by rw [← hy]; exact (addR_full (x := ⟨d, SW.pl ⟨q, .slice A1 T.length c1, .slice A2 C.length c2, T, C, dead⟩, dead⟩) hdd rfl h30').symm
     subst ha
     exact done_ret [FSA q d, stH p ⟨q, .slice A1 T.length c1, .slice A2 C.length c2, T, C, dead⟩, ttA ⟨q, .slice A1 T.length c1, .slice A2 C.length c2, T, C, dead⟩, ccA ⟨q, .slice A1 T.length c1, .slice A2 C.length c2, T, C, dead⟩, ro μ] (.tmp rfl (.tmp rfl .nil)) ⟨⟨q, .slice A1 T.length c1, .slice A2 C.length c2, T, C, dead⟩, μ, ⟨Le.refl _, hW0, rfl, rfl, rfl, rfl⟩, rfl⟩ sp0
    ·skip
     have h30' : C.length < 65536 := by have := of_decide_eq_false h30; omega
     have hbl := (checkC_ok h22').1
     refine swp_region ?_
     refine s_mv rfl ?_
     refine s_mv rfl ?_
     refine s_ef (ef_fn (write_spec p ⟨q, .slice A1 T.length c1, .slice A2 C.length c2, T, C, dead⟩ d hd (2, comV c) (by show 0 < 2; decide) (by show 2 < 256; decide) (by rw [comV_ok h22']; exact encC_len h22')) rfl rfl sp0) ?_
     rintro v21 L1 ⟨rfl, rfl⟩
     rw [comV_ok h22']
     refine swl_app ?_
     dsimp only
     refine s_as rfl ?_
     refine swl_sub _ (sc0 0 rfl (sc0 3 rfl (sc0 8 rfl .nil))) ?_
     refine swl_nil ?_
     refine block_n ?_
     refine then_n ?_
     refine swp_seq ?_
     refine swp_sr ?_
     refine s_mv rfl ?_
     refine s_pu (pu_neq rfl rfl) ?_
     refine swl_sub _ (sc0 0 rfl (sc0 3 rfl (sc0 8 rfl (sc0 38 rfl .nil)))) ?_
     refine swl_nn ?_
     refine swp_cond (b := _) rfl (fun h38 => ?_) (fun h38 => ?_)
     ·skip
      refine swp_sr ?_
      refine s_mv rfl ?_
      refine s_as rfl ?_
      refine s_as rfl ?_
      refine swl_sub _ (sc0 4 rfl (sc0 5 rfl .nil)) ?_
      refine swl_nn ?_
      refine swp_ret ?_
      refine then_r ?_
      have h38' : (writeD d (2, encC' c)).2 ≠ 0 := by simpa using h38
      have ha : (⟨(writeD d (2, encC' c)).1, SW.pl ⟨q, .slice A1 T.length c1, .slice A2 C.length c2, T, C, dead⟩, decide ((writeD d (2, encC' c)).2 = 8)⟩, 0, (writeD d (2, encC' c)).2) = y := by rw [← hy]; exact (addR_wr (x := ⟨d, SW.pl ⟨q, .slice A1 T.length c1, .slice A2 C.length c2, T, C, dead⟩, dead⟩) hdd rfl h30' h38').symm
      subst ha
      exact done_ret [FSA q (writeD d (2, encC' c)).1, stH p ⟨q, .slice A1 T.length c1, .slice A2 C.length c2, T, C, decide ((writeD d (2, encC' c)).2 = 8)⟩, ttA ⟨q, .slice A1 T.length c1, .slice A2 C.length c2, T, C, dead⟩, ccA ⟨q, .slice A1 T.length c1, .slice A2 C.length c2, T, C, dead⟩, ro μ] (.tmp rfl (.tmp rfl .nil)) ⟨⟨q, .slice A1 T.length c1, .slice A2 C.length c2, T, C, decide ((writeD d (2, encC' c)).2 = 8)⟩, μ, ⟨Le.refl _, SW.Ok.dead hW0 _, rfl, rfl, rfl, rfl⟩, rfl⟩ sp0
     ·skip
      have h38' : (writeD d (2, encC' c)).2 = 0 := by simpa using h38
      have ha : (⟨(writeD d (2, encC' c)).1, ((SW.pl ⟨q, .slice A1 T.length c1, .slice A2 C.length c2, T, C, dead⟩).1, (SW.pl ⟨q, .slice A1 T.length c1, .slice A2 C.length c2, T, C, dead⟩).2 ++ [c]), false⟩, ((C.length : Nat) : Int), 0) = y := by rw [← hy]; exact (addR_ok (x := ⟨d, SW.pl ⟨q, .slice A1 T.length c1, .slice A2 C.length c2, T, C, dead⟩, dead⟩) hdd rfl h30' h38').symm
      have hd8 : decide ((writeD d (2, encC' c)).2 = 8) = false := by rw [h38']; rfl
      rw [hd8]
      subst ha
      refine swp_skip ?_
      refine then_n ?_
      refine swp_seq ?_
      refine swp_draw [4, 6, 9] ([stH p ⟨q, .slice A1 T.length c1, .slice A2 C.length c2, T, C, false⟩, blk b3 25 [.slice A5 c.1.length c5, .int .i64 c.2]]) ([FSA q (writeD d (2, encC' c)).1, ro μ, ttA ⟨q, .slice A1 T.length c1, .slice A2 C.length c2, T, C, dead⟩, ccA ⟨q, .slice A1 T.length c1, .slice A2 C.length c2, T, C, dead⟩]) (Split.ent sp0) kr0 ?_
      refine d_pu 0 rfl (pu_move rfl) kr0 kr0 kr0 ?_
      refine d_pu 1 rfl (pu_move rfl) kr0 kr0 kr0 ?_
      refine d_pu 2 rfl (pu_nilCheck rfl) kr0 kr0 kr0 ?_
      refine d_pu 3 rfl (pu_fieldAddr0 rfl) kr0 kr0 kr0 ?_
      refine d_rd 4 rfl (rd_load rfl rfl) rfl kr0 kr0 kr0 ?_
      refine d_pu 5 rfl (pu_fieldAddr0 rfl) kr0 kr0 kr0 ?_
      refine d_rd 6 rfl (rd_load rfl rfl) rfl kr0 kr0 kr0 ?_
      refine d_pu 8 rfl (pu_fieldAddr0 rfl) kr0 kr0 kr0 ?_
      refine d_rd 9 rfl (rd_load rfl rfl) rfl kr0 kr0 kr0 ?_
      refine d_eft 7 rfl kr0 (ef_fn (cloneI_spec μ (.slice A5 c.1.length c5) c.1 hv om0) rfl rfl sp0) ?_
      rintro v47 L1 ⟨A3, c3, rfl, rfl⟩
      refine ⟨_, ent_appC (Split.ent sp0), ?_⟩
      refine d_pu 10 rfl (pu_bld (qs := [(0, _), (1, _)]) rfl) kr0 kr0 kr0 ?_
      refine d_eft 11 rfl kr0 (ef_bldS (qs := [(0, _)]) rfl rfl rfl) ?_
      intro b51
      refine ⟨_, Split.ent sp0, ?_⟩
      refine d_fint 12 rfl kr0 kr0 (ef_append_lit (l := C.length) (m := 1) rfl rfl sp0 (by simp only [maxLen]; omega) om0) ?_
      rintro v52 -
      refine swd_factf (fun m h => own_form h) fun ⟨A45, c45, hv45⟩ => ?_
      subst hv45
      refine d_pu 13 rfl (pu_nilCheck rfl) kr0 kr0 kr0 ?_
      refine d_pu 14 rfl (pu_fieldAddr0 rfl) kr0 kr0 kr0 ?_
      refine d_fin0f 15 rfl kr0 kr0 (ef_store rfl rfl rfl) ?_
      refine d_sub _ (sc0 0 rfl .nil) ?_
      refine d_nilf kr0 ?_
      refine then_n ?_
      refine swp_seq ?_
      refine swp_share_own (μ := μ) (v := .slice A3 c.1.length c3) (e := 3) (n := 1) sp0 fun μ' hle hrow => ?_
      refine swp_region ?_
      refine s_mv rfl ?_
      refine s_pu (pu_nilCheck rfl) ?_
      refine s_pu (pu_fieldAddr0 rfl) ?_
      refine s_rd (rd_load rfl rfl) ?_
      refine s_pu (pu_len rfl) ?_
      refine s_pu (pu_sub_as ((C.length : Nat) : Int) rfl rfl om0 om0 om0) ?_
      refine s_as rfl ?_
      refine s_as rfl ?_
      refine swl_sub _ (sc0 4 rfl (sc0 5 rfl .nil)) ?_
      refine swl_nn ?_
      refine swp_ret ?_
      refine done_ret [FSA q (writeD d (2, encC' c)).1, stH p ⟨q, .slice A1 T.length c1, .slice A45 (C.length + 1) c45, T, C ++ [(.slice A3 c.1.length c3, c)], false⟩, ttA ⟨q, .slice A1 T.length c1, .slice A2 C.length c2, T, C, dead⟩, own 25 2 (.slice A45 (C.length + 1) c45) (C.length + 1) (C.flatMap ccs ++ [.slice A3 c.1.length c3, .int .i64 c.2]), ro μ'] (.tmp rfl (.tmp rfl .nil)) ⟨⟨q, .slice A1 T.length c1, .slice A45 (C.length + 1) c45, T, C ++ [(.slice A3 c.1.length c3, c)], false⟩, μ', ⟨hle, SW.Ok.dead (Ok.addC hW0 hle hrow h30') false, rfl, ?_, rfl, rfl⟩, ?_⟩ sp0
      ·unfold SW.pl; rw [List.map_append]; rfl
      ·simp only [ccA, List.length_append, List.length_singleton, List.flatMap_append]; rfl
end SX
namespace SX
open Go Go.Proofs
def treeAt (ts : List (List En)) (n : Int) : List En × Int := if 0 ≤ n then match ts[n.toNat]? with | some t => (t, 0) | none => ([], 9) else ([], 9)
def comAt (cs : List Cm) (n : Int) : Cm × Int := if 0 ≤ n then match cs[n.toNat]? with | some c => (c, 0) | none => (([], 0), 9) else (([], 0), 9)
theorem treeAt_no {ts : List (List En)} {n : Int} (h : n < 0 ∨ (ts.length : Int) ≤ n) : treeAt ts n = ([], 9) := by
  unfold treeAt
  split
  · rw [List.getElem?_eq_none om0]
  · rfl
theorem comAt_no {cs : List Cm} {n : Int} (h : n < 0 ∨ (cs.length : Int) ≤ n) : comAt cs n = (([], 0), 9) := by
  unfold comAt
  split
  · rw [List.getElem?_eq_none om0]
  · rfl
theorem treeAt_at {ts : List (List En)} {k : Nat} {t : List En} (h : ts[k]? = some t) : treeAt ts (k : Nat) = (t, 0) := by
  unfold treeAt
  rw [if_pos (Int.natCast_nonneg k), Int.toNat_natCast, h]
theorem comAt_at {cs : List Cm} {k : Nat} {c : Cm} (h : cs[k]? = some c) : comAt cs (k : Nat) = (c, 0) := by
  unfold comAt
  rw [if_pos (Int.natCast_nonneg k), Int.toNat_natCast, h]
theorem trees_spec (p : Nat) (W : SW) (μ : PH) (hW : W.Ok μ) : Spec Tryz.prog 20 [pv p] [stH p W] (fun r L => r = .int .i64 (W.T.length : Nat) ∧ L = [stH p W]) := by
 obtain ⟨⟨A1, c1, e1⟩, ⟨A2, c2, e2⟩, _, _, hT, hC⟩ := hW
 obtain ⟨q, tv, cv, T, C, dead⟩ := W
 dsimp only at e1 e2 hT hC
 subst e1 e2
 refine Spec.of 10 Tryz.func20 rfl rfl rfl ?_
 refine swp_sr ?_
 refine s_as rfl ?_
 refine swl_sub _ (sc0 0 rfl .nil) ?_
 refine swl_nn ?_
 refine swp_seq ?_
 refine swp_sr ?_
 refine s_mv rfl ?_
 refine s_pu (pu_ptr_eq_nil rfl rfl) ?_
 refine swl_sub _ (sc0 0 rfl (sc0 4 rfl .nil)) ?_
 refine swl_nn ?_
 refine swp_cond (b := _) rfl (fun h4 => by cases h4) (fun h4 => ?_)
 refine swp_skip ?_
 refine then_n ?_
 refine swp_sr ?_
 refine s_mv rfl ?_
 refine s_pu (pu_nilCheck rfl) ?_
 refine s_pu (pu_fieldAddr0 rfl) ?_
 refine s_rd (rd_load rfl rfl) ?_
 refine s_pu (pu_len rfl) ?_
 refine s_as rfl ?_
 refine swl_sub _ (sc0 2 rfl .nil) ?_
 refine swl_nn ?_
 refine swp_ret ?_
 exact done_ret [stH p ⟨q, .slice A1 T.length c1, .slice A2 C.length c2, T, C, dead⟩] (.tmp rfl .nil) ⟨rfl, rfl⟩ sp0
theorem coms_spec (p : Nat) (W : SW) (μ : PH) (hW : W.Ok μ) : Spec Tryz.prog 22 [pv p] [stH p W] (fun r L => r = .int .i64 (W.C.length : Nat) ∧ L = [stH p W]) := by
 obtain ⟨⟨A1, c1, e1⟩, ⟨A2, c2, e2⟩, _, _, hT, hC⟩ := hW
 obtain ⟨q, tv, cv, T, C, dead⟩ := W
 dsimp only at e1 e2 hT hC
 subst e1 e2
 refine Spec.of 10 Tryz.func22 rfl rfl rfl ?_
 refine swp_sr ?_
 refine s_as rfl ?_
 refine swl_sub _ (sc0 0 rfl .nil) ?_
 refine swl_nn ?_
 refine swp_seq ?_
 refine swp_sr ?_
 refine s_mv rfl ?_
 refine s_pu (pu_ptr_eq_nil rfl rfl) ?_
 refine swl_sub _ (sc0 0 rfl (sc0 4 rfl .nil)) ?_
 refine swl_nn ?_
 refine swp_cond (b := _) rfl (fun h4 => by cases h4) (fun h4 => ?_)
 refine swp_skip ?_
 refine then_n ?_
 refine swp_sr ?_
 refine s_mv rfl ?_
 refine s_pu (pu_nilCheck rfl) ?_
 refine s_pu (pu_fieldAddr0 rfl) ?_
 refine s_rd (rd_load rfl rfl) ?_
 refine s_pu (pu_len rfl) ?_
 refine s_as rfl ?_
 refine swl_sub _ (sc0 2 rfl .nil) ?_
 refine swl_nn ?_
 refine swp_ret ?_
 exact done_ret [stH p ⟨q, .slice A1 T.length c1, .slice A2 C.length c2, T, C, dead⟩] (.tmp rfl .nil) ⟨rfl, rfl⟩ sp0
theorem dead_spec (p : Nat) (W : SW) : Spec Tryz.prog 26 [pv p] [stH p W] (fun r L => r = .bool W.dead ∧ L = [stH p W]) := by
 refine Spec.of 11 Tryz.func26 rfl rfl rfl ?_
 refine swp_sr ?_
 refine s_as rfl ?_
 refine swl_sub _ (sc0 0 rfl .nil) ?_
 refine swl_nn ?_
 refine swp_sr ?_
 refine s_mv rfl ?_
 refine s_pu (pu_ptr_ne_nil rfl rfl) ?_
 refine s_mv rfl ?_
 refine s_split 5 rfl (fun h5 => ?_) (fun h5 => by cases h5)
 refine s_on rfl rfl ?_
 refine s_mv rfl ?_
 refine s_on rfl rfl ?_
 refine s_pu (pu_nilCheck rfl) ?_
 refine s_on rfl rfl ?_
 refine s_pu (pu_fieldAddr0 rfl) ?_
 refine s_on rfl rfl ?_
 refine s_rd (rd_load rfl rfl) ?_
 refine s_pu (pu_pick_t rfl rfl) ?_
 refine s_as rfl ?_
 refine swl_sub _ (sc0 2 rfl .nil) ?_
 refine swl_nn ?_
 refine swp_ret ?_
 exact done_ret [stH p W] (.tmp rfl .nil) ⟨rfl, rfl⟩ sp0
theorem tcs_get {T : List (Value × List En)} {k : Nat} {x : Value × List En} (h : T[k]? = some x) : (T.flatMap tcs)[k * 1]? = some x.1 := by
  have := flat_get (f := tcs) (k := 1) (fun x => (rfl : (tcs x).length = 1)) T [] k x h 0 x.1 rfl
  rwa [List.append_nil, Nat.add_zero] at this
theorem ccs_get {C : List (Value × Cm)} {k : Nat} {x : Value × Cm} (h : C[k]? = some x) : (C.flatMap ccs)[k * 2]? = some x.1 ∧ (C.flatMap ccs)[k * 2 + 1]? = some (.int .i64 x.2.2) := by
  have h0 := flat_get (f := ccs) (k := 2) (fun x => (rfl : (ccs x).length = 2)) C [] k x h 0 x.1 rfl
  have h1 := flat_get (f := ccs) (k := 2) (fun x => (rfl : (ccs x).length = 2)) C [] k x h 1 (.int .i64 x.2.2) rfl
  rw [List.append_nil] at h0 h1
  exact ⟨h0, h1⟩
set_option maxHeartbeats 2000000 in
theorem tree_spec (p : Nat) (W : SW) (μ : PH) (hW : W.Ok μ) (hlt : ∀ x ∈ W.T, x.2.length ≤ 1048576) (n : Int) : Spec Tryz.prog 21 [pv p, .int .i64 n] [stH p W, ttA W, ro μ] (fun r L => ∃ A c, r = .tuple #[.slice A (treeAt W.pl.1 n).1.length c, .int .i64 (treeAt W.pl.1 n).2] ∧ L = [own 47 2 (.slice A (treeAt W.pl.1 n).1.length c) (treeAt W.pl.1 n).1.length (ens (treeAt W.pl.1 n).1), stH p W, ttA W, ro μ]) := by
 have hW0 := hW
 obtain ⟨⟨A1, c1, e1⟩, ⟨A2, c2, e2⟩, htr, hcr, hT, hC⟩ := hW
 obtain ⟨q, tv, cv, T, C, dead⟩ := W
 dsimp only at e1 e2 htr hcr hT hC hlt
 subst e1 e2
 have hlen : (SW.pl ⟨q, .slice A1 T.length c1, .slice A2 C.length c2, T, C, dead⟩).1.length = T.length := List.length_map _
 refine Spec.of 29 Tryz.func21 rfl rfl rfl ?_
 refine swp_sr ?_
 refine s_as rfl ?_
 refine s_as rfl ?_
 refine swl_sub _ (sc0 0 rfl (sc0 1 rfl .nil)) ?_
 refine swl_nn ?_
 refine swp_seq ?_
 refine swp_block ?_
 refine swp_sr ?_
 refine s_mv rfl ?_
 refine s_pu (pu_ptr_eq_nil rfl rfl) ?_
 refine s_as rfl ?_
 refine swl_sub _ (sc0 0 rfl (sc0 1 rfl (sc0 6 rfl .nil))) ?_
 refine swl_nn ?_
 refine swp_cond (b := _) rfl (fun h6 => by cases h6) (fun h6 => ?_)
 refine swp_sr ?_
 refine s_mv rfl ?_
 refine s_pu (pu_lss rfl rfl) ?_
 refine s_mv rfl ?_
 refine s_split 12 rfl (fun h12 => ?_) (fun h12 => ?_)
 ·skip
  have h12' : n < 0 := of_decide_eq_true h12
  rw [treeAt_no (.inl h12')]
  refine s_off rfl rfl rfl ?_
  refine s_off rfl rfl rfl ?_
  refine s_off rfl rfl rfl ?_
  refine s_off rfl rfl rfl ?_
  refine s_off rfl rfl rfl ?_
  refine s_off rfl rfl rfl ?_
  refine s_off rfl rfl rfl ?_
  refine s_pu (pu_pick_t rfl rfl) ?_
  refine s_as rfl ?_
  refine swl_sub _ (sc0 0 rfl (sc0 1 rfl (sc0 9 rfl .nil))) ?_
  refine swl_nn ?_
  refine swp_cond (b := _) rfl (fun h9 => ?_) (fun h9 => by cases h9)
  refine swp_sr ?_
  refine s_as rfl ?_
  refine s_as rfl ?_
  refine swl_sub _ (sc0 4 rfl (sc0 5 rfl .nil)) ?_
  refine swl_nn ?_
  refine swp_ret ?_
  refine block_r ?_
  refine then_r ?_
  exact done_retE [own 47 2 (.slice none 0 0) 0 [], stH p ⟨q, .slice A1 T.length c1, .slice A2 C.length c2, T, C, dead⟩, ttA ⟨q, .slice A1 T.length c1, .slice A2 C.length c2, T, C, dead⟩, ro μ] (.tmp rfl (.tmp rfl .nil)) ⟨none, 0, rfl, rfl⟩ own_nil_ent
 ·skip
  have h12' : 0 ≤ n := by have := of_decide_eq_false h12; omega
  refine s_on rfl rfl ?_
  refine s_mv rfl ?_
  refine s_on rfl rfl ?_
  refine s_mv rfl ?_
  refine s_on rfl rfl ?_
  refine s_pu (pu_nilCheck rfl) ?_
  refine s_on rfl rfl ?_
  refine s_pu (pu_fieldAddr0 rfl) ?_
  refine s_on rfl rfl ?_
  refine s_rd (rd_load rfl rfl) ?_
  refine s_on rfl rfl ?_
  refine s_pu (pu_len rfl) ?_
  refine s_on rfl rfl ?_
  refine s_pu (pu_geq rfl rfl) ?_
  refine s_pu (pu_pick_f rfl rfl) ?_
  refine s_as rfl ?_
  refine swl_sub _ (sc0 0 rfl (sc0 1 rfl (sc0 9 rfl .nil))) ?_
  refine swl_nn ?_
  refine swp_cond (b := _) rfl (fun h9 => ?_) (fun h9 => ?_)
  ·skip
   refine swp_sr ?_
   refine s_as rfl ?_
   refine s_as rfl ?_
   refine swl_sub _ (sc0 4 rfl (sc0 5 rfl .nil)) ?_
   refine swl_nn ?_
   refine swp_ret ?_
   refine block_r ?_
   refine then_r ?_
   have h9' : (T.length : Int) ≤ n := of_decide_eq_true h9
   rw [treeAt_no (.inr (by rw [hlen]; exact h9'))]
   exact done_retE [own 47 2 (.slice none 0 0) 0 [], stH p ⟨q, .slice A1 T.length c1, .slice A2 C.length c2, T, C, dead⟩, ttA ⟨q, .slice A1 T.length c1, .slice A2 C.length c2, T, C, dead⟩, ro μ] (.tmp rfl (.tmp rfl .nil)) ⟨none, 0, rfl, rfl⟩ own_nil_ent
  ·skip
   have h9' : ¬ (T.length : Int) ≤ n := of_decide_eq_false h9
   obtain ⟨k, rfl⟩ : ∃ k : Nat, n = (k : Int) := ⟨n.toNat, by omega⟩
   have hk : k < T.length := by omega
   obtain ⟨x, hx⟩ : ∃ x, T[k]? = some x := ⟨_, List.getElem?_eq_getElem hk⟩
   have hxt : (SW.pl ⟨q, .slice A1 T.length c1, .slice A2 C.length c2, T, C, dead⟩).1[k]? = some x.2 := by show (T.map (·.2))[k]? = _; rw [List.getElem?_map, hx]; rfl
   rw [treeAt_at hxt]
   have hxm := List.mem_of_getElem? hx
   have hxr := htr x hxm
   refine swp_fact (fun m h => own_shape (e := 22) (n := 1) (v := .slice A1 T.length c1) (l := T.length) (xs := T.flatMap tcs) tk0 h) fun hs => ?_
   obtain ⟨b, rfl⟩ : ∃ b, A1 = some ⟨b, 0, none⟩ := by
    rcases hs with ⟨_, h⟩ | ⟨b, cap, h, _⟩
    ·omega
    ·injection h with h1; exact ⟨b, h1⟩
   refine swp_skip ?_
   refine block_n ?_
   refine then_n ?_
   refine swp_sr ?_
   refine s_mv rfl ?_
   refine s_pu (pu_nilCheck rfl) ?_
   refine s_pu (pu_fieldAddr0 rfl) ?_
   refine s_rd (rd_load rfl rfl) ?_
   refine s_mv rfl ?_
   refine s_pu (pu_indexAddr (0 + k * 1) rfl rfl om0 om0 (by rw [Int.toNat_natCast])) ?_
   refine s_rd (rd_of_ld rfl (by rw [Nat.zero_add]; exact ld_ownN (e := 22) (n := 1) tk0 (tcs_get hx))) ?_
   refine s_ef (ef_fn (cloneT_spec μ x.1 x.2 hxr (hlt x hxm)) rfl rfl sp0) ?_
   rintro v28 L1 ⟨A3, c3, rfl, rfl⟩
   refine swl_app ?_
   refine s_as rfl ?_
   refine s_as rfl ?_
   refine swl_sub _ (sc0 4 rfl (sc0 5 rfl .nil)) ?_
   refine swl_nn ?_
   refine swp_ret ?_
   exact done_ret [own 47 2 (.slice A3 x.2.length c3) x.2.length (ens x.2), stH p ⟨q, .slice (some ⟨b, 0, none⟩) T.length c1, .slice A2 C.length c2, T, C, dead⟩, ttA ⟨q, .slice (some ⟨b, 0, none⟩) T.length c1, .slice A2 C.length c2, T, C, dead⟩, ro μ] (.tmp rfl (.tmp rfl .nil)) ⟨A3, c3, rfl, rfl⟩ sp0
end SX
namespace SX
open Go Go.Proofs
theorem ccs_row {C : List (Value × Cm)} {k : Nat} {x : Value × Cm} (h : C[k]? = some x) : ∀ j v, [x.1, .int .i64 x.2.2][j]? = some v → (C.flatMap ccs)[0 + k * 2 + j]? = some v := fun j v hv => by
  obtain ⟨h0, h1⟩ := ccs_get h
  rw [Nat.zero_add]
  match j, hv with
  | 0, hv => cases hv; exact h0
  | 1, hv => cases hv; exact h1
  | j + 2, hv => cases hv
set_option maxHeartbeats 2000000 in
theorem commit_spec (p : Nat) (W : SW) (μ : PH) (hW : W.Ok μ) (hlt : ∀ x ∈ W.C, x.2.1.length ≤ 1048576) (n : Int) : Spec Tryz.prog 23 [pv p, .int .i64 n] [stH p W, ccA W, ro μ] (fun r L => ∃ A c, r = .tuple #[cmV (.slice A (comAt W.pl.2 n).1.1.length c) (comAt W.pl.2 n).1.2, .int .i64 (comAt W.pl.2 n).2] ∧ L = [own 3 1 (.slice A (comAt W.pl.2 n).1.1.length c) (comAt W.pl.2 n).1.1.length ((comAt W.pl.2 n).1.1.flatMap (icsk .i64)), stH p W, ccA W, ro μ]) := by
 have hW0 := hW
 obtain ⟨⟨A1, c1, e1⟩, ⟨A2, c2, e2⟩, htr, hcr, hT, hC⟩ := hW
 obtain ⟨q, tv, cv, T, C, dead⟩ := W
 dsimp only at e1 e2 htr hcr hT hC hlt
 subst e1 e2
 have hlen : (SW.pl ⟨q, .slice A1 T.length c1, .slice A2 C.length c2, T, C, dead⟩).2.length = C.length := List.length_map _
 refine Spec.of 37 Tryz.func23 rfl rfl rfl ?_
 refine swp_sr ?_
 refine s_ef (ef_alloc) ?_
 intro b4
 refine s_as rfl ?_
 refine swl_sub _ (sc0 0 rfl (sc0 1 rfl (sc0 4 rfl .nil))) ?_
 refine swl_nn ?_
 refine swp_seq ?_
 refine swp_block ?_
 refine swp_sr ?_
 refine s_mv rfl ?_
 refine s_pu (pu_ptr_eq_nil rfl rfl) ?_
 refine s_as rfl ?_
 refine swl_sub _ (sc0 0 rfl (sc0 1 rfl (sc0 4 rfl (sc0 7 rfl .nil)))) ?_
 refine swl_nn ?_
 refine swp_cond (b := _) rfl (fun h7 => by cases h7) (fun h7 => ?_)
 refine swp_sr ?_
 refine s_mv rfl ?_
 refine s_pu (pu_lss rfl rfl) ?_
 refine s_mv rfl ?_
 refine s_split 14 rfl (fun h14 => ?_) (fun h14 => ?_)
 ·skip
  have h12' : n < 0 := of_decide_eq_true h14
  rw [comAt_no (.inl h12')]
  refine s_off rfl rfl rfl ?_
  refine s_off rfl rfl rfl ?_
  refine s_off rfl rfl rfl ?_
  refine s_off rfl rfl rfl ?_
  refine s_off rfl rfl rfl ?_
  refine s_off rfl rfl rfl ?_
  refine s_off rfl rfl rfl ?_
  refine s_pu (pu_pick_t rfl rfl) ?_
  refine s_as rfl ?_
  refine swl_sub _ (sc0 0 rfl (sc0 1 rfl (sc0 4 rfl (sc0 11 rfl .nil)))) ?_
  refine swl_nn ?_
  refine swp_cond (b := _) rfl (fun h11 => ?_) (fun h11 => by cases h11)
  refine swp_sr ?_
  refine s_pu (pu_bld (qs := []) rfl) ?_
  refine s_ef0 (ef_storeA rfl rfl rfl rfl) ?_
  refine s_as rfl ?_
  refine swl_sub _ (sc0 4 rfl (sc0 5 rfl .nil)) ?_
  refine swl_nn ?_
  refine swp_ret ?_
  refine block_r ?_
  refine then_r ?_
  exact done_retE [own 3 1 (.slice none 0 0) 0 [], stH p ⟨q, .slice A1 T.length c1, .slice A2 C.length c2, T, C, dead⟩, ccA ⟨q, .slice A1 T.length c1, .slice A2 C.length c2, T, C, dead⟩, ro μ] (.cell rfl (ld_whole rfl) (.tmp rfl .nil)) ⟨none, 0, rfl, rfl⟩ ((Split.ent' (K := [stH p ⟨q, .slice A1 T.length c1, .slice A2 C.length c2, T, C, dead⟩, ccA ⟨q, .slice A1 T.length c1, .slice A2 C.length c2, T, C, dead⟩, ro μ]) sp0).trans own_nil_ent)
 ·skip
  have h12' : 0 ≤ n := by have := of_decide_eq_false h14; omega
  refine s_on rfl rfl ?_
  refine s_mv rfl ?_
  refine s_on rfl rfl ?_
  refine s_mv rfl ?_
  refine s_on rfl rfl ?_
  refine s_pu (pu_nilCheck rfl) ?_
  refine s_on rfl rfl ?_
  refine s_pu (pu_fieldAddr0 rfl) ?_
  refine s_on rfl rfl ?_
  refine s_rd (rd_load rfl rfl) ?_
  refine s_on rfl rfl ?_
  refine s_pu (pu_len rfl) ?_
  refine s_on rfl rfl ?_
  refine s_pu (pu_geq rfl rfl) ?_
  refine s_pu (pu_pick_f rfl rfl) ?_
  refine s_as rfl ?_
  refine swl_sub _ (sc0 0 rfl (sc0 1 rfl (sc0 4 rfl (sc0 11 rfl .nil)))) ?_
  refine swl_nn ?_
  refine swp_cond (b := _) rfl (fun h11 => ?_) (fun h11 => ?_)
  ·skip
   refine swp_sr ?_
   refine s_pu (pu_bld (qs := []) rfl) ?_
   refine s_ef0 (ef_storeA rfl rfl rfl rfl) ?_
   refine s_as rfl ?_
   refine swl_sub _ (sc0 4 rfl (sc0 5 rfl .nil)) ?_
   refine swl_nn ?_
   refine swp_ret ?_
   refine block_r ?_
   refine then_r ?_
   have h9' : (C.length : Int) ≤ n := of_decide_eq_true h11
   rw [comAt_no (.inr (by rw [hlen]; exact h9'))]
   exact done_retE [own 3 1 (.slice none 0 0) 0 [], stH p ⟨q, .slice A1 T.length c1, .slice A2 C.length c2, T, C, dead⟩, ccA ⟨q, .slice A1 T.length c1, .slice A2 C.length c2, T, C, dead⟩, ro μ] (.cell rfl (ld_whole rfl) (.tmp rfl .nil)) ⟨none, 0, rfl, rfl⟩ ((Split.ent' (K := [stH p ⟨q, .slice A1 T.length c1, .slice A2 C.length c2, T, C, dead⟩, ccA ⟨q, .slice A1 T.length c1, .slice A2 C.length c2, T, C, dead⟩, ro μ]) sp0).trans own_nil_ent)
  ·skip
   have h9' : ¬ (C.length : Int) ≤ n := of_decide_eq_false h11
   obtain ⟨k, rfl⟩ : ∃ k : Nat, n = (k : Int) := ⟨n.toNat, by omega⟩
   have hk : k < C.length := by omega
   obtain ⟨x, hx⟩ : ∃ x, C[k]? = some x := ⟨_, List.getElem?_eq_getElem hk⟩
   have hxt : (SW.pl ⟨q, .slice A1 T.length c1, .slice A2 C.length c2, T, C, dead⟩).2[k]? = some x.2 := by show (C.map (·.2))[k]? = _; rw [List.getElem?_map, hx]; rfl
   rw [comAt_at hxt]
   have hxm := List.mem_of_getElem? hx
   have hxr := hcr x hxm
   obtain ⟨A6, c6, hx1⟩ := hxr.sl
   have hrow := ccs_row hx
   rw [hx1] at hrow hxr
   refine swp_fact (fun m h => own_shape (e := 25) (n := 2) (v := .slice A2 C.length c2) (l := C.length) (xs := C.flatMap ccs) tk0 h) fun hs => ?_
   obtain ⟨b, rfl⟩ : ∃ b, A2 = some ⟨b, 0, none⟩ := by
    rcases hs with ⟨_, h⟩ | ⟨b, cap, h, _⟩
    ·omega
    ·injection h with h1; exact ⟨b, h1⟩
   refine swp_skip ?_
   refine block_n ?_
   refine then_n ?_
   refine swp_sr ?_
   refine s_mv rfl ?_
   refine s_pu (pu_nilCheck rfl) ?_
   refine s_pu (pu_fieldAddr0 rfl) ?_
   refine s_rd (rd_load rfl rfl) ?_
   refine s_mv rfl ?_
   refine s_pu (pu_indexAddr (0 + k * 2) rfl rfl om0 om0 (by rw [Int.toNat_natCast])) ?_
   refine s_rd (rd_of_ld rfl (ld_ownA (e := 25) (n := 2) (vs := [.slice A6 x.2.1.length c6, .int .i64 x.2.2]) tk0 rfl hrow)) ?_
   refine s_ef (ef_alloc) ?_
   intro b6
   refine s_ef0 (ef_storeA rfl rfl rfl rfl) ?_
   refine swl_sub _ (sc0 4 rfl (sc0 6 rfl .nil)) ?_
   refine swl_nn ?_
   refine swp_seq ?_
   refine swp_draw [1, 4] ([blk b6 25 [.slice A6 x.2.1.length c6, .int .i64 x.2.2]]) ([blk b4 25 [.slice none 0 0, .int .i64 0], stH p ⟨q, .slice A1 T.length c1, .slice (some ⟨b, 0, none⟩) C.length c2, T, C, dead⟩, ccA ⟨q, .slice A1 T.length c1, .slice (some ⟨b, 0, none⟩) C.length c2, T, C, dead⟩, ro μ]) (Split.ent sp0) kr0 ?_
   refine d_pu 0 rfl (pu_fieldAddr0 rfl) kr0 kr0 kr0 ?_
   refine d_rd 1 rfl (rd_load rfl rfl) rfl kr0 kr0 kr0 ?_
   refine d_pu 3 rfl (pu_fieldAddr0 rfl) kr0 kr0 kr0 ?_
   refine d_rd 4 rfl (rd_load rfl rfl) rfl kr0 kr0 kr0 ?_
   refine d_eft 2 rfl kr0 (ef_fn (cloneI_spec μ (.slice A6 x.2.1.length c6) x.2.1 hxr (hlt x hxm)) rfl rfl sp0) ?_
   rintro v33 L1 ⟨A3, c3, rfl, rfl⟩
   refine ⟨_, ent_appC (Split.ent sp0), ?_⟩
   refine d_pu 5 rfl (pu_bld (qs := [(0, _), (1, _)]) rfl) kr0 kr0 kr0 ?_
   refine d_fin0t 6 rfl kr0 kr0 (ef_storeA rfl rfl rfl rfl) ?_
   refine d_pu 7 rfl (pu_assign rfl) kr0 kr0 kr0 ?_
   refine d_sub _ (sc0 4 rfl (sc0 5 rfl .nil)) ?_
   refine d_nilf kr0 ?_
   refine then_n ?_
   refine swp_ret ?_
   exact done_ret [own 3 1 (.slice A3 x.2.1.length c3) x.2.1.length (x.2.1.flatMap (icsk .i64)), stH p ⟨q, .slice A1 T.length c1, .slice (some ⟨b, 0, none⟩) C.length c2, T, C, dead⟩, ccA ⟨q, .slice A1 T.length c1, .slice (some ⟨b, 0, none⟩) C.length c2, T, C, dead⟩, ro μ] (.cell rfl (ld_whole rfl) (.tmp rfl .nil)) ⟨A3, c3, rfl, rfl⟩ sp0
/-- commits' parents -/
abbrev parS (s : St2) : List (List Int) := s.2.map (·.1)
set_option maxHeartbeats 2000000 in
theorem graph_spec (p : Nat) (W : SW) (μ : PH) (hW : W.Ok μ) (hlt : ∀ x ∈ W.C, x.2.1.length ≤ 1048576) : Spec Tryz.prog 19 [pv p] [stH p W, ccA W, ro μ] (fun r L => ∃ μ' G, Le μ μ' ∧ Graph μ' r G ∧ nums G = parS W.pl ∧ L = [stH p W, ccA W, ro μ']) := by
 have hW0 := hW
 obtain ⟨⟨A1, c1, e1⟩, ⟨A2, c2, e2⟩, htr, hcr, hT, hC⟩ := hW
 obtain ⟨q, tv, cv, T, C, dead⟩ := W
 dsimp only at e1 e2 htr hcr hT hC hlt
 subst e1 e2
 refine Spec.of 24 Tryz.func19 rfl rfl rfl ?_
 refine swp_sr ?_
 refine s_as rfl ?_
 refine swl_sub _ (sc0 0 rfl .nil) ?_
 refine swl_nn ?_
 refine swp_sr ?_
 refine s_as rfl ?_
 refine swl_sub _ (sc0 0 rfl (sc0 3 rfl .nil)) ?_
 refine swl_nn ?_
 refine swp_seq ?_
 refine swp_sr ?_
 refine s_mv rfl ?_
 refine s_ef (ef_fn (coms_spec p ⟨q, .slice A1 T.length c1, .slice A2 C.length c2, T, C, dead⟩ μ hW0) rfl rfl sp0) ?_
 rintro v6 L1 ⟨rfl, rfl⟩
 refine swl_app ?_
 refine s_mv rfl ?_
 refine swl_sub _ (sc0 0 rfl (sc0 3 rfl (sc0 6 rfl (sc0 7 rfl .nil)))) ?_
 refine swl_nn ?_
 refine swp_block ?_
 refine swp_ent (own_nil_ent (e := 23) (n := 1)) ?_
 refine swp_loop (ι := Nat × Value × List (Value × List Int) × PH) (fun k env L => Sub env [(0, pv p), (3, k.2.1), (6, .int .i64 (C.length : Nat)), (7, .int .i64 (k.1 : Nat))] ∧ Ent L [own 23 1 k.2.1 k.1 (k.2.2.1.flatMap gcs), stH p ⟨q, .slice A1 T.length c1, .slice A2 C.length c2, T, C, dead⟩, ccA ⟨q, .slice A1 T.length c1, .slice A2 C.length c2, T, C, dead⟩, ro k.2.2.2] ∧ k.1 ≤ C.length ∧ Le μ k.2.2.2 ∧ nums k.2.2.1 = ((C.take k.1).map (·.2)).map (·.1) ∧ (∀ x ∈ k.2.2.1, Row k.2.2.2 x.1 1 x.2.length (x.2.flatMap (icsk .i64)))) (fun k => C.length - k.1) (0, .slice none 0 0, [], μ) ⟨⟨rfl, rfl, rfl, rfl, trivial⟩, by show Ent _ [own 23 1 (.slice none 0 0) 0 [], stH p ⟨q, .slice A1 T.length c1, .slice A2 C.length c2, T, C, dead⟩, ccA ⟨q, .slice A1 T.length c1, .slice A2 C.length c2, T, C, dead⟩, ro μ]; exact Split.ent' sp0, Nat.zero_le _, Le.refl _, rfl, fun x hx => (by cases hx)⟩ ?_
 rintro ⟨k, v3, Gk, μk⟩ env L ⟨hsub, hE, hk, hle, hnk, hrk⟩
 dsimp only at hsub hE hk hle hnk hrk ⊢
 refine swp_sub _ hsub ?_
 refine swp_ent hE ?_
 clear hsub hE env L
 refine swp_sr ?_
 refine s_pu (pu_lss rfl rfl) ?_
 refine swl_sub _ (sc0 0 rfl (sc0 3 rfl (sc0 6 rfl (sc0 7 rfl (sc0 8 rfl .nil))))) ?_
 refine swl_nn ?_
 refine swp_seq ?_
 refine swp_cond (b := _) rfl (fun h8 => ?_) (fun h8 => ?_)
 ·skip
  have h8' : k < C.length := by have := of_decide_eq_true h8; omega
  obtain ⟨x, hx⟩ : ∃ x, C[k]? = some x := ⟨_, List.getElem?_eq_getElem h8'⟩
  have hxm := List.mem_of_getElem? hx
  have hxr := hcr x hxm
  have hx0 := (ccs_get hx).1
  refine swp_fact (fun m h => own_shape (e := 25) (n := 2) (v := .slice A2 C.length c2) (l := C.length) (xs := C.flatMap ccs) tk0 h) fun hs => ?_
  obtain ⟨b, hA2⟩ : ∃ b, A2 = some ⟨b, 0, none⟩ := by
   rcases hs with ⟨_, h⟩ | ⟨b, cap, h, _⟩
   ·omega
   ·injection h with h1; exact ⟨b, h1⟩
  rw [hA2]
  refine swp_skip ?_
  refine then_n ?_
  refine swp_seq ?_
  refine swp_block ?_
  refine swp_sr ?_
  refine s_mv rfl ?_
  refine s_as rfl ?_
  refine swl_sub _ (sc0 0 rfl (sc0 3 rfl (sc0 4 rfl (sc0 6 rfl (sc0 7 rfl .nil))))) ?_
  refine swl_nn ?_
  refine swp_region ?_
  refine s_mv rfl ?_
  refine s_mv rfl ?_
  refine s_pu (pu_nilCheck rfl) ?_
  refine s_pu (pu_fieldAddr0 rfl) ?_
  refine s_rd (rd_load rfl rfl) ?_
  refine s_mv rfl ?_
  refine s_pu (pu_indexAddr (0 + k * 2) rfl rfl om0 om0 (by rw [Int.toNat_natCast])) ?_
  refine s_pu (pu_fieldAddr rfl) ?_
  refine s_rd (rd_of_ld rfl (by rw [Nat.zero_add]; exact ld_ownN (e := 25) (n := 2) tk0 hx0)) ?_
  refine s_ef (ef_fn (cloneI_spec μk x.1 x.2.1 (hxr.le hle) (hlt x hxm)) rfl rfl sp0) ?_
  rintro v19 L1 ⟨A3, c3, rfl, rfl⟩
  refine swl_app ?_
  refine s_ef (ef_bldS (qs := [(0, _)]) rfl rfl rfl) ?_
  intro b20
  refine s_ef (ef_append_lit (l := k) (m := 1) rfl rfl sp0 (by simp only [maxLen]; omega) om0) ?_
  rintro v21 -
  skip
  refine s_as rfl ?_
  refine swl_sub _ (sc0 0 rfl (sc0 3 rfl (sc0 6 rfl (sc0 7 rfl .nil)))) ?_
  rw [← hA2]
  refine swl_share_own (μ := μk) (v := .slice A3 x.2.1.length c3) (e := 3) (n := 1) sp0 fun μ' hle' hrow' => ?_
  refine swl_nil ?_
  refine block_n ?_
  refine then_n ?_
  refine swp_region ?_
  refine s_pu (pu_add_as ((k + 1 : Nat) : Int) rfl rfl om0 om0 om0) ?_
  refine s_mv rfl ?_
  refine swl_sub _ (sc0 0 rfl (sc0 3 rfl (sc0 6 rfl (sc0 7 rfl .nil)))) ?_
  refine swl_nil ?_
  refine then_n ⟨(k + 1, v21, Gk ++ [(.slice A3 x.2.1.length c3, x.2.1)], μ'), ⟨⟨rfl, rfl, rfl, rfl, trivial⟩, ?_, h8', hle.trans hle', ?_, fun y hy => ?_⟩, by show C.length - (k + 1) < C.length - k; omega⟩
  ·show Ent _ [own 23 1 v21 (k + 1) ((Gk ++ [(Value.slice A3 x.2.1.length c3, x.2.1)]).flatMap gcs), stH p ⟨q, .slice A1 T.length c1, .slice A2 C.length c2, T, C, dead⟩, ccA ⟨q, .slice A1 T.length c1, .slice A2 C.length c2, T, C, dead⟩, ro μ']
   rw [show (Gk ++ [(Value.slice A3 x.2.1.length c3, x.2.1)]).flatMap gcs = Gk.flatMap gcs ++ [Value.slice A3 x.2.1.length c3] by rw [List.flatMap_append]; rfl]
   exact Split.ent' sp0
  ·show List.map (·.2) (Gk ++ [((_ : Value), x.2.1)]) = ((C.take (k + 1)).map (·.2)).map (·.1)
   rw [List.map_append, List.take_add_one, hx, List.map_append, List.map_append, ← hnk]; rfl
  ·rcases List.mem_append.1 hy with hy | hy
   ·exact (hrk y hy).le hle'
   ·obtain rfl : y = (Value.slice A3 x.2.1.length c3, x.2.1) := by simpa using hy
    exact hrow'
 ·skip
  have h8' := of_decide_eq_false h8
  obtain rfl : k = C.length := by omega
  rw [List.take_length] at hnk
  refine swp_exit ?_
  refine then_x ?_
  refine then_x ?_
  refine block_hit rfl ?_
  refine then_n ?_
  refine swp_seq ?_
  refine swp_share_own (μ := μk) (v := v3) (e := 23) (n := 1) sp0 fun μ' hle' hrow' => ?_
  refine swp_region ?_
  refine s_mv rfl ?_
  refine s_as rfl ?_
  refine swl_sub _ (sc0 2 rfl .nil) ?_
  refine swl_nn ?_
  refine swp_ret ?_
  have hGl : C.length = Gk.length := by
   have := congrArg List.length hnk
   simp only [nums, List.length_map] at this
   exact this.symm
  rw [hGl] at hrow'
  exact done_ret [stH p ⟨q, .slice A1 T.length c1, .slice A2 C.length c2, T, C, dead⟩, ccA ⟨q, .slice A1 T.length c1, .slice A2 C.length c2, T, C, dead⟩, ro μ'] (.tmp rfl .nil) ⟨μ', Gk, hle.trans hle', ⟨hrow', fun x hx => (hrk x hx).le hle'⟩, hnk, rfl⟩ sp0
end SX
namespace SX
open Go Go.Proofs
theorem knownS_eq (nT nC : Nat) (c : Cm) : knownS nT nC c = (decide (c.2 < (nT : Int)) && !(c.1.any fun p => decide ((nC : Int) ≤ p))) := rfl
set_option maxHeartbeats 2000000 in
theorem rknown_spec (μ : PH) (p : Nat) (W : SW) (hW : W.Ok μ) (pvv : Value) (c : Cm) (h : Row μ pvv 1 c.1.length (c.1.flatMap (icsk .i64))) : Spec Tryz.prog 54 [pv p, cmV pvv c.2] [rsH p W, ro μ] (fun r L => r = .bool (knownS W.T.length W.C.length c) ∧ L = [rsH p W, ro μ]) := by
 have hsm := h.small
 obtain ⟨⟨A1, c1, e1⟩, ⟨A2, c2, e2⟩, _, _, _, _⟩ := hW
 obtain ⟨q, tv, cv, T, C, dead⟩ := W
 dsimp only at e1 e2
 subst e1 e2
 refine Spec.of 32 Tryz.func54 rfl rfl rfl ?_
 refine swp_sr ?_
 refine s_ef (ef_box rfl rfl) ?_
 intro b3
 refine s_as rfl ?_
 refine swl_sub _ (sc0 0 rfl (sc0 3 rfl .nil)) ?_
 refine swl_nn ?_
 refine swp_seq ?_
 refine swp_sr ?_
 refine s_as rfl ?_
 refine swl_sub _ (sc0 0 rfl (sc0 3 rfl (sc0 5 rfl .nil))) ?_
 refine swl_nn ?_
 refine swp_block ?_
 refine swp_loop (ι := Nat) (fun i env L => Sub env [(0, pv p), (3, pv b3), (5, .int .i64 (i : Nat))] ∧ Ent L [blk b3 25 [pvv, .int .i64 c.2], rsH p ⟨q, .slice A1 T.length c1, .slice A2 C.length c2, T, C, dead⟩, ro μ] ∧ i ≤ c.1.length ∧ ∀ y ∈ c.1.take i, decide ((C.length : Int) ≤ y) = false) (fun i => c.1.length - i) 0 ⟨⟨rfl, rfl, rfl, trivial⟩, Split.ent' sp0, Nat.zero_le _, fun y hy => by simp at hy⟩ ?_
 rintro i env L ⟨hsub, hE, hi, hno⟩
 refine swp_sub _ hsub ?_
 refine swp_ent hE ?_
 clear hsub hE env L
 refine swp_seq ?_
 refine swp_sr ?_
 refine s_mv rfl ?_
 refine s_pu (pu_fieldAddr0 rfl) ?_
 refine s_rd (rd_load rfl rfl) ?_
 refine s_pu (pu_len_row h rfl) ?_
 refine s_pu (pu_lss rfl rfl) ?_
 refine swl_sub _ (sc0 0 rfl (sc0 3 rfl (sc0 5 rfl (sc0 10 rfl .nil)))) ?_
 refine swl_nn ?_
 refine swp_cond (b := _) rfl (fun h10 => ?_) (fun h10 => ?_)
 ·skip
  have h10' : i < c.1.length := by have := of_decide_eq_true h10; omega
  obtain ⟨x, hx⟩ : ∃ x, c.1[i]? = some x := ⟨_, List.getElem?_eq_getElem h10'⟩
  obtain ⟨gb, off, cap, hv, hc⟩ := int_at h hx
  refine swp_skip ?_
  refine then_n ?_
  refine swp_seq ?_
  refine swp_block ?_
  refine swp_seq ?_
  refine swp_draw [1, 4, 8] _ [] (by simp only [List.append_nil]; exact Ent.refl _) kr0 ?_
  refine d_pu 0 rfl (pu_fieldAddr0 rfl) kr0 kr0 kr0 ?_
  refine d_rd 1 rfl (rd_load rfl rfl) rfl kr0 kr0 kr0 ?_
  refine d_pu 2 rfl (pu_move rfl) kr0 kr0 kr0 ?_
  refine d_pu 3 rfl (pu_indexAddr (off + i * 1) (congrArg some hv) rfl om0 om0 (by rw [Int.toNat_natCast])) kr0 kr0 kr0 ?_
  refine d_rd 4 rfl (rd_ro rfl hc) rfl kr0 kr0 kr0 ?_
  refine d_pu 5 rfl (pu_move rfl) kr0 kr0 kr0 ?_
  refine d_pu 6 rfl (pu_nilCheck rfl) kr0 kr0 kr0 ?_
  refine d_pu 7 rfl (pu_fieldAddr0 rfl) kr0 kr0 kr0 ?_
  refine d_rd 8 rfl (rd_load rfl rfl) rfl kr0 kr0 kr0 ?_
  refine d_pu 9 rfl (pu_len rfl) kr0 kr0 kr0 ?_
  refine d_pu 10 rfl (pu_geq rfl rfl) kr0 kr0 kr0 ?_
  refine d_sub _ (sc0 0 rfl (sc0 3 rfl (sc0 5 rfl (sc0 23 rfl .nil)))) ?_
  refine d_nilt kr0 ?_
  refine then_n ?_
  refine swp_cond (b := _) rfl (fun h23 => ?_) (fun h23 => ?_)
  ·skip
   refine swp_sr ?_
   refine s_as rfl ?_
   refine swl_sub _ (sc0 4 rfl .nil) ?_
   refine swl_nn ?_
   refine swp_ret ?_
   refine block_r ?_
   refine then_r ?_
   refine then_r ?_
   refine block_r ?_
   refine then_r ?_
   have hk : knownS T.length C.length c = false := by
    rw [knownS_eq, List.any_eq_true.2 ⟨x, List.mem_of_getElem? hx, h23⟩, Bool.not_true, Bool.and_false]
   exact done_ret [rsH p ⟨q, .slice A1 T.length c1, .slice A2 C.length c2, T, C, dead⟩, ro μ] (.tmp rfl .nil) ⟨congrArg Value.bool hk.symm, rfl⟩ sp0
  ·skip
   refine swp_skip ?_
   refine block_n ?_
   refine then_n ?_
   refine swp_region ?_
   refine s_mv rfl ?_
   refine s_pu (pu_add_as ((i + 1 : Nat) : Int) rfl rfl om0 om0 om0) ?_
   refine s_as rfl ?_
   refine swl_sub _ (sc0 0 rfl (sc0 3 rfl (sc0 5 rfl .nil))) ?_
   refine swl_nil ?_
   refine then_n ⟨i + 1, ⟨⟨rfl, rfl, rfl, trivial⟩, Split.ent' sp0, h10', fun y hy => ?_⟩, by omega⟩
   rw [List.take_add_one, hx] at hy
   rcases List.mem_append.1 hy with hy | hy
   ·exact hno y hy
   ·obtain rfl : y = x := by simpa using hy
    exact h23
 ·skip
  have h10' := of_decide_eq_false h10
  obtain rfl : i = c.1.length := by omega
  rw [List.take_length] at hno
  refine swp_exit ?_
  refine then_x ?_
  refine then_x ?_
  refine block_hit rfl ?_
  refine then_n ?_
  refine swp_seq ?_
  refine swp_draw [1, 5] _ [] (by simp only [List.append_nil]; exact Ent.refl _) kr0 ?_
  refine d_pu 0 rfl (pu_fieldAddr0 rfl) kr0 kr0 kr0 ?_
  refine d_rd 1 rfl (rd_load rfl rfl) rfl kr0 kr0 kr0 ?_
  refine d_pu 2 rfl (pu_move rfl) kr0 kr0 kr0 ?_
  refine d_pu 3 rfl (pu_nilCheck rfl) kr0 kr0 kr0 ?_
  refine d_pu 4 rfl (pu_fieldAddr0 rfl) kr0 kr0 kr0 ?_
  refine d_rd 5 rfl (rd_load rfl rfl) rfl kr0 kr0 kr0 ?_
  refine d_pu 6 rfl (pu_len rfl) kr0 kr0 kr0 ?_
  refine d_pu 7 rfl (pu_lss rfl rfl) kr0 kr0 kr0 ?_
  refine d_pu 8 rfl (pu_assign rfl) kr0 kr0 kr0 ?_
  refine d_sub _ (sc0 4 rfl .nil) ?_
  refine d_nilt kr0 ?_
  refine then_n ?_
  refine swp_ret ?_
  have ha : (c.1.any fun p => decide ((C.length : Int) ≤ p)) = false := by
   rw [List.any_eq_false]
   exact fun y hy => by rw [hno y hy]; decide
  have hk : knownS T.length C.length c = decide (c.2 < (T.length : Int)) := by
   rw [knownS_eq, ha, Bool.not_false, Bool.and_true]
  exact done_ret [rsH p ⟨q, .slice A1 T.length c1, .slice A2 C.length c2, T, C, dead⟩, ro μ] (.tmp rfl .nil) ⟨congrArg Value.bool hk.symm, rfl⟩ sp0
set_option maxHeartbeats 4000000 in
theorem rstand_spec (μ : PH) (p : Nat) (W : SW) (hW : W.Ok μ) (f : Fm) (hf : f.2.length ≤ 1073741824) : Spec Tryz.prog 114 [pv p, fmV f] [rsH p W, ttA W, ccA W, ro μ] (fun r L => ∃ W' μ', StandQ μ W f r W' μ' ∧ L = [rsH p W', ttA W', ccA W', ro μ']) := by
 have hW0 := hW
 obtain ⟨⟨A1, c1, e1⟩, ⟨A2, c2, e2⟩, _, _, hT, hC⟩ := hW
 obtain ⟨q, tv, cv, T, C, dead⟩ := W
 dsimp only at e1 e2 hT hC
 subst e1 e2
 have hno : ∀ {r : Value}, stand1 (SW.pl ⟨q, .slice A1 T.length c1, .slice A2 C.length c2, T, C, dead⟩) f = none → r = .bool false → ∀ {μ'}, Le μ μ' → StandQ μ ⟨q, .slice A1 T.length c1, .slice A2 C.length c2, T, C, dead⟩ f r ⟨q, .slice A1 T.length c1, .slice A2 C.length c2, T, C, dead⟩ μ' := fun h1 h2 μ' h3 => ⟨h3, hW0.le h3, rfl, rfl, .inl ⟨h1, h2, rfl⟩⟩
 refine Spec.of 73 Tryz.func114 rfl rfl rfl ?_
 refine swp_sr ?_
 refine s_ef (ef_box rfl rfl) ?_
 intro b3
 refine s_as rfl ?_
 refine swl_sub _ (sc0 0 rfl (sc0 3 rfl .nil)) ?_
 refine swl_nn ?_
 refine swp_seq ?_
 refine swp_sr ?_
 refine s_pu (pu_fieldAddr0 rfl) ?_
 refine s_rd (rd_load rfl rfl) ?_
 refine swl_sub _ (sc0 0 rfl (sc0 3 rfl (sc0 10 rfl .nil))) ?_
 refine swl_nn ?_
 refine swp_block ?_
 refine swp_sr ?_
 refine s_pu (pu_eql rfl rfl) ?_
 refine s_as rfl ?_
 refine swl_sub _ (sc0 0 rfl (sc0 3 rfl (sc0 10 rfl (sc0 11 rfl .nil)))) ?_
 refine swl_nn ?_
 refine swp_cond (b := _) rfl (fun h11 => ?_) (fun h11 => ?_)
 ·skip
  have h11' : f.1 = 1 := by have := of_decide_eq_true h11; omega
  refine swp_sr ?_
  refine s_pu (pu_fieldAddr0 rfl) ?_
  refine s_rd (rd_load rfl rfl) ?_
  refine s_ef (ef_fn (rdec_spec2 f.2 hf) rfl rfl sp0) ?_
  rintro v16 L1 ⟨tv, e, t, rfl, hq, rfl⟩
  refine swl_app ?_
  refine swl_share_own (v := tv) (μ := μ) sp0 fun μ' hle hrow => ?_
  obtain ⟨A3, c3, rfl⟩ := hrow.sl
  refine s_mv rfl ?_
  refine s_pu (pu_extractL rfl) ?_
  refine s_pu (pu_extractL rfl) ?_
  refine s_as rfl ?_
  refine s_as rfl ?_
  refine swl_sub _ (sc0 0 rfl (sc0 5 rfl (sc0 6 rfl .nil))) ?_
  refine swl_nn ?_
  refine swp_seq ?_
  refine swp_sr ?_
  refine s_mv rfl ?_
  refine s_pu (pu_neq rfl rfl) ?_
  refine s_mv rfl ?_
  refine s_split 21 rfl (fun h21 => ?_) (fun h21 => ?_)
  ·skip
   have h21' : e ≠ 0 := by simpa using h21
   have hd : decT f.2 = none := by
    rcases hq with ⟨h, _⟩ | ⟨_, h, _⟩
    ·exact absurd h h21'
    ·exact h
   refine s_off rfl rfl rfl ?_
   refine s_off rfl rfl rfl ?_
   refine s_off rfl rfl rfl ?_
   refine s_off rfl rfl rfl ?_
   refine s_off rfl rfl rfl ?_
   refine s_off rfl rfl rfl ?_
   refine s_pu (pu_pick_t rfl rfl) ?_
   refine swl_sub _ (sc0 0 rfl (sc0 5 rfl (sc0 28 rfl .nil))) ?_
   refine swl_nn ?_
   refine swp_cond (b := _) rfl (fun h28 => ?_) (fun h28 => by cases h28)
   refine swp_sr ?_
   refine s_as rfl ?_
   refine swl_sub _ (sc0 4 rfl .nil) ?_
   refine swl_nn ?_
   refine swp_ret ?_
   refine then_r ?_
   refine block_r ?_
   refine then_r ?_
   exact done_ret [rsH p ⟨q, _, _, T, C, dead⟩, ttA ⟨q, _, _, T, C, dead⟩, ccA ⟨q, _, _, T, C, dead⟩, ro μ'] (.tmp rfl .nil) ⟨_, μ', hno (stand1_tn h11' hd) rfl hle, rfl⟩ sp0
  ·skip
   have h21' : e = 0 := by simpa using h21
   have hd : decT f.2 = some t := by
    rcases hq with ⟨_, h⟩ | ⟨h, _⟩
    ·exact h
    ·exact absurd h21' h
   have hs := stand1_tt (s := SW.pl ⟨q, .slice A1 T.length c1, .slice A2 C.length c2, T, C, dead⟩) h11' hd
   rw [show (SW.pl ⟨q, .slice A1 T.length c1, .slice A2 C.length c2, T, C, dead⟩).1.length = T.length from List.length_map _] at hs
   refine s_on rfl rfl ?_
   refine s_mv rfl ?_
   refine s_on rfl rfl ?_
   refine s_pu (pu_nilCheck rfl) ?_
   refine s_on rfl rfl ?_
   refine s_pu (pu_fieldAddr0 rfl) ?_
   refine s_on rfl rfl ?_
   refine s_rd (rd_load rfl rfl) ?_
   refine s_on rfl rfl ?_
   refine s_pu (pu_len rfl) ?_
   refine s_on rfl rfl ?_
   refine s_pu (pu_geq rfl rfl) ?_
   refine s_pu (pu_pick_f rfl rfl) ?_
   refine swl_sub _ (sc0 0 rfl (sc0 5 rfl (sc0 28 rfl .nil))) ?_
   refine swl_nn ?_
   refine swp_cond (b := _) rfl (fun h28 => ?_) (fun h28 => ?_)
   ·skip
    refine swp_sr ?_
    refine s_as rfl ?_
    refine swl_sub _ (sc0 4 rfl .nil) ?_
    refine swl_nn ?_
    refine swp_ret ?_
    refine then_r ?_
    refine block_r ?_
    refine then_r ?_
    have h28' : 65536 ≤ T.length := by have := of_decide_eq_true h28; omega
    rw [if_pos h28'] at hs
    exact done_ret [rsH p ⟨q, _, _, T, C, dead⟩, ttA ⟨q, _, _, T, C, dead⟩, ccA ⟨q, _, _, T, C, dead⟩, ro μ'] (.tmp rfl .nil) ⟨_, μ', hno hs rfl hle, rfl⟩ sp0
   ·skip
    have h28' : T.length < 65536 := by have := of_decide_eq_false h28; omega
    rw [if_neg om0] at hs
    refine swp_skip ?_
    refine then_n ?_
    refine swp_sr ?_
    refine s_mv rfl ?_
    refine s_mv rfl ?_
    refine s_pu (pu_nilCheck rfl) ?_
    refine s_pu (pu_fieldAddr0 rfl) ?_
    refine s_rd (rd_load rfl rfl) ?_
    refine s_mv rfl ?_
    refine s_ef (ef_bldS (qs := [(0, _)]) rfl rfl rfl) ?_
    intro b35
    refine s_ef (ef_append_lit (l := T.length) (m := 1) rfl rfl sp0 (by simp only [maxLen]; omega) om0) ?_
    rintro v36 -
    refine swl_fact (fun m h => own_form h) fun ⟨A36, c36, hv36⟩ => ?_
    subst hv36
    refine s_pu (pu_nilCheck rfl) ?_
    refine s_pu (pu_fieldAddr0 rfl) ?_
    refine s_ef0 (ef_store rfl rfl rfl) ?_
    refine swl_sub _ .nil ?_
    refine swl_nn ?_
    refine swp_sr ?_
    refine s_as rfl ?_
    refine swl_sub _ (sc0 4 rfl .nil) ?_
    refine swl_nn ?_
    refine swp_ret ?_
    refine block_r ?_
    refine then_r ?_
    refine done_ret [rsH p ⟨q, .slice A36 (T.length + 1) c36, .slice A2 C.length c2, T ++ [(.slice A3 t.length c3, t)], C, dead⟩, own 22 1 (.slice A36 (T.length + 1) c36) (T.length + 1) (T.flatMap tcs ++ [.slice A3 t.length c3]), ccA ⟨q, .slice A36 (T.length + 1) c36, .slice A2 C.length c2, T, C, dead⟩, ro μ'] (.tmp rfl .nil) ⟨⟨q, .slice A36 (T.length + 1) c36, .slice A2 C.length c2, T ++ [(.slice A3 t.length c3, t)], C, dead⟩, μ', ⟨hle, Ok.addT hW0 hle hrow h28', rfl, rfl, .inr ⟨_, hs, rfl, ?_⟩⟩, ?_⟩ sp0
    ·unfold SW.pl; rw [List.map_append]; rfl
    ·simp only [ttA, List.length_append, List.length_singleton, List.flatMap_append]; rfl
 ·skip
  refine swp_sr ?_
  refine s_pu (pu_eql rfl rfl) ?_
  refine s_as rfl ?_
  refine swl_sub _ (sc0 0 rfl (sc0 3 rfl (sc0 39 rfl .nil))) ?_
  refine swl_nn ?_
  refine swp_cond (b := _) rfl (fun h39 => ?_) (fun h39 => ?_)
  ·skip
   have h39' : f.1 = 2 := by have := of_decide_eq_true h39; omega
   refine swp_sr ?_
   refine s_pu (pu_fieldAddr0 rfl) ?_
   refine s_rd (rd_load rfl rfl) ?_
   refine s_ef (ef_fn (rcdec_spec μ f.2 hf) rfl rfl sp0) ?_
   rintro v44 L1 ⟨cv, e, μ', rfl, rfl, hle, hq⟩
   obtain ⟨c, A3, c3, rfl, hrow, hq⟩ := hq.two
   refine swl_app ?_
   refine s_mv rfl ?_
   refine s_pu (pu_extractL rfl) ?_
   refine s_pu (pu_extractL rfl) ?_
   refine s_ef (ef_alloc) ?_
   intro b7
   refine s_ef0 (ef_storeA rfl rfl rfl rfl) ?_
   refine s_as rfl ?_
   refine swl_sub _ (sc0 0 rfl (sc0 7 rfl (sc0 8 rfl .nil))) ?_
   refine swl_nn ?_
   refine swp_seq ?_
   refine swp_sr ?_
   refine s_mv rfl ?_
   refine s_pu (pu_neq rfl rfl) ?_
   refine s_mv rfl ?_
   refine s_split 49 rfl (fun h49 => ?_) (fun h49 => ?_)
   ·skip
    have h49' : e ≠ 0 := by simpa using h49
    have hd : decC f.2 = none := by
     rcases hq with ⟨h, _⟩ | ⟨_, h⟩
     ·exact absurd h h49'
     ·exact h
    refine s_off rfl rfl rfl ?_
    refine s_off rfl rfl rfl ?_
    refine s_off rfl rfl rfl ?_
    refine s_off rfl rfl rfl ?_
    refine s_pu (pu_pick_t rfl rfl) ?_
    refine s_mv rfl ?_
    refine s_split 55 rfl (fun h55 => ?_) (fun h55 => by cases h55)
    refine s_off rfl rfl rfl ?_
    refine s_off rfl rfl rfl ?_
    refine s_off rfl rfl rfl ?_
    refine s_off rfl rfl rfl ?_
    refine s_off rfl rfl rfl ?_
    refine s_off rfl rfl rfl ?_
    refine s_pu (pu_pick_t rfl rfl) ?_
    refine swl_sub _ (sc0 0 rfl (sc0 7 rfl (sc0 62 rfl .nil))) ?_
    refine swl_nn ?_
    refine swp_cond (b := _) rfl (fun h62 => ?_) (fun h62 => by cases h62)
    refine swp_sr ?_
    refine s_as rfl ?_
    refine swl_sub _ (sc0 4 rfl .nil) ?_
    refine swl_nn ?_
    refine swp_ret ?_
    refine then_r ?_
    refine block_r ?_
    refine then_r ?_
    exact done_ret [rsH p ⟨q, .slice A1 T.length c1, .slice A2 C.length c2, T, C, dead⟩, ttA ⟨q, .slice A1 T.length c1, .slice A2 C.length c2, T, C, dead⟩, ccA ⟨q, .slice A1 T.length c1, .slice A2 C.length c2, T, C, dead⟩, ro μ'] (.tmp rfl .nil) ⟨_, μ', hno (stand1_cn h39' hd) rfl hle, rfl⟩ sp0
   ·skip
    have h49' : e = 0 := by simpa using h49
    have hd : decC f.2 = some c := by
     rcases hq with ⟨_, h⟩ | ⟨h, _⟩
     ·exact h
     ·exact absurd h49' h
    have hs := stand1_cc (s := SW.pl ⟨q, .slice A1 T.length c1, .slice A2 C.length c2, T, C, dead⟩) h39' hd
    rw [show (SW.pl ⟨q, .slice A1 T.length c1, .slice A2 C.length c2, T, C, dead⟩).1.length = T.length from List.length_map _, show (SW.pl ⟨q, .slice A1 T.length c1, .slice A2 C.length c2, T, C, dead⟩).2.length = C.length from List.length_map _] at hs
    refine s_on rfl rfl ?_
    refine s_mv rfl ?_
    refine s_on rfl rfl ?_
    refine s_rd (rd_loadW rfl rfl) ?_
    refine s_on rfl rfl ?_
    refine s_ef (ef_fn (rknown_spec μ' p ⟨q, .slice A1 T.length c1, .slice A2 C.length c2, T, C, dead⟩ (hW0.le hle) (.slice A3 c.1.length c3) c hrow) rfl rfl sp0) ?_
    rintro v52 L1 ⟨rfl, rfl⟩
    refine swl_app ?_
    refine s_on rfl rfl ?_
    refine s_pu (pu_not rfl) ?_
    refine s_pu (pu_pick_f rfl rfl) ?_
    refine s_mv rfl ?_
    refine s_split 55 rfl (fun h55 => ?_) (fun h55 => ?_)
    ·skip
     have h55' : knownS T.length C.length c = false := by simpa using h55
     rw [if_pos (.inl h55')] at hs
     refine s_off rfl rfl rfl ?_
     refine s_off rfl rfl rfl ?_
     refine s_off rfl rfl rfl ?_
     refine s_off rfl rfl rfl ?_
     refine s_off rfl rfl rfl ?_
     refine s_off rfl rfl rfl ?_
     refine s_pu (pu_pick_t rfl rfl) ?_
     refine swl_sub _ (sc0 0 rfl (sc0 7 rfl (sc0 62 rfl .nil))) ?_
     refine swl_nn ?_
     refine swp_cond (b := _) rfl (fun h62 => ?_) (fun h62 => by cases h62)
     refine swp_sr ?_
     refine s_as rfl ?_
     refine swl_sub _ (sc0 4 rfl .nil) ?_
     refine swl_nn ?_
     refine swp_ret ?_
     refine then_r ?_
     refine block_r ?_
     refine then_r ?_
     exact done_ret [rsH p ⟨q, .slice A1 T.length c1, .slice A2 C.length c2, T, C, dead⟩, ttA ⟨q, .slice A1 T.length c1, .slice A2 C.length c2, T, C, dead⟩, ccA ⟨q, .slice A1 T.length c1, .slice A2 C.length c2, T, C, dead⟩, ro μ'] (.tmp rfl .nil) ⟨_, μ', hno hs rfl hle, rfl⟩ sp0
    ·skip
     have h55' : knownS T.length C.length c = true := by simpa using h55
     refine s_on rfl rfl ?_
     refine s_mv rfl ?_
     refine s_on rfl rfl ?_
     refine s_pu (pu_nilCheck rfl) ?_
     refine s_on rfl rfl ?_
     refine s_pu (pu_fieldAddr0 rfl) ?_
     refine s_on rfl rfl ?_
     refine s_rd (rd_load rfl rfl) ?_
     refine s_on rfl rfl ?_
     refine s_pu (pu_len rfl) ?_
     refine s_on rfl rfl ?_
     refine s_pu (pu_geq rfl rfl) ?_
     refine s_pu (pu_pick_f rfl rfl) ?_
     refine swl_sub _ (sc0 0 rfl (sc0 7 rfl (sc0 62 rfl .nil))) ?_
     refine swl_nn ?_
     refine swp_cond (b := _) rfl (fun h62 => ?_) (fun h62 => ?_)
     ·skip
      refine swp_sr ?_
      refine s_as rfl ?_
      refine swl_sub _ (sc0 4 rfl .nil) ?_
      refine swl_nn ?_
      refine swp_ret ?_
      refine then_r ?_
      refine block_r ?_
      refine then_r ?_
      have h62' : 65536 ≤ C.length := by have := of_decide_eq_true h62; omega
      rw [if_pos (.inr h62')] at hs
      exact done_ret [rsH p ⟨q, .slice A1 T.length c1, .slice A2 C.length c2, T, C, dead⟩, ttA ⟨q, .slice A1 T.length c1, .slice A2 C.length c2, T, C, dead⟩, ccA ⟨q, .slice A1 T.length c1, .slice A2 C.length c2, T, C, dead⟩, ro μ'] (.tmp rfl .nil) ⟨_, μ', hno hs rfl hle, rfl⟩ sp0
     ·skip
      have h62' : C.length < 65536 := by have := of_decide_eq_false h62; omega
      rw [if_neg (by rintro (k | k); rw [h55'] at k; cases k; omega)] at hs
      refine swp_skip ?_
      refine then_n ?_
      refine swp_seq ?_
      refine swp_draw [4, 5] _ [] (by simp only [List.append_nil]; exact Ent.refl _) kr0 ?_
      refine d_pu 0 rfl (pu_move rfl) kr0 kr0 kr0 ?_
      refine d_pu 1 rfl (pu_move rfl) kr0 kr0 kr0 ?_
      refine d_pu 2 rfl (pu_nilCheck rfl) kr0 kr0 kr0 ?_
      refine d_pu 3 rfl (pu_fieldAddr0 rfl) kr0 kr0 kr0 ?_
      refine d_rd 4 rfl (rd_load rfl rfl) rfl kr0 kr0 kr0 ?_
      refine d_rd 5 rfl (rd_loadW rfl rfl) rfl kr0 kr0 kr0 ?_
      refine d_eft 6 rfl kr0 (ef_bldS (qs := [(0, _)]) rfl rfl rfl) ?_
      intro b69
      refine ⟨_, Split.ent sp0, ?_⟩
      refine d_fint 7 rfl kr0 kr0 (ef_append_lit (l := C.length) (m := 1) rfl rfl sp0 (by simp only [maxLen]; omega) om0) ?_
      rintro v70 -
      refine swd_factf (fun m h => own_form h) fun ⟨A70, c70, hv70⟩ => ?_
      subst hv70
      refine d_pu 8 rfl (pu_nilCheck rfl) kr0 kr0 kr0 ?_
      refine d_pu 9 rfl (pu_fieldAddr0 rfl) kr0 kr0 kr0 ?_
      refine d_fin0f 10 rfl kr0 kr0 (ef_store rfl rfl rfl) ?_
      refine d_sub _ .nil ?_
      refine d_nilf kr0 ?_
      refine then_n ?_
      refine swp_sr ?_
      refine s_as rfl ?_
      refine swl_sub _ (sc0 4 rfl .nil) ?_
      refine swl_nn ?_
      refine swp_ret ?_
      refine block_r ?_
      refine then_r ?_
      refine done_ret [rsH p ⟨q, .slice A1 T.length c1, .slice A70 (C.length + 1) c70, T, C ++ [(.slice A3 c.1.length c3, c)], dead⟩, ttA ⟨q, .slice A1 T.length c1, .slice A2 C.length c2, T, C, dead⟩, own 25 2 (.slice A70 (C.length + 1) c70) (C.length + 1) (C.flatMap ccs ++ [.slice A3 c.1.length c3, .int .i64 c.2]), ro μ'] (.tmp rfl .nil) ⟨⟨q, .slice A1 T.length c1, .slice A70 (C.length + 1) c70, T, C ++ [(.slice A3 c.1.length c3, c)], dead⟩, μ', ⟨hle, Ok.addC hW0 hle hrow h62', rfl, rfl, .inr ⟨_, hs, rfl, ?_⟩⟩, ?_⟩ sp0
      ·unfold SW.pl; rw [List.map_append]; rfl
      ·simp only [ccA, List.length_append, List.length_singleton, List.flatMap_append]; rfl
  ·skip
   refine swp_skip ?_
   refine block_n ?_
   refine then_n ?_
   refine swp_sr ?_
   refine s_as rfl ?_
   refine swl_sub _ (sc0 4 rfl .nil) ?_
   refine swl_nn ?_
   refine swp_ret ?_
   have h11' : f.1 ≠ 1 := by have := of_decide_eq_false h11; omega
   have h39' : f.1 ≠ 2 := by have := of_decide_eq_false h39; omega
   exact done_ret [rsH p ⟨q, .slice A1 T.length c1, .slice A2 C.length c2, T, C, dead⟩, ttA ⟨q, .slice A1 T.length c1, .slice A2 C.length c2, T, C, dead⟩, ccA ⟨q, .slice A1 T.length c1, .slice A2 C.length c2, T, C, dead⟩, ro μ] (.tmp rfl .nil) ⟨_, μ, hno (stand1_no h11' h39') rfl (Le.refl _), rfl⟩ sp0
end SX
namespace SX
open Go Go.Proofs
theorem sort_spec (v : Value) (xs : List ByteArray) (hl : xs.length ≤ 1099511627776) : Spec Tryz.prog 111 [v] [own 9 1 v xs.length (xs.flatMap scsv)] (fun r L => r = .tuple #[] ∧ L = [own 9 1 v xs.length ((srtS xs).flatMap scsv)]) :=
  sort_strs (fun blk off cap ss w => Tryz.slices_Sort_string blk off cap ss w) (fun p cap w => Tryz.slices_Sort_string_none p cap w) v xs hl
theorem srtS_self (xs : List ByteArray) : (srtS xs).Perm xs := by
  unfold srtS
  have := (List.mergeSort_perm (xs.map byL) fun x y => decide (x ≤ y)).map toB
  rw [List.map_map] at this
  have e : (xs.map (toB ∘ byL)) = xs := by
    conv => rhs; rw [← List.map_id xs]
    exact List.map_congr_left fun x _ => toB_byL x
  rwa [e] at this
theorem srtS_perm {xs ys : List ByteArray} (h : xs.Perm ys) : srtS xs = srtS ys :=
  List.Perm.eq_of_pairwise (le := fun a b => strLt b a = false) (fun a b _ _ h1 h2 => by
    rcases strLt_total a b with k | k | k
    · rw [k] at h2; cases h2
    · exact k
    · rw [k] at h1; cases h1) (srtS_pw xs) (srtS_pw ys) ((srtS_self xs).trans (h.trans (srtS_self ys).symm))
def namesD (d : Dk) : List ByteArray := if d.off = true then [] else srtS (d.seen.map (·.1))
set_option maxHeartbeats 4000000 in
theorem names_spec (p : Nat) (d : Dk) (hd : d.Ok) : Spec Tryz.prog 67 [pv p] [FSA p d] (fun r L => L = [own 9 1 r (namesD d).length ((namesD d).flatMap scsv), FSA p d]) := by
 refine FSA.open' fun x hx => ?_
 have hel := hx.seen.len hd.seenOk.nodup
 have hsl := hd.seenLe
 refine Spec.of 30 Tryz.func67 rfl rfl rfl ?_
 refine swp_sr ?_
 refine s_as rfl ?_
 refine swl_sub _ (sc0 0 rfl .nil) ?_
 refine swl_nn ?_
 refine swp_sr ?_
 refine s_as rfl ?_
 refine swl_sub _ (sc0 0 rfl (sc0 3 rfl .nil)) ?_
 refine swl_nn ?_
 refine swp_seq ?_
 refine swp_sr ?_
 refine s_mv rfl ?_
 refine s_pu (pu_ptr_eq_nil rfl rfl) ?_
 refine s_mv rfl ?_
 refine s_split 7 rfl (fun h7 => by cases h7) (fun h7 => ?_)
 refine s_on rfl rfl ?_
 refine s_mv rfl ?_
 refine s_on rfl rfl ?_
 refine s_pu (pu_nilCheck rfl) ?_
 refine s_on rfl rfl ?_
 refine s_pu (pu_fieldAddr0 rfl) ?_
 refine s_on rfl rfl ?_
 refine s_rd (rd_load rfl rfl) ?_
 refine s_pu (pu_pick_f rfl rfl) ?_
 refine swl_sub _ (sc0 0 rfl (sc0 3 rfl (sc0 12 rfl .nil))) ?_
 refine swl_nn ?_
 refine swp_cond (b := _) rfl (fun h12 => ?_) (fun h12 => ?_)
 ·skip
  refine swp_sr ?_
  refine s_mv rfl ?_
  refine s_as rfl ?_
  refine swl_sub _ (sc0 2 rfl .nil) ?_
  refine swl_nn ?_
  refine swp_ret ?_
  refine then_r ?_
  have key : namesD d = [] := by unfold namesD; rw [if_pos h12]
  rw [key]
  refine done_retE [own 9 1 (.slice none 0 0) 0 [], FSA p d] (.tmp rfl .nil) rfl ?_
  exact (((Split.ent' (K := [fsH p d x, mpe x.sb skv x.es x.cs, mpe x.fb skv x.ef x.cf, own 127 3 x.pv x.ps.length (x.ps.flatMap encP), recsA x.rs]) sp0).trans (fs_close hx))).trans own_nil_ent
 ·skip
  refine swp_skip ?_
  refine then_n ?_
  refine swp_seq ?_
  refine swp_sr ?_
  refine s_mv rfl ?_
  refine s_pu (pu_nilCheck rfl) ?_
  refine s_pu (pu_fieldAddr0 rfl) ?_
  refine s_rd (rd_load rfl rfl) ?_
  refine s_ef (ef_range (κ := ByteArray) rfl) ?_
  rintro it
  skip
  refine swl_sub _ (sc0 3 rfl (sc0 18 rfl .nil)) ?_
  refine swl_nn ?_
  refine swp_block ?_
  refine swp_ent (own_nil_ent (e := 9) (n := 1)) ?_
  refine swp_ent (Split.ent' (K := [own 9 1 (.slice none 0 0) 0 [], itA it x.sb x.cs [] x.cs, fsH p d x, mpe x.sb skv x.es x.cs, mpe x.fb skv x.ef x.cf, own 127 3 x.pv x.ps.length (x.ps.flatMap encP), recsA x.rs]) sp0) ?_
  refine swp_loop (ι := Ents ByteArray × Ents ByteArray) (fun k env L => ∃ v, Sub env [(3, v), (18, pv it)] ∧ Ent L [own 9 1 v (k.1.map (·.1)).length ((k.1.map (·.1)).flatMap scsv), itA it x.sb x.cs (k.1.map (·.2.2)) x.cs, fsH p d x, mpe x.sb skv x.es x.cs, mpe x.fb skv x.ef x.cf, own 127 3 x.pv x.ps.length (x.ps.flatMap encP), recsA x.rs] ∧ Going x.es k.1 k.2) (fun k => k.2.length) ([], x.es) ⟨.slice none 0 0, ⟨rfl, rfl, trivial⟩, Ent.refl _, Going.start _⟩ ?_
  rintro ⟨dn, td⟩ env L ⟨v, hsub, hE, hgo⟩
  dsimp only at hsub hE hgo
  refine swp_sub _ hsub ?_
  refine swp_ent hE ?_
  clear hsub hE env L
  have hdl : dn.length ≤ 64 := by have := hgo.length_eq; rw [List.length_append] at this; omega
  refine swp_sr ?_
  refine s_ef (ef_next (κ := ByteArray) rfl sp0 hx.bs.1 (Nat.le_refl _)) ?_
  refine ⟨fun hall => ?_, fun y hy hns => ?_⟩
  ·skip
   refine s_pu (pu_extractL rfl) ?_
   refine swl_sub _ (sc0 3 rfl (sc0 18 rfl (sc0 20 rfl .nil))) ?_
   refine swl_nn ?_
   refine swp_seq ?_
   refine swp_cond (b := _) rfl (fun h20 => by cases h20) (fun h20 => ?_)
   have htd := hgo.stop hx.bs hall
   rw [htd] at hgo
   have hsum : srtS (dn.map (·.1)) = namesD d := by
    unfold namesD
    rw [if_neg (by rw [h12]; decide)]
    refine srtS_perm ?_
    refine List.Perm.trans ?_ (names_perm hx.seen hd.seenOk.nodup)
    refine List.Perm.map _ ?_
    have := hgo; unfold Going at this; rwa [List.append_nil] at this
   refine swp_exit ?_
   refine then_x ?_
   refine then_x ?_
   refine block_hit rfl ?_
   refine then_n ?_
   refine swp_sr ?_
   refine s_mv rfl ?_
   refine s_ef (ef_fn (sort_spec v (dn.map (·.1)) (by rw [List.length_map]; omega)) rfl rfl sp0) ?_
   rintro v28 L1 ⟨rfl, rfl⟩
   refine swl_app ?_
   refine swl_sub _ (sc0 3 rfl .nil) ?_
   refine swl_nn ?_
   refine swp_sr ?_
   refine s_mv rfl ?_
   refine s_as rfl ?_
   refine swl_sub _ (sc0 2 rfl .nil) ?_
   refine swl_nn ?_
   refine swp_ret ?_
   rw [← hsum, srtS_len]
   refine done_retE [own 9 1 v (dn.map (·.1)).length ((srtS (dn.map (·.1))).flatMap scsv), FSA p d] (.tmp rfl .nil) rfl ?_
   refine Ent.trans (Split.ent' (K := [fsH p d x, mpe x.sb skv x.es x.cs, mpe x.fb skv x.ef x.cf, own 127 3 x.pv x.ps.length (x.ps.flatMap encP), recsA x.rs, own 9 1 v (dn.map (·.1)).length ((srtS (dn.map (·.1))).flatMap scsv)]) sp0) ?_
   exact (fs_close hx).trans Ent.swap
  ·skip
   refine s_pu (pu_extractL rfl) ?_
   refine swl_sub _ (sc0 3 rfl (sc0 18 rfl (sc0 20 rfl .nil))) ?_
   refine swl_nn ?_
   refine swp_seq ?_
   refine swp_cond (b := _) rfl (fun h20 => ?_) (fun h20 => by cases h20)
   obtain ⟨td', hgo', hlt⟩ := hgo.step hy hns
   refine swp_skip ?_
   refine then_n ?_
   refine swp_block ?_
   refine swp_sr ?_
   refine s_rd (rd_entry (κ := ByteArray) rfl sp0 hy hx.bs) ?_
   refine s_pu (pu_extractL rfl) ?_
   refine s_as rfl ?_
   refine swl_sub _ (sc0 3 rfl (sc0 4 rfl (sc0 18 rfl .nil))) ?_
   refine swl_nn ?_
   refine swp_region ?_
   refine s_mv rfl ?_
   refine s_mv rfl ?_
   refine s_ef (ef_bldS (qs := [(0, _)]) rfl rfl rfl) ?_
   intro b25
   refine s_ef (ef_append_lit (l := (dn.map (·.1)).length) (m := 1) rfl rfl sp0 (by simp only [maxLen]; rw [List.length_map]; omega) (by rw [List.length_map]; omega)) ?_
   rintro v' hv'
   skip
   refine s_as rfl ?_
   refine swl_sub _ (sc0 3 rfl (sc0 18 rfl .nil)) ?_
   refine swl_nil ?_
   refine block_n ?_
   refine then_n ⟨(dn ++ [y], td'), ⟨v', ⟨rfl, rfl, trivial⟩, ?_, hgo'⟩, by dsimp only; omega⟩
   have e1 : ((dn ++ [y]).map (·.1)).length = (dn.map (·.1)).length + 1 := by simp
   have e2 : ((dn ++ [y]).map (·.1)).flatMap scsv = (dn.map (·.1)).flatMap scsv ++ [.string y.1] := by rw [List.map_append, List.flatMap_append]; rfl
   have e3 : (dn ++ [y]).map (·.2.2) = dn.map (·.2.2) ++ [y.2.2] := by rw [List.map_append]; rfl
   dsimp only
   rw [e1, e2, e3]
   exact Split.ent' sp0
end SX
namespace SX
open Go Go.Proofs
theorem crash_rep {d : Dk} {x : FX} (hd : d.Ok) (hx : Rep d x) {n : Int} {keep : List Int} {ef : Ents ByteArray} {cf b' : Nat} {rs' : List Rc} (hE : NmRel ef (namesAt d n) x.rs) (hB : Born ef cf) (hc : Crs (namesAt d n) keep (ef.map (·.1)) x.rs rs') :
    Rep (crashD d n keep) ⟨b', x.fb, ef, cf, ef, cf, rs', [], .slice none 0 0⟩ := by
  have hno : NmOk d.files.length (namesAt d n) := by rw [namesAt_eq]; exact namesK_ok hd _
  have hE' : NmRel ef (namesAt d n) rs' := hE.to fun y _ => hc.adr _
  have hlen : (crashD d n keep).files.length = d.files.length := by unfold crashD; simp
  refine ⟨hE', hE', hB, hB, by rw [hlen, ← hx.len]; exact hc.len, fun k hk => ?_, rfl, fun i p c hp => by cases hp⟩
  have hk' : ∃ y ∈ namesAt d n, y.2 = k := by
    rcases hk with hk | hk | ⟨c, hc, _⟩
    · exact hk
    · exact hk
    · cases hc
  obtain ⟨y, hy, rfl⟩ := hk'
  have hlt := (hno.good y hy).2
  have hlive : live d y.2 := by
    rw [namesAt_eq] at hy
    rcases namesK_live _ y hy with h | h
    · exact .inr (.inl h)
    · exact .inr (.inr h)
  obtain ⟨r, hr, hf⟩ := hx.fl y.2 hlive
  obtain ⟨r', h1, _, h3, _⟩ := hc.at_ y.2 r hr
  have hfn := findN_of hno.nodup (s := y.1) (k := y.2) hy
  have hin : y.1 ∈ ef.map (·.1) := by
    have := (names_perm hE hno.nodup).mem_iff (a := y.1)
    exact this.2 (List.mem_map.2 ⟨y, hy, rfl⟩)
  refine ⟨r', h1, ?_⟩
  rw [h3 ⟨y.1, hin, hfn⟩, hf]
  unfold Dk.fl crashD
  dsimp only
  rw [List.getElem?_map, List.getElem?_range hlt, Option.map_some, Option.getD_some, if_pos]
  · rfl
  · exact List.any_eq_true.2 ⟨y, hy, by simp⟩
set_option maxHeartbeats 8000000 in
theorem crash_spec (μ : PH) (p : Nat) (d : Dk) (hd : d.Ok) (n : Int) (kv : Value) (keep : List Int) (hk : Row μ kv 1 keep.length (keep.flatMap (icsk .i64))) (hw : Few d) :
  Spec Tryz.prog 60 [pv p, .agg #[.int .i64 n, kv]] [FSA p d, ro μ] (fun _ L => ∃ μ', Le μ μ' ∧ L = [FSA p (crashD d n keep), ro μ']) := by
 refine FSA.open' fun x hx => ?_
 have hpl := hx.ps.1
 have hfw := hw.2
 have hff := hw.1
 have hxl := hx.len
 obtain ⟨KK, hKK⟩ : ∃ K, K = min (max n 0).toNat d.pend.length := ⟨_, rfl⟩
 refine Spec.of 114 Tryz.func60 rfl rfl rfl ?_
 refine swp_sr ?_
 refine s_ef (ef_box rfl rfl) ?_
 intro b3
 refine swl_sub _ (sc0 0 rfl (sc0 3 rfl .nil)) ?_
 refine swl_nn ?_
 refine swp_seq ?_
 refine swp_sr ?_
 refine s_mv rfl ?_
 refine s_pu (pu_ptr_eq_nil rfl rfl) ?_
 refine swl_sub _ (sc0 0 rfl (sc0 3 rfl (sc0 10 rfl .nil))) ?_
 refine swl_nn ?_
 refine swp_cond (b := _) rfl (fun h10 => by cases h10) (fun h10 => ?_)
 refine swp_share_own (e := 127) (n := 3) (v := x.pv) (l := x.ps.length) (xs := x.ps.flatMap encP) (μ := μ) sp0 fun μ2 hle2 hrow => ?_
 have hk2 := hk.le hle2
 obtain ⟨hl0, A, cap, hv, hlc, hcm, hnil, hpos⟩ := hrow
 refine swp_ent (Split.ent' (K := [mpe x.fb skv x.ef x.cf, fsH p d x, mpe x.sb skv x.es x.cs, recsA x.rs, blk b3 63 [.int .i64 n, kv], ro μ2]) sp0) ?_
 refine swp_skip ?_
 refine then_n ?_
 refine swp_seq ?_
 refine swp_seq ?_
 refine swp_draw [3, 5, 10] _ [] (by simp only [List.append_nil]; exact Ent.refl _) kr0 ?_
 refine d_pu 0 rfl (pu_move rfl) kr0 kr0 kr0 ?_
 refine d_pu 1 rfl (pu_nilCheck rfl) kr0 kr0 kr0 ?_
 refine d_pu 2 rfl (pu_fieldAddr0 rfl) kr0 kr0 kr0 ?_
 refine d_rd 3 rfl (rd_load rfl rfl) rfl kr0 kr0 kr0 ?_
 refine d_pu 4 rfl (pu_fieldAddr0 rfl) kr0 kr0 kr0 ?_
 refine d_rd 5 rfl (rd_load rfl rfl) rfl kr0 kr0 kr0 ?_
 refine d_pu 6 rfl (pu_max2 rfl rfl) kr0 kr0 kr0 ?_
 refine d_pu 7 rfl (pu_move rfl) kr0 kr0 kr0 ?_
 refine d_pu 8 rfl (pu_nilCheck rfl) kr0 kr0 kr0 ?_
 refine d_pu 9 rfl (pu_fieldAddr0 rfl) kr0 kr0 kr0 ?_
 refine d_rd 10 rfl (rd_load rfl rfl) rfl kr0 kr0 kr0 ?_
 refine d_pu 11 rfl (pu_len_own ⟨A, cap, hv⟩ rfl) kr0 kr0 kr0 ?_
 refine d_pu 12 rfl (pu_min2 rfl rfl) kr0 kr0 kr0 ?_
 refine d_pu 13 rfl (pu_slice_hi KK (congrArg some hv) rfl (by rw [hKK, hpl]; omega) (by rw [hKK]; omega)) kr0 kr0 kr0 ?_
 refine d_pu 14 rfl (pu_len rfl) kr0 kr0 kr0 ?_
 refine d_pu 15 rfl (pu_move rfl) kr0 kr0 kr0 ?_
 refine d_sub _ (sc0 0 rfl (sc0 3 rfl (sc0 24 rfl (sc0 25 rfl (sc0 26 rfl .nil))))) ?_
 refine d_nilt kr0 ?_
 refine then_n ?_
 refine swp_block ?_
 refine swp_loop (ι := Nat) (fun i env L => Sub env [(0, pv p), (3, pv b3), (24, .slice A KK cap), (25, .int .i64 (KK : Nat)), (26, .int .i64 (i : Nat))] ∧ i ≤ KK ∧ ∃ ef cf, NmRel ef (namesK d i) x.rs ∧ Born ef cf ∧ Ent L [mpe x.fb skv ef cf, fsH p d x, mpe x.sb skv x.es x.cs, recsA x.rs, blk b3 63 [.int .i64 n, kv], ro μ2]) (fun i => KK - i) 0 ⟨⟨rfl, rfl, rfl, rfl, rfl, trivial⟩, Nat.zero_le _, x.ef, x.cf, hx.safe, hx.bf, Ent.refl _⟩ ?_
 rintro i env L ⟨hsub, hi, ef, cf, hE, hB, hEnt⟩
 refine swp_sub _ hsub ?_
 refine swp_ent hEnt ?_
 clear hsub hEnt env L
 refine swp_sr ?_
 refine s_pu (pu_lss rfl rfl) ?_
 refine swl_sub _ (sc0 0 rfl (sc0 3 rfl (sc0 24 rfl (sc0 25 rfl (sc0 26 rfl (sc0 27 rfl .nil)))))) ?_
 refine swl_nn ?_
 refine swp_seq ?_
 refine swp_cond (b := _) rfl (fun h27 => ?_) (fun h27 => ?_)
 ·skip
  have h27' : i < KK := by have := of_decide_eq_true h27; omega
  have hip : i < d.pend.length := by omega
  obtain ⟨b, off, hA, hra⟩ := hpos om0
  subst hA
  obtain ⟨pc, hpc⟩ : ∃ q, x.ps[i]? = some q := ⟨_, List.getElem?_eq_getElem om0⟩
  obtain ⟨cg, hcg⟩ : ∃ q, d.pend[i]? = some q := ⟨_, List.getElem?_eq_getElem hip⟩
  have hpr := hx.ps.2 i pc cg hpc hcg
  have hel := hra.elem (f := encP) (n := 3) (fun _ => rfl) hpc
  obtain ⟨g0, c0, v0⟩ := pc
  obtain ⟨o, rfl⟩ : ∃ o, v0 = .pointer o := by
   have := hpr.2.2
   dsimp only at this
   rw [this]
   split
   ·exact ⟨_, rfl⟩
   ·unfold adr
    split
    ·exact ⟨_, rfl⟩
    ·exact ⟨_, rfl⟩
  have hcome : strEq cg.come nos = false → cg.file < x.rs.length := fun h => by rw [hxl]; exact (hd.pend cg (List.mem_of_getElem? hcg) h).2
  refine swp_skip ?_
  refine then_n ?_
  refine swp_seq ?_
  refine swp_block ?_
  refine swp_sr ?_
  refine s_pu (pu_indexAddr (off + i * 3) rfl rfl om0 om0 (by rw [Int.toNat_natCast])) ?_
  refine s_rd (rd_roA rfl rfl hel) ?_
  refine s_ef (ef_alloc) ?_
  intro b5
  refine s_ef0 (ef_storeA rfl rfl rfl rfl) ?_
  refine swl_sub _ (sc0 0 rfl (sc0 3 rfl (sc0 5 rfl (sc0 24 rfl (sc0 25 rfl (sc0 26 rfl .nil)))))) ?_
  refine swl_nn ?_
  refine swp_draw [0, 4] ([fsH p d x, blk b5 127 [.string g0, .string c0, .pointer o]]) ([mpe x.fb skv ef cf, mpe x.sb skv x.es x.cs, recsA x.rs, blk b3 63 [.int .i64 n, kv], ro μ2]) (Split.ent sp0) kr0 ?_
  refine d_rd 0 rfl (rd_loadW rfl rfl) rfl kr0 kr0 kr0 ?_
  refine d_pu 1 rfl (pu_move rfl) kr0 kr0 kr0 ?_
  refine d_pu 2 rfl (pu_nilCheck rfl) kr0 kr0 kr0 ?_
  refine d_pu 3 rfl (pu_fieldAddr0 rfl) kr0 kr0 kr0 ?_
  refine d_rd 4 rfl (rd_load rfl rfl) rfl kr0 kr0 kr0 ?_
  refine d_fint 5 rfl kr0 kr0 (ef_fn (do_spec x.fb cf ef g0 c0 o) rfl rfl sp0) ?_
  rintro v35 L1 rfl
  refine swd_app ?_
  refine d_sub _ (sc0 0 rfl (sc0 3 rfl (sc0 24 rfl (sc0 25 rfl (sc0 26 rfl .nil))))) ?_
  refine d_nilf kr0 ?_
  refine block_n ?_
  refine then_n ?_
  refine swp_region ?_
  refine s_pu (pu_add_as ((i + 1 : Nat) : Int) rfl rfl om0 om0 om0) ?_
  refine s_mv rfl ?_
  refine swl_sub _ (sc0 0 rfl (sc0 3 rfl (sc0 24 rfl (sc0 25 rfl (sc0 26 rfl .nil))))) ?_
  refine swl_nil ?_
  refine then_n ⟨i + 1, ⟨⟨rfl, rfl, rfl, rfl, rfl, trivial⟩, h27', doE ef cf (g0, c0, .pointer o), doC ef cf (g0, c0, .pointer o), ?_, doE_born hB _, Split.ent' sp0⟩, by omega⟩
  rw [namesK_step hcg]
  exact doE_rel hE (fun y hy => goodN_ne ((namesK_ok hd i).good y hy).1) hpr hcome
 ·skip
  have h27' : i = KK := by have := of_decide_eq_false h27; omega
  subst h27'
  have hEn : NmRel ef (namesAt d n) x.rs := by rw [namesAt_eq, ← hKK]; exact hE
  have hno : NmOk d.files.length (namesAt d n) := by rw [namesAt_eq]; exact namesK_ok hd _
  refine swp_exit ?_
  refine then_x ?_
  refine then_x ?_
  refine block_hit rfl ?_
  refine then_n ?_
  refine swp_seq ?_
  refine swp_sr ?_
  refine s_mv rfl ?_
  refine s_pu (pu_nilCheck rfl) ?_
  refine s_pu (pu_fieldAddr0 rfl) ?_
  refine s_rd (rd_load rfl rfl) ?_
  refine s_ef (ef_range (κ := ByteArray) rfl) ?_
  rintro it
  skip
  refine swl_sub _ (sc0 0 rfl (sc0 3 rfl (sc0 41 rfl .nil))) ?_
  refine swl_nn ?_
  refine swp_block ?_
  refine swp_ent (Split.ent' (K := [itA it x.fb cf [] cf, mpe x.fb skv ef cf, fsH p d x, mpe x.sb skv x.es x.cs, recsA x.rs, blk b3 63 [.int .i64 n, kv], ro μ2]) sp0) ?_
  refine swp_loop (ι := Ents ByteArray × Ents ByteArray) (fun k env L => Sub env [(0, pv p), (3, pv b3), (41, pv it)] ∧ Going ef k.1 k.2 ∧ ∃ rs', Crs (namesAt d n) keep (k.1.map (·.1)) x.rs rs' ∧ Ent L [itA it x.fb cf (k.1.map (·.2.2)) cf, mpe x.fb skv ef cf, fsH p d x, mpe x.sb skv x.es x.cs, recsA rs', blk b3 63 [.int .i64 n, kv], ro μ2]) (fun k => k.2.length) ([], ef) ⟨⟨rfl, rfl, rfl, trivial⟩, Going.start _, x.rs, Crs.start _ _ _, Ent.refl _⟩ ?_
  rintro ⟨dn, td⟩ env L ⟨hsub, hgo, rs', hC, hEnt⟩
  dsimp only at hsub hEnt hgo hC
  refine swp_sub _ hsub ?_
  refine swp_ent hEnt ?_
  clear hsub hEnt env L
  refine swp_sr ?_
  refine s_ef (ef_next (κ := ByteArray) rfl sp0 hB.1 (Nat.le_refl _)) ?_
  refine ⟨fun hall => ?_, fun y hy hns => ?_⟩
  ·skip
   refine s_pu (pu_extractL rfl) ?_
   refine swl_sub _ (sc0 0 rfl (sc0 3 rfl (sc0 41 rfl (sc0 43 rfl .nil)))) ?_
   refine swl_nn ?_
   refine swp_seq ?_
   refine swp_cond (b := _) rfl (fun h43 => by cases h43) (fun h43 => ?_)
   have htd := hgo.stop hB hall
   rw [htd] at hgo
   have hCe : Crs (namesAt d n) keep (ef.map (·.1)) x.rs rs' := hC.perm (by
    have := hgo; unfold Going at this; rw [List.append_nil] at this; exact this.map _)
   refine swp_exit ?_
   refine then_x ?_
   refine then_x ?_
   refine block_hit rfl ?_
   refine then_n ?_
   refine swp_sr ?_
   refine s_mv rfl ?_
   refine s_mv rfl ?_
   refine s_pu (pu_nilCheck rfl) ?_
   refine s_pu (pu_fieldAddr0 rfl) ?_
   refine s_rd (rd_load rfl rfl) ?_
   refine s_ef (ef_fn (mclone_spec x.fb ef cf) rfl rfl sp0) ?_
   rintro v102 L1 ⟨b', rfl, rfl⟩
   refine swl_app ?_
   refine s_pu (pu_nilCheck rfl) ?_
   refine s_pu (pu_fieldAddr0 rfl) ?_
   refine s_ef0 (ef_store rfl rfl rfl) ?_
   refine swl_sub _ (sc0 0 rfl .nil) ?_
   refine swl_nn ?_
   refine swp_region ?_
   refine s_mv rfl ?_
   refine s_mv rfl ?_
   refine s_mv rfl ?_
   refine s_pu (pu_nilCheck rfl) ?_
   refine s_pu (pu_fieldAddr0 rfl) ?_
   refine s_ef0 (ef_store rfl rfl rfl) ?_
   refine s_pu (pu_nilCheck rfl) ?_
   refine s_pu (pu_fieldAddr0 rfl) ?_
   refine s_ef0 (ef_store rfl rfl rfl) ?_
   refine s_pu (pu_nilCheck rfl) ?_
   refine s_pu (pu_fieldAddr0 rfl) ?_
   refine s_ef0 (ef_store rfl rfl rfl) ?_
   refine swl_sub _ .nil ?_
   refine swl_nil ?_
   refine done_endE [FSA p (crashD d n keep), ro μ2] .nil ⟨μ2, hle2, rfl⟩ ?_
   refine Ent.trans (own_nil_ent (e := 127) (n := 3)) ?_
   rw [← hCe.len]
   refine Ent.trans (Split.ent' (K := [blk p 81 (fsC d.quota rs'.length b' x.fb (.slice none 0 0) 0 false), mpe b' skv ef cf, mpe x.fb skv ef cf, own 127 3 (.slice none 0 0) 0 [], recsA rs', ro μ2]) sp0) ?_
   exact fs_close (crash_rep hd hx (b' := b') hEn hB hCe)
  ·skip
   refine s_pu (pu_extractL rfl) ?_
   refine swl_sub _ (sc0 0 rfl (sc0 3 rfl (sc0 41 rfl (sc0 43 rfl .nil)))) ?_
   refine swl_nn ?_
   refine swp_seq ?_
   refine swp_cond (b := _) rfl (fun h43 => ?_) (fun h43 => by cases h43)
   obtain ⟨td', hgo', hlt⟩ := hgo.step hy hns
   have hlk := mlook_of hEn.keys hy
   rw [hEn.look] at hlk
   obtain ⟨k, hfk, hav⟩ := Option.map_eq_some_iff.1 hlk
   have hmem := findN_mem hfk
   obtain ⟨r, hr, hrf⟩ := hx.fl k (by
    rw [namesAt_eq] at hmem
    rcases namesK_live _ _ hmem with h | h
    ·exact .inr (.inl h)
    ·exact .inr (.inr h))
   have hok := Dk.fl_ok hd k
   rw [← hrf] at hok
   obtain ⟨r', hr', hra', hcut, hsl, hle⟩ := hC.now hr hok.2
   have hyv : y.2.1 = pv r'.a := by rw [← hav, adr_at hr, hra']
   have hkf : k < 9223372036854775807 := by have := (hno.good _ hmem).2; omega
   have hmo := moreF_le keep k r'.f hsl
   have hm1 := hok.1
   simp only [mostF] at hm1
   refine swp_skip ?_
   refine then_n ?_
   refine swp_block ?_
   refine swp_sr ?_
   refine s_rd (rd_entry (κ := ByteArray) rfl sp0 hy hB) ?_
   refine s_pu (pu_extractL rfl) ?_
   refine s_as rfl ?_
   refine swl_sub _ (sc0 0 rfl (sc0 3 rfl (sc0 7 rfl (sc0 41 rfl .nil)))) ?_
   refine swl_nn ?_
   refine swp_seq ?_
   rw [hyv]
   refine swp_ent (Split.ent' (K := [recsA rs', itA it x.fb cf (dn.map (·.2.2) ++ [y.2.2]) cf, mpe x.fb skv ef cf, fsH p d x, mpe x.sb skv x.es x.cs, blk b3 63 [.int .i64 n, kv], ro μ2]) sp0) ?_
   refine swp_ent (recs_open' hr' hsl) ?_
   refine swp_fact (fun m h => own_cap h) fun ⟨A', c', hv', hlc', hA'⟩ => ?_
   refine swp_region ?_
   refine s_as rfl ?_
   refine swl_sub _ (sc0 0 rfl (sc0 3 rfl (sc0 7 rfl (sc0 8 rfl (sc0 41 rfl .nil))))) ?_
   refine swl_nn ?_
   refine swp_cut (fun env L => Sub env [(0, pv p), (3, pv b3), (41, pv it), (7, pv r'.a), (8, .int .i64 (moreF keep k r'.f : Nat))] ∧ Ent L [own 5 1 r'.v r'.f.bytes.length (bcs r'.f.bytes), blk r'.a 118 [.int .i64 (k : Nat), r'.v, .int .i64 (r'.f.safe : Nat)], holeA rs' k, itA it x.fb cf (dn.map (·.2.2) ++ [y.2.2]) cf, mpe x.fb skv ef cf, fsH p d x, mpe x.sb skv x.es x.cs, blk b3 63 [.int .i64 n, kv], ro μ2]) ?_ ?_
   ·skip
    refine swp_sr ?_
    refine s_pu (pu_fieldAddr0 rfl) ?_
    refine s_rd (rd_load rfl rfl) ?_
    refine s_pu (pu_len_row hk2 rfl) ?_
    refine s_pu (pu_gtr rfl rfl) ?_
    refine swl_sub _ (sc0 0 rfl (sc0 3 rfl (sc0 7 rfl (sc0 8 rfl (sc0 41 rfl (sc0 49 rfl .nil)))))) ?_
    refine swl_nn ?_
    refine swp_cond (b := _) rfl (fun h49 => ?_) (fun h49 => ?_)
    ·skip
     have h49' : 0 < keep.length := by have := of_decide_eq_true h49; omega
     have hj : k % keep.length < keep.length := Nat.mod_lt _ h49'
     obtain ⟨kb, ko, kc, hkv, hkc, hkm, hkr⟩ := hk2.pos h49'
     have hkj : keep[k % keep.length]? = some keep[k % keep.length] := List.getElem?_eq_getElem hj
     have hkcell := (hkr.elem (f := icsk .i64) (n := 1) (fun _ => rfl) hkj).cell
     refine swp_draw [1, 5, 7, 11, 16, 21] _ [] (by simp only [List.append_nil]; exact Ent.refl _) kr0 ?_
     refine d_pu 0 rfl (pu_fieldAddr0 rfl) kr0 kr0 kr0 ?_
     refine d_rd 1 rfl (rd_load rfl rfl) rfl kr0 kr0 kr0 ?_
     refine d_pu 2 rfl (pu_move rfl) kr0 kr0 kr0 ?_
     refine d_pu 3 rfl (pu_nilCheck rfl) kr0 kr0 kr0 ?_
     refine d_pu 4 rfl (pu_fieldAddr0 rfl) kr0 kr0 kr0 ?_
     refine d_rd 5 rfl (rd_load rfl rfl) rfl kr0 kr0 kr0 ?_
     refine d_pu 6 rfl (pu_fieldAddr0 rfl) kr0 kr0 kr0 ?_
     refine d_rd 7 rfl (rd_load rfl rfl) rfl kr0 kr0 kr0 ?_
     refine d_pu 8 rfl (pu_len_row hk2 rfl) kr0 kr0 kr0 ?_
     refine d_pu 9 rfl (pu_rem_nat rfl rfl h49') kr0 kr0 kr0 ?_
     refine d_pu 10 rfl (pu_indexAddr (ko + (k % keep.length) * 1) (congrArg some hkv) rfl om0 om0 (by rw [Int.toNat_natCast])) kr0 kr0 kr0 ?_
     refine d_rd 11 rfl (rd_ro rfl hkcell) rfl kr0 kr0 kr0 ?_
     refine d_pu 12 rfl (pu_max2 rfl rfl) kr0 kr0 kr0 ?_
     refine d_pu 13 rfl (pu_move rfl) kr0 kr0 kr0 ?_
     refine d_pu 14 rfl (pu_nilCheck rfl) kr0 kr0 kr0 ?_
     refine d_pu 15 rfl (pu_fieldAddr0 rfl) kr0 kr0 kr0 ?_
     refine d_rd 16 rfl (rd_load rfl rfl) rfl kr0 kr0 kr0 ?_
     refine d_pu 17 rfl (pu_len_own ⟨A', c', hv'⟩ rfl) kr0 kr0 kr0 ?_
     refine d_pu 18 rfl (pu_move rfl) kr0 kr0 kr0 ?_
     refine d_pu 19 rfl (pu_nilCheck rfl) kr0 kr0 kr0 ?_
     refine d_pu 20 rfl (pu_fieldAddr0 rfl) kr0 kr0 kr0 ?_
     refine d_rd 21 rfl (rd_load rfl rfl) rfl kr0 kr0 kr0 ?_
     refine d_pu 22 rfl (pu_sub_as ((r'.f.bytes.length : Int) - r'.f.safe) rfl rfl om0 om0 om0) kr0 kr0 kr0 ?_
     refine d_pu 23 rfl (pu_min2 rfl rfl) kr0 kr0 kr0 ?_
     refine d_pu 24 rfl (pu_assign rfl) kr0 kr0 kr0 ?_
     refine d_sub _ (sc0 0 rfl (sc0 3 rfl (sc0 7 rfl (sc0 8 rfl (sc0 41 rfl .nil))))) ?_
     refine d_nilt kr0 ?_
     refine then_n ⟨⟨rfl, rfl, rfl, rfl, ?_, trivial⟩, Split.ent' sp0⟩
     have e1 : ((moreF keep k r'.f : Nat) : Int) = min (max keep[k % keep.length] 0) ((r'.f.bytes.length : Int) - r'.f.safe) := by
      unfold moreF; rw [if_neg om0, hkj, Option.getD_some]; omega
     rw [e1]; rfl
    ·skip
     refine swp_skip ?_
     have h49' : keep.length = 0 := by have := of_decide_eq_false h49; omega
     refine then_n ⟨⟨rfl, rfl, rfl, rfl, ?_, trivial⟩, Split.ent' sp0⟩
     have e1 : moreF keep k r'.f = 0 := by unfold moreF; rw [if_pos h49']
     rw [e1]; rfl
   rintro env L ⟨hsub, hEnt⟩
   refine swp_sub _ hsub ?_
   refine swp_ent hEnt ?_
   clear hsub hEnt env L
   refine swp_seq ?_
   refine swp_draw [4, 8] _ [] (by simp only [List.append_nil]; exact Ent.refl _) kr0 ?_
   refine d_pu 0 rfl (pu_move rfl) kr0 kr0 kr0 ?_
   refine d_pu 1 rfl (pu_move rfl) kr0 kr0 kr0 ?_
   refine d_pu 2 rfl (pu_nilCheck rfl) kr0 kr0 kr0 ?_
   refine d_pu 3 rfl (pu_fieldAddr0 rfl) kr0 kr0 kr0 ?_
   refine d_rd 4 rfl (rd_load rfl rfl) rfl kr0 kr0 kr0 ?_
   refine d_pu 5 rfl (pu_move rfl) kr0 kr0 kr0 ?_
   refine d_pu 6 rfl (pu_nilCheck rfl) kr0 kr0 kr0 ?_
   refine d_pu 7 rfl (pu_fieldAddr0 rfl) kr0 kr0 kr0 ?_
   refine d_rd 8 rfl (rd_load rfl rfl) rfl kr0 kr0 kr0 ?_
   refine d_pu 9 rfl (pu_move rfl) kr0 kr0 kr0 ?_
   refine d_pu 10 rfl (pu_add_as ((r'.f.safe + moreF keep k r'.f : Nat) : Int) rfl rfl om0 om0 om0) kr0 kr0 kr0 ?_
   refine d_pu 11 rfl (pu_slice_hi (r'.f.safe + moreF keep k r'.f) (congrArg some hv') rfl rfl om0) kr0 kr0 kr0 ?_
   refine d_fint 12 rfl kr0 kr0 (ef_fn (bclone_own A' (r'.f.safe + moreF keep k r'.f) r'.f.bytes.length c' c' r'.f.bytes rfl hmo om0 (fun h => by have := hA' h; omega)) rfl rfl (by rw [← hv']; exact sp0)) ?_
   rintro v86 L1 ⟨⟨A2, c2, rfl⟩, rfl⟩
   refine swd_app ?_
   refine d_pu 13 rfl (pu_nilCheck rfl) kr0 kr0 kr0 ?_
   refine d_pu 14 rfl (pu_fieldAddr0 rfl) kr0 kr0 kr0 ?_
   refine d_fin0f 15 rfl kr0 kr0 (ef_store rfl rfl rfl) ?_
   refine d_sub _ (sc0 0 rfl (sc0 3 rfl (sc0 7 rfl (sc0 41 rfl .nil)))) ?_
   refine d_nilf kr0 ?_
   refine then_n ?_
   refine swp_region ?_
   refine s_mv rfl ?_
   refine s_mv rfl ?_
   refine s_pu (pu_nilCheck rfl) ?_
   refine s_pu (pu_fieldAddr0 rfl) ?_
   refine s_rd (rd_load rfl rfl) ?_
   refine s_pu (pu_len rfl) ?_
   refine s_pu (pu_nilCheck rfl) ?_
   refine s_pu (pu_fieldAddr0 rfl) ?_
   refine s_ef0 (ef_store rfl rfl rfl) ?_
   refine swl_sub _ (sc0 0 rfl (sc0 3 rfl (sc0 41 rfl .nil))) ?_
   refine swl_nil ?_
   refine block_n ?_
   refine then_n ⟨(dn ++ [y], td'), ⟨⟨rfl, rfl, rfl, trivial⟩, hgo', rs'.set k ⟨r'.a, .slice A2 (r'.f.safe + moreF keep k r'.f) c2, cutF keep k r'.f⟩, ?_, ?_⟩, by dsimp only; omega⟩
   ·dsimp only
    rw [List.map_append]
    exact hC.step hfk hr hra' hcut
   ·dsimp only
    have e3 : (dn ++ [y]).map (·.2.2) = dn.map (·.2.2) ++ [y.2.2] := by rw [List.map_append]; rfl
    have e4 : (cutF keep k r'.f).bytes.length = r'.f.safe + moreF keep k r'.f := by show (r'.f.bytes.take _).length = _; rw [List.length_take, Nat.min_eq_left hmo]
    rw [e3]
    refine Ent.trans (Split.ent' (K := [own 5 1 (.slice A2 (r'.f.safe + moreF keep k r'.f) c2) (r'.f.safe + moreF keep k r'.f) (bcs (r'.f.bytes.take (r'.f.safe + moreF keep k r'.f))), blk r'.a 118 [.int .i64 (k : Nat), .slice A2 (r'.f.safe + moreF keep k r'.f) c2, .int .i64 (r'.f.safe + moreF keep k r'.f : Nat)], holeA rs' k, itA it x.fb cf (dn.map (·.2.2) ++ [y.2.2]) cf, mpe x.fb skv ef cf, fsH p d x, mpe x.sb skv x.es x.cs, blk b3 63 [.int .i64 n, kv], ro μ2]) sp0) ?_
    have h2 := recs_close' (rs := rs') (i := k) ⟨r'.a, .slice A2 (r'.f.safe + moreF keep k r'.f) c2, cutF keep k r'.f⟩ (List.getElem?_eq_some_iff.1 hr').1 (by show r'.f.safe + moreF keep k r'.f ≤ (cutF keep k r'.f).bytes.length; rw [e4]; exact Nat.le_refl _) (L := [itA it x.fb cf (dn.map (·.2.2) ++ [y.2.2]) cf, mpe x.fb skv ef cf, fsH p d x, mpe x.sb skv x.es x.cs, blk b3 63 [.int .i64 n, kv], ro μ2])
    rw [e4] at h2
    exact Ent.trans h2 (Split.ent' sp0)
end SX
namespace SX
open Go Go.Proofs
set_option maxHeartbeats 8000000 in
theorem damage_spec (p : Nat) (d : Dk) (hd : d.Ok) (s : ByteArray) (n : Int) (t : ByteArray) (ht : t.size ≤ 1048576) : Spec Tryz.prog 31 [pv p, .string s, .int .i64 n, .string t] [FSA p d] (fun r L => r = .int .i64 (damageD d s n t.data.toList).2 ∧ L = [FSA p (damageD d s n t.data.toList).1]) := by
 refine FSA.open' fun x hx => ?_
 obtain ⟨o, e, hve⟩ := find_ptr x.rs d s
 have hfs := find_spec' (p := p) hx hve
 have hul := Dk.used_le hd
 have hq := hd.q
 refine Spec.of 95 Tryz.func31 rfl rfl rfl ?_
 refine swp_sr ?_
 refine s_as rfl ?_
 refine swl_sub _ (sc0 0 rfl (sc0 1 rfl (sc0 2 rfl (sc0 3 rfl .nil)))) ?_
 refine swl_nn ?_
 refine swp_sr ?_
 refine s_mv rfl ?_
 refine s_mv rfl ?_
 refine s_ef (ef_fn hfs rfl rfl sp0) ?_
 rintro v16 L1 ⟨rfl, rfl⟩
 refine swl_app ?_
 refine s_mv rfl ?_
 refine s_pu (pu_extractL rfl) ?_
 refine s_pu (pu_extractL rfl) ?_
 refine s_as rfl ?_
 refine s_as rfl ?_
 refine swl_sub _ (sc0 0 rfl (sc0 2 rfl (sc0 3 rfl (sc0 9 rfl (sc0 10 rfl .nil))))) ?_
 refine swl_nn ?_
 refine swp_seq ?_
 refine swp_sr ?_
 refine s_mv rfl ?_
 refine s_pu (pu_neq rfl rfl) ?_
 refine swl_sub _ (sc0 0 rfl (sc0 2 rfl (sc0 3 rfl (sc0 9 rfl (sc0 10 rfl (sc0 20 rfl .nil)))))) ?_
 refine swl_nn ?_
 refine swp_cond (b := _) rfl (fun h20 => ?_) (fun h20 => ?_)
 ·skip
  refine swp_sr ?_
  refine s_mv rfl ?_
  refine s_as rfl ?_
  refine swl_sub _ (sc0 8 rfl .nil) ?_
  refine swl_nn ?_
  refine swp_ret ?_
  refine then_r ?_
  have h20' : e ≠ 0 := by simpa using h20
  unfold damageD
  rw [find_err hve h20']
  exact done_retE [FSA p d] (.tmp rfl .nil) ⟨rfl, rfl⟩ ((Split.ent' (K := [fsH p d x, mpe x.sb skv x.es x.cs, mpe x.fb skv x.ef x.cf, own 127 3 x.pv x.ps.length (x.ps.flatMap encP), recsA x.rs]) sp0).trans (fs_close hx))
 ·skip
  have h20' : e = 0 := by simpa using h20
  subst h20'
  obtain ⟨k, hk1, hk2, hk3⟩ := find_ok hve
  obtain ⟨r, hr, hf, ha⟩ := hx.find hk1
  rw [ha] at hk2
  rw [hk2]
  have hlen := (Dk.fl_ok hd k).1
  simp only [mostF] at hlen
  rw [← hf] at hlen
  refine swp_ent (Split.ent' (K := [recsA x.rs, fsH p d x, mpe x.sb skv x.es x.cs, mpe x.fb skv x.ef x.cf, own 127 3 x.pv x.ps.length (x.ps.flatMap encP)]) sp0) ?_
  refine swp_ent (recs_open' hr (real_of hd hf)) ?_
  refine swp_fact (fun m h => own_cap h) fun ⟨A, c, hv, hlc, hA⟩ => ?_
  refine swp_skip ?_
  refine then_n ?_
  refine swp_cut (fun env L => Sub env [(0, pv p), (2, .int .i64 n), (3, .string t), (9, pv r.a)] ∧ Ent L [own 5 1 r.v r.f.bytes.length (bcs r.f.bytes), blk r.a 118 [.int .i64 (k : Nat), r.v, .int .i64 (r.f.safe : Nat)], holeA x.rs k, fsH p d x, mpe x.sb skv x.es x.cs, mpe x.fb skv x.ef x.cf, own 127 3 x.pv x.ps.length (x.ps.flatMap encP)] ∧ 0 ≤ n ∧ n ≤ r.f.bytes.length) ?_ ?_
  ·skip
   refine swp_sr ?_
   refine s_mv rfl ?_
   refine s_pu (pu_lss rfl rfl) ?_
   refine s_mv rfl ?_
   refine s_split 24 rfl (fun h24 => ?_) (fun h24 => ?_)
   ·skip
    refine s_off rfl rfl rfl ?_
    refine s_off rfl rfl rfl ?_
    refine s_off rfl rfl rfl ?_
    refine s_off rfl rfl rfl ?_
    refine s_off rfl rfl rfl ?_
    refine s_off rfl rfl rfl ?_
    refine s_off rfl rfl rfl ?_
    refine s_pu (pu_pick_t rfl rfl) ?_
    refine swl_sub _ (sc0 0 rfl (sc0 2 rfl (sc0 3 rfl (sc0 9 rfl (sc0 32 rfl .nil))))) ?_
    refine swl_nn ?_
    refine swp_cond (b := _) rfl (fun h32 => ?_) (fun h32 => by cases h32)
    refine swp_sr ?_
    refine s_as rfl ?_
    refine swl_sub _ (sc0 8 rfl .nil) ?_
    refine swl_nn ?_
    refine swp_ret ?_
    refine then_r ?_
    have h24' := of_decide_eq_true h24
    have key : damageD d s n t.data.toList = (d, 1) := by unfold damageD; rw [hk3, if_pos (.inl om0)]
    rw [key]
    refine done_retE [FSA p d] (.tmp rfl .nil) ⟨rfl, rfl⟩ ?_
    refine Ent.trans (Split.ent' (K := [own 5 1 r.v r.f.bytes.length (bcs r.f.bytes), blk r.a 118 [.int .i64 (k : Nat), r.v, .int .i64 (r.f.safe : Nat)], holeA x.rs k, fsH p d x, mpe x.sb skv x.es x.cs, mpe x.fb skv x.ef x.cf, own 127 3 x.pv x.ps.length (x.ps.flatMap encP)]) sp0) ?_
    exact (recs_back' hr (real_of hd hf)).trans ((Split.ent' (K := [fsH p d x, mpe x.sb skv x.es x.cs, mpe x.fb skv x.ef x.cf, own 127 3 x.pv x.ps.length (x.ps.flatMap encP), recsA x.rs]) sp0).trans (fs_close hx))
   ·skip
    refine s_on rfl rfl ?_
    refine s_mv rfl ?_
    refine s_on rfl rfl ?_
    refine s_mv rfl ?_
    refine s_on rfl rfl ?_
    refine s_pu (pu_nilCheck rfl) ?_
    refine s_on rfl rfl ?_
    refine s_pu (pu_fieldAddr0 rfl) ?_
    refine s_on rfl rfl ?_
    refine s_rd (rd_load rfl rfl) ?_
    refine s_on rfl rfl ?_
    refine s_pu (pu_len_own ⟨A, c, hv⟩ rfl) ?_
    refine s_on rfl rfl ?_
    refine s_pu (pu_gtr rfl rfl) ?_
    refine s_pu (pu_pick_f rfl rfl) ?_
    refine swl_sub _ (sc0 0 rfl (sc0 2 rfl (sc0 3 rfl (sc0 9 rfl (sc0 32 rfl .nil))))) ?_
    refine swl_nn ?_
    refine swp_cond (b := _) rfl (fun h32 => ?_) (fun h32 => ?_)
    ·skip
     refine swp_sr ?_
     refine s_as rfl ?_
     refine swl_sub _ (sc0 8 rfl .nil) ?_
     refine swl_nn ?_
     refine swp_ret ?_
     refine then_r ?_
     have h32' := of_decide_eq_true h32
     have key : damageD d s n t.data.toList = (d, 1) := by unfold damageD; rw [hk3, if_pos (.inr (by rw [← hf]; exact h32'))]
     rw [key]
     refine done_retE [FSA p d] (.tmp rfl .nil) ⟨rfl, rfl⟩ ?_
     refine Ent.trans (Split.ent' (K := [own 5 1 r.v r.f.bytes.length (bcs r.f.bytes), blk r.a 118 [.int .i64 (k : Nat), r.v, .int .i64 (r.f.safe : Nat)], holeA x.rs k, fsH p d x, mpe x.sb skv x.es x.cs, mpe x.fb skv x.ef x.cf, own 127 3 x.pv x.ps.length (x.ps.flatMap encP)]) sp0) ?_
     exact (recs_back' hr (real_of hd hf)).trans ((Split.ent' (K := [fsH p d x, mpe x.sb skv x.es x.cs, mpe x.fb skv x.ef x.cf, own 127 3 x.pv x.ps.length (x.ps.flatMap encP), recsA x.rs]) sp0).trans (fs_close hx))
    ·skip
     refine swp_skip ?_
     exact then_n ⟨⟨rfl, rfl, rfl, rfl, trivial⟩, Split.ent' sp0, by have := of_decide_eq_false h24; omega, by have := of_decide_eq_false h32; omega⟩
  rintro env L ⟨hsub, hE, h1, h2⟩
  refine swp_sub _ hsub ?_
  refine swp_ent hE ?_
  clear hsub hE env L
  obtain ⟨m, rfl⟩ : ∃ m : Nat, n = (m : Int) := ⟨n.toNat, by omega⟩
  have h2' : m ≤ r.f.bytes.length := by omega
  have hbt := bsize t
  refine swp_cut (fun env L => Sub env [(2, .int .i64 (m : Nat)), (3, .string t), (9, pv r.a)] ∧ Ent L [own 5 1 r.v r.f.bytes.length (bcs r.f.bytes), blk r.a 118 [.int .i64 (k : Nat), r.v, .int .i64 (r.f.safe : Nat)], holeA x.rs k, fsH p d x, mpe x.sb skv x.es x.cs, mpe x.fb skv x.ef x.cf, own 127 3 x.pv x.ps.length (x.ps.flatMap encP)] ∧ ¬ (0 < (t.data.toList.length : Int) - (r.f.bytes.length - m) ∧ d.quota < (d.used : Int) + ((t.data.toList.length : Int) - (r.f.bytes.length - m)))) ?_ ?_
  ·skip
   refine swp_sr ?_
   refine s_mv rfl ?_
   refine s_pu (pu_strlen rfl) ?_
   refine s_mv rfl ?_
   refine s_pu (pu_nilCheck rfl) ?_
   refine s_pu (pu_fieldAddr0 rfl) ?_
   refine s_rd (rd_load rfl rfl) ?_
   refine s_pu (pu_len_own ⟨A, c, hv⟩ rfl) ?_
   refine s_mv rfl ?_
   refine s_pu (pu_sub_as ((r.f.bytes.length : Int) - m) rfl rfl om0 om0 om0) ?_
   refine s_pu (pu_sub_as ((t.size : Int) - ((r.f.bytes.length : Int) - m)) rfl rfl om0 om0 om0) ?_
   refine s_as rfl ?_
   refine swl_sub _ (sc0 0 rfl (sc0 2 rfl (sc0 3 rfl (sc0 9 rfl (sc0 11 rfl .nil))))) ?_
   refine swl_nn ?_
   refine swp_seq ?_
   refine swp_ent (Split.ent' (K := [own 5 1 r.v r.f.bytes.length (bcs r.f.bytes), blk r.a 118 [.int .i64 (k : Nat), r.v, .int .i64 (r.f.safe : Nat)], holeA x.rs k, fsH p d x, mpe x.sb skv x.es x.cs, mpe x.fb skv x.ef x.cf, own 127 3 x.pv x.ps.length (x.ps.flatMap encP)]) sp0) ?_
   refine swp_ent (recs_back' hr (real_of hd hf)) ?_
   refine swp_draw [10] ([fsH p d x]) ([recsA x.rs, mpe x.sb skv x.es x.cs, mpe x.fb skv x.ef x.cf, own 127 3 x.pv x.ps.length (x.ps.flatMap encP)]) (Split.ent sp0) kr0 ?_
   refine d_pu 0 rfl (pu_move rfl) kr0 kr0 kr0 ?_
   refine d_pu 1 rfl (pu_gtr rfl rfl) kr0 kr0 kr0 ?_
   refine d_pu 2 rfl (pu_move rfl) kr0 kr0 kr0 ?_
   refine d_split 45 rfl (fun h45 => ?_) (fun h45 => ?_)
   ·skip
    refine d_pu_on 3 rfl rfl rfl (pu_move rfl) kr0 kr0 kr0 ?_
    refine d_pu_on 5 rfl rfl rfl (pu_move rfl) kr0 kr0 kr0 ?_
    refine d_pu_on 7 rfl rfl rfl (pu_move rfl) kr0 kr0 kr0 ?_
    refine d_pu_on 8 rfl rfl rfl (pu_nilCheck rfl) kr0 kr0 kr0 ?_
    refine d_pu_on 9 rfl rfl rfl (pu_fieldAddr0 rfl) kr0 kr0 kr0 ?_
    refine d_rd_on 10 rfl rfl rfl (rd_load rfl rfl) rfl kr0 kr0 kr0 ?_
    refine d_amb [4] kr0 rfl ?_
    refine dA_ef 4 rfl (GOn.some rfl rfl) (ef_fn (used_spec p d hd x hx) rfl rfl sp0) ?_
    rintro v47 L1 ⟨rfl, rfl⟩
    refine ⟨_, ent_appC (Split.ent sp0), ?_⟩
    refine d_pu_on 6 rfl rfl rfl (pu_add_as ((d.used : Int) + ((t.size : Int) - ((r.f.bytes.length : Int) - m))) rfl rfl om0 om0 om0) kr0 kr0 kr0 ?_
    refine d_pu_on 11 rfl rfl rfl (pu_gtr rfl rfl) kr0 kr0 kr0 ?_
    refine d_pu 12 rfl (pu_pick_t rfl rfl) kr0 kr0 kr0 ?_
    refine d_sub _ (sc0 2 rfl (sc0 3 rfl (sc0 9 rfl (sc0 55 rfl .nil)))) ?_
    refine d_nilt kr0 ?_
    refine then_n ?_
    refine swp_cond (b := _) rfl (fun h55 => ?_) (fun h55 => ?_)
    ·skip
     refine swp_sr ?_
     refine s_as rfl ?_
     refine swl_sub _ (sc0 8 rfl .nil) ?_
     refine swl_nn ?_
     refine swp_ret ?_
     refine then_r ?_
     have h45' := of_decide_eq_true h45
     have h55' := of_decide_eq_true h55
     have key : damageD d s m t.data.toList = (d, 7) := by
      unfold damageD
      rw [hk3, if_neg (by rw [← hf]; omega), if_pos (by rw [← hf, hbt]; exact ⟨by omega, by omega⟩)]
     rw [key]
     exact done_retE [FSA p d] (.tmp rfl .nil) ⟨rfl, rfl⟩ ((Split.ent' (K := [fsH p d x, mpe x.sb skv x.es x.cs, mpe x.fb skv x.ef x.cf, own 127 3 x.pv x.ps.length (x.ps.flatMap encP), recsA x.rs]) sp0).trans (fs_close hx))
    ·skip
     refine swp_skip ?_
     refine then_n ⟨⟨rfl, rfl, rfl, trivial⟩, ?_, ?_⟩
     ·refine Ent.trans (Split.ent' (K := [recsA x.rs, fsH p d x, mpe x.sb skv x.es x.cs, mpe x.fb skv x.ef x.cf, own 127 3 x.pv x.ps.length (x.ps.flatMap encP)]) sp0) ?_
      exact recs_open' hr (real_of hd hf)
     ·rw [hbt]
      first
       | (have h55' := of_decide_eq_false h55; rintro ⟨_, h2⟩; omega)
       | (have h45' := of_decide_eq_false h45; rintro ⟨h1, _⟩; omega)
   ·skip
    refine d_off 3 rfl rfl rfl rfl kr0 kr0 kr0 ?_
    refine d_off 4 rfl rfl rfl rfl kr0 kr0 kr0 ?_
    refine d_off 5 rfl rfl rfl rfl kr0 kr0 kr0 ?_
    refine d_off 6 rfl rfl rfl rfl kr0 kr0 kr0 ?_
    refine d_off 7 rfl rfl rfl rfl kr0 kr0 kr0 ?_
    refine d_off 8 rfl rfl rfl rfl kr0 kr0 kr0 ?_
    refine d_off 9 rfl rfl rfl rfl kr0 kr0 kr0 ?_
    refine d_off 10 rfl rfl rfl rfl kr0 kr0 kr0 ?_
    refine d_off 11 rfl rfl rfl rfl kr0 kr0 kr0 ?_
    refine d_pu 12 rfl (pu_pick_f rfl rfl) kr0 kr0 kr0 ?_
    refine d_sub _ (sc0 2 rfl (sc0 3 rfl (sc0 9 rfl (sc0 55 rfl .nil)))) ?_
    refine d_nilt kr0 ?_
    refine then_n ?_
    refine swp_cond (b := _) rfl (fun h55 => by cases h55) (fun h55 => ?_)
    refine swp_skip ?_
    refine then_n ⟨⟨rfl, rfl, rfl, trivial⟩, ?_, ?_⟩
    ·refine Ent.trans (Split.ent' (K := [recsA x.rs, fsH p d x, mpe x.sb skv x.es x.cs, mpe x.fb skv x.ef x.cf, own 127 3 x.pv x.ps.length (x.ps.flatMap encP)]) sp0) ?_
     exact recs_open' hr (real_of hd hf)
    ·rw [hbt]
     first
      | (have h55' := of_decide_eq_false h55; rintro ⟨_, h2⟩; omega)
      | (have h45' := of_decide_eq_false h45; rintro ⟨h1, _⟩; omega)
  rintro env L ⟨hsub, hE, h3⟩
  refine swp_sub _ hsub ?_
  refine swp_ent hE ?_
  clear hsub hE env L
  have key : damageD d s m t.data.toList = (d.setF k ⟨r.f.bytes.take m ++ t.data.toList ++ r.f.bytes.drop (m + t.data.toList.length), (r.f.bytes.take m ++ t.data.toList ++ r.f.bytes.drop (m + t.data.toList.length)).length⟩, 0) := by
   unfold damageD
   rw [hk3, if_neg (by rw [← hf]; omega), if_neg (by rw [← hf]; exact h3), ← hf, Int.toNat_natCast]
  refine swp_sr ?_
  refine s_mv rfl ?_
  refine s_pu (pu_nilCheck rfl) ?_
  refine s_pu (pu_fieldAddr0 rfl) ?_
  refine s_rd (rd_load rfl rfl) ?_
  refine s_mv rfl ?_
  refine s_pu (pu_slice_hi m (congrArg some hv) rfl rfl om0) ?_
  refine s_ef (ef_fn (bclone_own A m r.f.bytes.length c c r.f.bytes rfl h2' om0 (fun h => by have := hA h; omega)) rfl rfl (by rw [← hv]; exact sp0)) ?_
  rintro v62 L1 ⟨⟨A2, c2, rfl⟩, rfl⟩
  refine swl_app ?_
  refine s_mv rfl ?_
  refine s_ef (ef_append_str rfl rfl sp0 om0) ?_
  rintro A3 c3
  rw [← hv]
  refine s_as rfl ?_
  refine swl_sub _ (sc0 2 rfl (sc0 3 rfl (sc0 9 rfl (sc0 12 rfl .nil)))) ?_
  refine swl_nn ?_
  refine swp_cut (fun env L => ∃ A4 c4 l4, l4 = (r.f.bytes.take m ++ t.data.toList ++ r.f.bytes.drop (m + t.data.toList.length)).length ∧ Sub env [(9, pv r.a), (12, .slice A4 l4 c4)] ∧ Ent L [own 5 1 (.slice A4 l4 c4) l4 (bcs (r.f.bytes.take m ++ t.data.toList ++ r.f.bytes.drop (m + t.data.toList.length))), blk r.a 118 [.int .i64 (k : Nat), r.v, .int .i64 (r.f.safe : Nat)], holeA x.rs k, fsH p d x, mpe x.sb skv x.es x.cs, mpe x.fb skv x.ef x.cf, own 127 3 x.pv x.ps.length (x.ps.flatMap encP)]) ?_ ?_
  ·skip
   refine swp_sr ?_
   refine s_mv rfl ?_
   refine s_mv rfl ?_
   refine s_pu (pu_strlen rfl) ?_
   refine s_pu (pu_add_as ((m + t.size : Nat) : Int) rfl rfl om0 om0 om0) ?_
   refine s_mv rfl ?_
   refine s_pu (pu_nilCheck rfl) ?_
   refine s_pu (pu_fieldAddr0 rfl) ?_
   refine s_rd (rd_load rfl rfl) ?_
   refine s_pu (pu_len_own ⟨A, c, hv⟩ rfl) ?_
   refine s_pu (pu_lss rfl rfl) ?_
   refine swl_sub _ (sc0 2 rfl (sc0 3 rfl (sc0 9 rfl (sc0 12 rfl (sc0 74 rfl .nil))))) ?_
   refine swl_nn ?_
   refine swp_cond (b := _) rfl (fun h74 => ?_) (fun h74 => ?_)
   ·skip
    have h74' : m + t.size < r.f.bytes.length := by have := of_decide_eq_true h74; omega
    refine swp_ent (Split.ent' (K := [own 5 1 r.v r.f.bytes.length (bcs r.f.bytes), own 5 1 (.slice A3 (m + t.size) c3) (m + t.size) (bcs (r.f.bytes.take m) ++ bcs t.data.toList), blk r.a 118 [.int .i64 (k : Nat), r.v, .int .i64 (r.f.safe : Nat)], holeA x.rs k, fsH p d x, mpe x.sb skv x.es x.cs, mpe x.fb skv x.ef x.cf, own 127 3 x.pv x.ps.length (x.ps.flatMap encP)]) sp0) ?_
    refine swp_own (fun a1 a2 a3 => absurd a2 om0) (fun gb cap ex a1 a2 a3 a4 a5 => ?_)
    obtain ⟨rfl, _, rfl⟩ := Value.slice.inj (hv.symm.trans a1)
    have hso : (if c = m + t.size then 0 else 0 + (m + t.size) * 1) = m + t.size := by rw [if_neg om0]; omega
    have hnl : (bcs (r.f.bytes.drop (m + t.size))).length = (r.f.bytes.length - (m + t.size)) * 1 := by rw [bcs_len, List.length_drop]; omega
    have hnews : ∀ (j : Nat) (u : Value), (bcs (r.f.bytes.drop (m + t.size)))[j]? = some u → (bcs r.f.bytes ++ ex)[(if c = m + t.size then 0 else 0 + (m + t.size) * 1) + j]? = some u := fun j u hj => by
     rw [hso]
     rw [bcs_map, List.map_drop, List.getElem?_drop] at hj
     rw [bcs_map, List.getElem?_append_left (List.getElem?_eq_some_iff.1 hj).1]; exact hj
    refine swp_region ?_
    refine s_mv rfl ?_
    refine s_mv rfl ?_
    refine s_pu (pu_nilCheck rfl) ?_
    refine s_pu (pu_fieldAddr0 rfl) ?_
    refine s_rd (rd_load rfl rfl) ?_
    refine s_mv rfl ?_
    refine s_mv rfl ?_
    refine s_pu (pu_strlen rfl) ?_
    refine s_pu (pu_add_as ((m + t.size : Nat) : Int) rfl rfl om0 om0 om0) ?_
    refine s_pu (pu_slice_lo (m + t.size) (congrArg some hv) rfl rfl om0) ?_
    refine s_ef (ef_append_of (news := bcs (r.f.bytes.drop (m + t.size))) rfl rfl sp0 hnl hnews (bcs_one _) (by simp only [maxLen]; omega) om0) ?_
    rintro v85 hv85
    obtain ⟨g5, c5, rfl⟩ := hv85 om0
    refine s_as rfl ?_
    refine swl_sub _ (sc0 9 rfl (sc0 12 rfl .nil)) ?_
    refine swl_nil ?_
    refine then_n ⟨some ⟨g5, 0, none⟩, c5, m + t.size + (r.f.bytes.length - (m + t.size)), ?_, ⟨rfl, rfl, trivial⟩, ?_⟩
    ·rw [List.length_append, List.length_append, List.length_take, List.length_drop, hbt]; omega
    ·rw [bcs_append, bcs_append, hbt]
     exact Split.ent' sp0
   ·skip
    refine swp_skip ?_
    have h74' : r.f.bytes.length ≤ m + t.size := by have := of_decide_eq_false h74; omega
    refine then_n ⟨A3, c3, m + t.size, ?_, ⟨rfl, rfl, trivial⟩, ?_⟩
    ·rw [List.length_append, List.length_append, List.length_take, List.length_drop, hbt]; omega
    ·rw [hbt, List.drop_of_length_le h74', List.append_nil, bcs_append]
     exact Split.ent' sp0
  rintro env L ⟨A4, c4, l4, hl4, hsub, hE⟩
  refine swp_sub _ hsub ?_
  refine swp_ent hE ?_
  clear hsub hE env L
  refine swp_sr ?_
  refine s_mv rfl ?_
  refine s_mv rfl ?_
  refine s_mv rfl ?_
  refine s_mv rfl ?_
  refine s_pu (pu_len rfl) ?_
  refine s_pu (pu_nilCheck rfl) ?_
  refine s_pu (pu_fieldAddr0 rfl) ?_
  refine s_ef0 (ef_store rfl rfl rfl) ?_
  refine s_pu (pu_nilCheck rfl) ?_
  refine s_pu (pu_fieldAddr0 rfl) ?_
  refine s_ef0 (ef_store rfl rfl rfl) ?_
  refine swl_sub _ .nil ?_
  refine swl_nn ?_
  refine swp_sr ?_
  refine s_as rfl ?_
  refine swl_sub _ (sc0 8 rfl .nil) ?_
  refine swl_nn ?_
  refine swp_ret ?_
  rw [key]
  refine done_retE [FSA p (d.setF k ⟨r.f.bytes.take m ++ t.data.toList ++ r.f.bytes.drop (m + t.data.toList.length), (r.f.bytes.take m ++ t.data.toList ++ r.f.bytes.drop (m + t.data.toList.length)).length⟩)] (.tmp rfl .nil) ⟨rfl, rfl⟩ ?_
  refine Ent.trans (Split.ent' (K := [own 5 1 (.slice A4 l4 c4) l4 (bcs (r.f.bytes.take m ++ t.data.toList ++ r.f.bytes.drop (m + t.data.toList.length))), blk r.a 118 [.int .i64 (k : Nat), .slice A4 l4 c4, .int .i64 (l4 : Nat)], holeA x.rs k, fsH p d x, mpe x.sb skv x.es x.cs, mpe x.fb skv x.ef x.cf, own 127 3 x.pv x.ps.length (x.ps.flatMap encP)]) sp0) ?_
  generalize r.f.bytes.take m ++ t.data.toList ++ r.f.bytes.drop (m + t.data.toList.length) = B at hl4
  subst hl4
  exact fs_set hx hr (r' := ⟨r.a, .slice A4 B.length c4, ⟨B, B.length⟩⟩) rfl (Nat.le_refl _)
end SX
namespace SX
open Go Go.Proofs
/-! ## the document's first example -/
abbrev sa : ByteArray := ⟨#[97]⟩
abbrev hel : List UInt8 := [104, 101, 108, 108, 111]
end SX
namespace SX
open Go Go.Proofs
/-! ## the document's disk -/
abbrev rF1 (f : Fl) : List Value := [.string ⟨f.bytes.toArray⟩, .int .i64 (f.safe : Nat)]
abbrev rN1 (x : Nm) : List Value := [.string x.1, .int .i64 (x.2 : Nat)]
abbrev rC1 (c : Cg) : List Value := [.string c.gone, .string c.come, .int .i64 (c.file : Nat)]
structure RX where
  fv : Value
  sv : Value
  av : Value
  wv : Value
abbrev rdC (q : Int) (fv sv av wv : Value) (fa : Int) (off : Bool) : List Value := [.int .i64 q, fv, sv, av, wv, .int .i64 fa, .bool off]
abbrev rdH (p : Nat) (d : Dk) (x : RX) : Assn := blk p 92 (rdC d.quota x.fv x.sv x.av x.wv d.falls d.off)
def RDA (p : Nat) (d : Dk) : Assn := exA fun x : RX => [rdH p d x, own 96 2 x.fv d.files.length (d.files.flatMap rF1), own 138 2 x.sv d.seen.length (d.seen.flatMap rN1), own 138 2 x.av d.safe.length (d.safe.flatMap rN1), own 99 3 x.wv d.pend.length (d.pend.flatMap rC1)]
theorem rd_close {p : Nat} {d : Dk} {x : RX} {L : List Assn} : Ent (rdH p d x :: own 96 2 x.fv d.files.length (d.files.flatMap rF1) :: own 138 2 x.sv d.seen.length (d.seen.flatMap rN1) :: own 138 2 x.av d.safe.length (d.safe.flatMap rN1) :: own 99 3 x.wv d.pend.length (d.pend.flatMap rC1) :: L) (RDA p d :: L) :=
  ent_ex (F := fun x : RX => [rdH p d x, own 96 2 x.fv d.files.length (d.files.flatMap rF1), own 138 2 x.sv d.seen.length (d.seen.flatMap rN1), own 138 2 x.av d.safe.length (d.safe.flatMap rN1), own 99 3 x.wv d.pend.length (d.pend.flatMap rC1)]) x sp0
theorem RDA.open' {p : Nat} {d : Dk} {f : FuncId} {args : List Value} {L : List Assn} {post : Value → List Assn → Prop}
    (h : ∀ x : RX, Spec Tryz.prog f args (rdH p d x :: own 96 2 x.fv d.files.length (d.files.flatMap rF1) :: own 138 2 x.sv d.seen.length (d.seen.flatMap rN1) :: own 138 2 x.av d.safe.length (d.safe.flatMap rN1) :: own 99 3 x.wv d.pend.length (d.pend.flatMap rC1) :: L) post) : Spec Tryz.prog f args (RDA p d :: L) post := Spec.exA' fun x => h x
theorem rgood_spec (s : ByteArray) : Spec Tryz.prog 40 [.string s] [] (fun r L => r = .bool (goodN s) ∧ L = []) := by
 have hb := bsize s
 refine Spec.of 28 Tryz.func40 rfl rfl rfl ?_
 refine swp_sr ?_
 refine s_as rfl ?_
 refine swl_sub _ (sc0 0 rfl .nil) ?_
 refine swl_nn ?_
 refine swp_seq ?_
 refine swp_sr ?_
 refine s_mv rfl ?_
 refine s_pu (pu_strlen rfl) ?_
 refine s_pu (pu_lss rfl rfl) ?_
 refine s_mv rfl ?_
 refine s_split 7 rfl (fun h7 => ?_) (fun h7 => ?_)
 ·skip
  refine s_off rfl rfl rfl ?_
  refine s_off rfl rfl rfl ?_
  refine s_off rfl rfl rfl ?_
  refine s_pu (pu_pick_t rfl rfl) ?_
  refine swl_sub _ (sc0 0 rfl (sc0 11 rfl .nil)) ?_
  refine swl_nn ?_
  refine swp_cond (b := _) rfl (fun h11 => ?_) (fun h11 => by cases h11)
  refine swp_sr ?_
  refine s_as rfl ?_
  refine swl_sub _ (sc0 2 rfl .nil) ?_
  refine swl_nn ?_
  refine swp_ret ?_
  refine then_r ?_
  refine done_ret [] (.tmp rfl .nil) ⟨?_, rfl⟩ sp0
  have h7' := of_decide_eq_true h7
  unfold goodN
  rw [decide_eq_false (show ¬ 1 ≤ s.size by omega)]; rfl
 ·skip
  refine s_on rfl rfl ?_
  refine s_mv rfl ?_
  refine s_on rfl rfl ?_
  refine s_pu (pu_strlen rfl) ?_
  refine s_on rfl rfl ?_
  refine s_pu (pu_gtr rfl rfl) ?_
  refine s_pu (pu_pick_f rfl rfl) ?_
  refine swl_sub _ (sc0 0 rfl (sc0 11 rfl .nil)) ?_
  refine swl_nn ?_
  refine swp_cond (b := _) rfl (fun h11 => ?_) (fun h11 => ?_)
  ·skip
   refine swp_sr ?_
   refine s_as rfl ?_
   refine swl_sub _ (sc0 2 rfl .nil) ?_
   refine swl_nn ?_
   refine swp_ret ?_
   refine then_r ?_
   refine done_ret [] (.tmp rfl .nil) ⟨?_, rfl⟩ sp0
   have h11' := of_decide_eq_true h11
   unfold goodN
   rw [decide_eq_false (show ¬ s.size ≤ 32 by omega), Bool.false_and, Bool.and_false]; rfl
  ·skip
   have h7' : 1 ≤ s.size := by have := of_decide_eq_false h7; omega
   have h11' : s.size ≤ 32 := by have := of_decide_eq_false h11; omega
   have key : goodN s = s.data.toList.all fun b => decide (33 ≤ b.toNat) && decide (b.toNat ≤ 126) := by
    unfold goodN; rw [decide_eq_true h7', decide_eq_true h11']; rfl
   refine swp_skip ?_
   refine then_n ?_
   refine swp_seq ?_
   refine swp_sr ?_
   refine s_as rfl ?_
   refine swl_sub _ (sc0 0 rfl (sc0 3 rfl .nil)) ?_
   refine swl_nn ?_
   refine swp_block ?_
   refine swp_loop (ι := Nat) (fun i env L => Sub env [(0, .string s), (3, .int .i64 (i : Nat))] ∧ Ent L [] ∧ i ≤ s.size ∧ (s.data.toList.take i).all (fun b => decide (33 ≤ b.toNat) && decide (b.toNat ≤ 126)) = true) (fun i => s.size - i) 0 ⟨⟨rfl, rfl, trivial⟩, Split.ent' sp0, Nat.zero_le _, rfl⟩ ?_
   rintro i env L ⟨hsub, hE, hi, hall⟩
   refine swp_sub _ hsub ?_
   refine swp_ent hE ?_
   clear hsub hE env L
   refine swp_seq ?_
   refine swp_sr ?_
   refine s_mv rfl ?_
   refine s_mv rfl ?_
   refine s_pu (pu_strlen rfl) ?_
   refine s_pu (pu_lss rfl rfl) ?_
   refine swl_sub _ (sc0 0 rfl (sc0 3 rfl (sc0 15 rfl .nil))) ?_
   refine swl_nn ?_
   refine swp_cond (b := _) rfl (fun h15 => ?_) (fun h15 => ?_)
   ·skip
    have h15' : i < s.size := by have := of_decide_eq_true h15; omega
    obtain ⟨b, hbb⟩ : ∃ b, s.data.toList[i]? = some b := ⟨_, List.getElem?_eq_getElem om0⟩
    have hstep : (s.data.toList.take (i + 1)).all (fun b => decide (33 ≤ b.toNat) && decide (b.toNat ≤ 126)) = (decide (33 ≤ b.toNat) && decide (b.toNat ≤ 126)) := by
     rw [List.take_add_one, hbb, List.all_append, hall]; simp
    refine swp_skip ?_
    refine then_n ?_
    refine swp_seq ?_
    refine swp_block ?_
    refine swp_sr ?_
    refine s_mv rfl ?_
    refine s_mv rfl ?_
    refine s_pu (pu_str_index rfl rfl rfl hbb) ?_
    refine s_pu (pu_lss rfl rfl) ?_
    refine s_mv rfl ?_
    refine s_split 22 rfl (fun h22 => ?_) (fun h22 => ?_)
    ·skip
     refine s_off rfl rfl rfl ?_
     refine s_off rfl rfl rfl ?_
     refine s_off rfl rfl rfl ?_
     refine s_off rfl rfl rfl ?_
     refine s_pu (pu_pick_t rfl rfl) ?_
     refine swl_sub _ (sc0 0 rfl (sc0 3 rfl (sc0 27 rfl .nil))) ?_
     refine swl_nn ?_
     refine swp_cond (b := _) rfl (fun h27 => ?_) (fun h27 => by cases h27)
     refine swp_sr ?_
     refine s_as rfl ?_
     refine swl_sub _ (sc0 2 rfl .nil) ?_
     refine swl_nn ?_
     refine swp_ret ?_
     refine block_r ?_
     refine then_r ?_
     refine then_r ?_
     refine block_r ?_
     refine then_r ?_
     refine done_ret [] (.tmp rfl .nil) ⟨?_, rfl⟩ sp0
     rw [key]
     refine congrArg Value.bool ?_
     symm
     refine Bool.eq_false_iff.2 fun hh => ?_
     have := List.all_eq_true.1 hh b (List.mem_of_getElem? hbb)
     rw [Bool.and_eq_true, decide_eq_true_eq, decide_eq_true_eq] at this
     first
      | (have h22' := of_decide_eq_true h22; omega)
      | (have h27' := of_decide_eq_true h27; omega)
    ·skip
     refine s_on rfl rfl ?_
     refine s_mv rfl ?_
     refine s_on rfl rfl ?_
     refine s_mv rfl ?_
     refine s_on rfl rfl ?_
     refine s_pu (pu_str_index rfl rfl rfl hbb) ?_
     refine s_on rfl rfl ?_
     refine s_pu (pu_gtr rfl rfl) ?_
     refine s_pu (pu_pick_f rfl rfl) ?_
     refine swl_sub _ (sc0 0 rfl (sc0 3 rfl (sc0 27 rfl .nil))) ?_
     refine swl_nn ?_
     refine swp_cond (b := _) rfl (fun h27 => ?_) (fun h27 => ?_)
     ·skip
      refine swp_sr ?_
      refine s_as rfl ?_
      refine swl_sub _ (sc0 2 rfl .nil) ?_
      refine swl_nn ?_
      refine swp_ret ?_
      refine block_r ?_
      refine then_r ?_
      refine then_r ?_
      refine block_r ?_
      refine then_r ?_
      refine done_ret [] (.tmp rfl .nil) ⟨?_, rfl⟩ sp0
      rw [key]
      refine congrArg Value.bool ?_
      symm
      refine Bool.eq_false_iff.2 fun hh => ?_
      have := List.all_eq_true.1 hh b (List.mem_of_getElem? hbb)
      rw [Bool.and_eq_true, decide_eq_true_eq, decide_eq_true_eq] at this
      first
       | (have h22' := of_decide_eq_true h22; omega)
       | (have h27' := of_decide_eq_true h27; omega)
     ·skip
      refine swp_skip ?_
      refine block_n ?_
      refine then_n ?_
      refine swp_region ?_
      refine s_mv rfl ?_
      refine s_pu (pu_add_as ((i + 1 : Nat) : Int) rfl rfl om0 om0 om0) ?_
      refine s_as rfl ?_
      refine swl_sub _ (sc0 0 rfl (sc0 3 rfl .nil)) ?_
      refine swl_nil ?_
      have h22' := of_decide_eq_false h22
      have h27' := of_decide_eq_false h27
      refine then_n ⟨i + 1, ⟨⟨rfl, rfl, trivial⟩, Split.ent' sp0, h15', ?_⟩, by omega⟩
      rw [hstep, decide_eq_true (show 33 ≤ b.toNat by omega), decide_eq_true (show b.toNat ≤ 126 by omega)]; rfl
   ·skip
    have h15' : i = s.size := by have := of_decide_eq_false h15; omega
    rw [h15', ← hb, List.take_length] at hall
    refine swp_exit ?_
    refine then_x ?_
    refine then_x ?_
    refine block_hit rfl ?_
    refine then_n ?_
    refine swp_sr ?_
    refine s_as rfl ?_
    refine swl_sub _ (sc0 2 rfl .nil) ?_
    refine swl_nn ?_
    refine swp_ret ?_
    refine done_ret [] (.tmp rfl .nil) ⟨by rw [key, hall]; rfl, rfl⟩ sp0
theorem rfind_spec (v : Value) (l : List Nm) (s : ByteArray) (_ : l.length ≤ 1048576) : Spec Tryz.prog 41 [v, .string s] [own 138 2 v l.length (l.flatMap rN1)]
  (fun r L => (∃ i : Int, r = .int .i64 i ∧ ((i < 0 ∧ findN l s = none) ∨ ∃ (k : Nat) (y : Nm), i = (k : Int) ∧ l[k]? = some y ∧ findN l s = some y.2)) ∧ L = [own 138 2 v l.length (l.flatMap rN1)]) := by
 refine Spec.fact' (fun m h => own_cap2 h) fun ⟨A, c, hv, hlc, hcm, hA, hA2⟩ => ?_
 simp only [maxLen] at hcm
 subst hv
 refine Spec.of 20 Tryz.func41 rfl rfl rfl ?_
 refine swp_sr ?_
 refine s_as rfl ?_
 refine swl_sub _ (sc0 0 rfl (sc0 1 rfl .nil)) ?_
 refine swl_nn ?_
 refine swp_seq ?_
 refine swp_sr ?_
 refine s_as rfl ?_
 refine swl_sub _ (sc0 0 rfl (sc0 1 rfl (sc0 5 rfl .nil))) ?_
 refine swl_nn ?_
 refine swp_block ?_
 refine swp_loop (ι := Nat) (fun i env L => Sub env [(0, .slice A l.length c), (1, .string s), (5, .int .i64 (i : Nat))] ∧ Ent L [own 138 2 (.slice A l.length c) l.length (l.flatMap rN1)] ∧ i ≤ l.length ∧ findN (l.take i) s = none) (fun i => l.length - i) 0 ⟨⟨rfl, rfl, rfl, trivial⟩, Split.ent' sp0, Nat.zero_le _, rfl⟩ ?_
 rintro i env L ⟨hsub, hE, hi, hn⟩
 refine swp_sub _ hsub ?_
 refine swp_ent hE ?_
 clear hsub hE env L
 refine swp_seq ?_
 refine swp_sr ?_
 refine s_mv rfl ?_
 refine s_mv rfl ?_
 refine s_pu (pu_len rfl) ?_
 refine s_pu (pu_lss rfl rfl) ?_
 refine swl_sub _ (sc0 0 rfl (sc0 1 rfl (sc0 5 rfl (sc0 9 rfl .nil)))) ?_
 refine swl_nn ?_
 refine swp_cond (b := _) rfl (fun h9 => ?_) (fun h9 => ?_)
 ·skip
  have h9' : i < l.length := by have := of_decide_eq_true h9; omega
  obtain ⟨a, ha⟩ : ∃ a, A = some a := by cases A with | none => have := hA rfl; omega | some a => exact ⟨a, rfl⟩
  obtain ⟨b, rfl⟩ := hA2 a ha
  subst ha
  obtain ⟨y, hy⟩ : ∃ y, l[i]? = some y := ⟨_, List.getElem?_eq_getElem h9'⟩
  have hcell := flat_at (f := rN1) (n := 2) (fun _ => rfl) hy 0 _ rfl
  have hdrop : l.drop i = y :: l.drop (i + 1) := by rw [List.drop_eq_getElem_cons h9', (List.getElem?_eq_some_iff.1 hy).2]
  refine swp_skip ?_
  refine then_n ?_
  refine swp_seq ?_
  refine swp_block ?_
  refine swp_sr ?_
  refine s_mv rfl ?_
  refine s_mv rfl ?_
  refine s_pu (pu_indexAddr (0 + i * 2) rfl rfl om0 om0 (by rw [Int.toNat_natCast])) ?_
  refine s_pu (pu_fieldAddr rfl) ?_
  refine s_rd (rd_own rfl tk0 (by rw [Nat.zero_add]; exact hcell)) ?_
  refine s_mv rfl ?_
  refine s_pu (pu_str_eql rfl rfl) ?_
  refine swl_sub _ (sc0 0 rfl (sc0 1 rfl (sc0 5 rfl (sc0 18 rfl .nil)))) ?_
  refine swl_nn ?_
  refine swp_cond (b := _) rfl (fun h18 => ?_) (fun h18 => ?_)
  ·skip
   refine swp_sr ?_
   refine s_mv rfl ?_
   refine s_as rfl ?_
   refine swl_sub _ (sc0 4 rfl .nil) ?_
   refine swl_nn ?_
   refine swp_ret ?_
   refine block_r ?_
   refine then_r ?_
   refine then_r ?_
   refine block_r ?_
   refine then_r ?_
   refine done_ret [own 138 2 (.slice (some ⟨b, 0, none⟩) l.length c) l.length (l.flatMap rN1)] (.tmp rfl .nil) ⟨⟨i, rfl, .inr ⟨i, y, rfl, hy, ?_⟩⟩, rfl⟩ sp0
   rw [← List.take_append_drop i l, find_app, hn, hdrop, findN_cons, if_pos h18]; rfl
  ·skip
   refine swp_skip ?_
   refine block_n ?_
   refine then_n ?_
   refine swp_region ?_
   refine s_mv rfl ?_
   refine s_pu (pu_add_as ((i + 1 : Nat) : Int) rfl rfl om0 om0 om0) ?_
   refine s_as rfl ?_
   refine swl_sub _ (sc0 0 rfl (sc0 1 rfl (sc0 5 rfl .nil))) ?_
   refine swl_nil ?_
   refine then_n ⟨i + 1, ⟨⟨rfl, rfl, rfl, trivial⟩, Split.ent' sp0, h9', ?_⟩, by omega⟩
   rw [List.take_add_one, hy, find_app, hn]
   show findN [y] s = none
   rw [findN_cons, if_neg (by rw [h18]; decide)]; rfl
 ·skip
  have h9' : i = l.length := by have := of_decide_eq_false h9; omega
  rw [h9', List.take_length] at hn
  refine swp_exit ?_
  refine then_x ?_
  refine then_x ?_
  refine block_hit rfl ?_
  refine then_n ?_
  refine swp_sr ?_
  refine s_as rfl ?_
  refine swl_sub _ (sc0 4 rfl .nil) ?_
  refine swl_nn ?_
  refine swp_ret ?_
  exact done_ret [own 138 2 (.slice A l.length c) l.length (l.flatMap rN1)] (.tmp rfl .nil) ⟨⟨-1, rfl, .inl ⟨by omega, hn⟩⟩, rfl⟩ sp0
end SX
namespace SX
open Go Go.Proofs
/-- what the number of a name's file is, or the error -/
def FileR (d : Dk) (s : ByteArray) (k e : Int) : Prop := (e ≠ 0 ∧ readD d s = ([], e) ∧ ∀ f, onFile d s f = (d, e)) ∨ (e = 0 ∧ ∃ j : Nat, k = (j : Int) ∧ findN d.seen s = some j ∧ readD d s = ((d.fl j).bytes, 0) ∧ ∀ f, onFile d s f = f j)
theorem rfile_spec (p : Nat) (d : Dk) (hd : d.Ok) (x : RX) (s : ByteArray) : Spec Tryz.prog 72 [pv p, .string s] [rdH p d x, own 138 2 x.sv d.seen.length (d.seen.flatMap rN1)] (fun r L => (∃ k e, r = .tuple #[.int .i64 k, .int .i64 e] ∧ FileR d s k e) ∧ L = [rdH p d x, own 138 2 x.sv d.seen.length (d.seen.flatMap rN1)]) := by
 have hsl := hd.seenLe
 refine Spec.pre (pre := [own 138 2 x.sv d.seen.length (d.seen.flatMap rN1), rdH p d x]) ?_ Ent.swap
 refine Spec.fact' (fun m h => own_cap2 h) fun ⟨A, c, hv, hlc, hcm, hA, hA2⟩ => ?_
 simp only [maxLen] at hcm
 refine Spec.of 27 Tryz.func72 rfl rfl rfl ?_
 refine swp_sr ?_
 refine s_as rfl ?_
 refine s_as rfl ?_
 refine swl_sub _ (sc0 0 rfl (sc0 1 rfl .nil)) ?_
 refine swl_nn ?_
 refine swp_seq ?_
 refine swp_sr ?_
 refine s_mv rfl ?_
 refine s_pu (pu_nilCheck rfl) ?_
 refine s_pu (pu_fieldAddr0 rfl) ?_
 refine s_rd (rd_load rfl rfl) ?_
 refine swl_sub _ (sc0 0 rfl (sc0 1 rfl (sc0 10 rfl .nil))) ?_
 refine swl_nn ?_
 refine swp_cond (b := _) rfl (fun h10 => ?_) (fun h10 => ?_)
 ·skip
  refine swp_sr ?_
  refine s_as rfl ?_
  refine s_as rfl ?_
  refine swl_sub _ (sc0 4 rfl (sc0 5 rfl .nil)) ?_
  refine swl_nn ?_
  refine swp_ret ?_
  refine then_r ?_
  refine done_ret [rdH p d x, own 138 2 x.sv d.seen.length (d.seen.flatMap rN1)] (.tmp rfl (.tmp rfl .nil)) ⟨⟨0, 8, rfl, .inl ⟨by decide, ?_, fun f => ?_⟩⟩, rfl⟩ sp0
  ·unfold readD; rw [if_pos h10]
  ·unfold onFile; rw [if_pos h10]
 ·skip
  have hoff : ¬ d.off = true := by rw [h10]; decide
  refine swp_skip ?_
  refine then_n ?_
  refine swp_sr ?_
  refine s_mv rfl ?_
  refine s_pu (pu_nilCheck rfl) ?_
  refine s_pu (pu_fieldAddr0 rfl) ?_
  refine s_rd (rd_load rfl rfl) ?_
  refine s_mv rfl ?_
  refine s_ef (ef_fn (rfind_spec x.sv d.seen s om0) rfl rfl sp0) ?_
  rintro v16 L1 ⟨⟨i, rfl, hi⟩, rfl⟩
  refine swl_app ?_
  refine s_as rfl ?_
  refine swl_sub _ (sc0 0 rfl (sc0 6 rfl .nil)) ?_
  refine swl_nn ?_
  refine swp_seq ?_
  refine swp_sr ?_
  refine s_mv rfl ?_
  refine s_pu (pu_lss rfl rfl) ?_
  refine swl_sub _ (sc0 0 rfl (sc0 6 rfl (sc0 18 rfl .nil))) ?_
  refine swl_nn ?_
  refine swp_cond (b := _) rfl (fun h18 => ?_) (fun h18 => ?_)
  ·skip
   refine swp_sr ?_
   refine s_as rfl ?_
   refine s_as rfl ?_
   refine swl_sub _ (sc0 4 rfl (sc0 5 rfl .nil)) ?_
   refine swl_nn ?_
   refine swp_ret ?_
   refine then_r ?_
   have h18' := of_decide_eq_true h18
   have hf : findN d.seen s = none := by
    rcases hi with ⟨_, h⟩ | ⟨k, y, h, _⟩
    ·exact h
    ·omega
   refine done_ret [rdH p d x, own 138 2 x.sv d.seen.length (d.seen.flatMap rN1)] (.tmp rfl (.tmp rfl .nil)) ⟨⟨0, 6, rfl, .inl ⟨by decide, ?_, fun f => ?_⟩⟩, rfl⟩ sp0
   ·unfold readD; rw [if_neg hoff, hf]
   ·unfold onFile; rw [if_neg hoff, hf]
  ·skip
   have h18' := of_decide_eq_false h18
   obtain ⟨k, y, rfl, hy, hf⟩ : ∃ (k : Nat) (y : Nm), i = (k : Int) ∧ d.seen[k]? = some y ∧ findN d.seen s = some y.2 := by
    rcases hi with ⟨h, _⟩ | h
    ·omega
    ·exact h
   have hk : k < d.seen.length := (List.getElem?_eq_some_iff.1 hy).1
   obtain ⟨a, ha⟩ : ∃ a, A = some a := by cases A with | none => have := hA rfl; omega | some a => exact ⟨a, rfl⟩
   obtain ⟨b, rfl⟩ := hA2 a ha
   subst ha
   have hcell := flat_at (f := rN1) (n := 2) (fun _ => rfl) hy 1 _ rfl
   rw [hv]
   refine swp_skip ?_
   refine then_n ?_
   refine swp_sr ?_
   refine s_mv rfl ?_
   refine s_pu (pu_nilCheck rfl) ?_
   refine s_pu (pu_fieldAddr0 rfl) ?_
   refine s_rd (rd_load rfl rfl) ?_
   refine s_mv rfl ?_
   refine s_pu (pu_indexAddr (0 + k * 2) (congrArg some hv) rfl om0 om0 (by rw [Int.toNat_natCast])) ?_
   refine s_pu (pu_fieldAddr rfl) ?_
   refine s_rd (rd_own rfl tk0 (by rw [Nat.zero_add]; exact hcell)) ?_
   refine s_as rfl ?_
   refine s_as rfl ?_
   refine swl_sub _ (sc0 4 rfl (sc0 5 rfl .nil)) ?_
   refine swl_nn ?_
   refine swp_ret ?_
   rw [← hv]
   refine done_ret [rdH p d x, own 138 2 x.sv d.seen.length (d.seen.flatMap rN1)] (.tmp rfl (.tmp rfl .nil)) ⟨⟨y.2, 0, rfl, .inr ⟨rfl, y.2, rfl, hf, ?_, fun f => ?_⟩⟩, rfl⟩ sp0
   ·unfold readD; rw [if_neg hoff, hf]
   ·unfold onFile; rw [if_neg hoff, hf]
theorem rstep_spec (p : Nat) (q : Int) (fv sv av wv : Value) (fa : Int) (off : Bool) (h0 : 0 ≤ fa ∧ fa ≤ 9223372036854775807) : Spec Tryz.prog 42 [pv p] [blk p 92 (rdC q fv sv av wv fa off)]
  (fun r L => (fa = 1 ∧ r = .int .i64 8 ∧ L = [blk p 92 (rdC q fv sv av wv 0 true)]) ∨ (fa ≠ 1 ∧ r = .int .i64 0 ∧ L = [blk p 92 (rdC q fv sv av wv (if 0 < fa then fa - 1 else fa) off)])) := by
 refine Spec.of 23 Tryz.func42 rfl rfl rfl ?_
 refine swp_sr ?_
 refine s_as rfl ?_
 refine swl_sub _ (sc0 0 rfl .nil) ?_
 refine swl_nn ?_
 refine swp_seq ?_
 refine swp_sr ?_
 refine s_mv rfl ?_
 refine s_pu (pu_nilCheck rfl) ?_
 refine s_pu (pu_fieldAddr0 rfl) ?_
 refine s_rd (rd_load rfl rfl) ?_
 refine s_pu (pu_gtr rfl rfl) ?_
 refine swl_sub _ (sc0 0 rfl (sc0 7 rfl .nil)) ?_
 refine swl_nn ?_
 refine swp_cond (b := _) rfl (fun h7 => ?_) (fun h7 => ?_)
 ·skip
  have h7' : 0 < fa := by have := of_decide_eq_true h7; omega
  refine swp_sr ?_
  refine s_mv rfl ?_
  refine s_pu (pu_nilCheck rfl) ?_
  refine s_pu (pu_fieldAddr0 rfl) ?_
  refine s_rd (rd_load rfl rfl) ?_
  refine s_pu (pu_sub_in rfl rfl om0 om0) ?_
  refine s_pu (pu_nilCheck rfl) ?_
  refine s_pu (pu_fieldAddr0 rfl) ?_
  refine s_ef0 (ef_store rfl rfl rfl) ?_
  refine swl_sub _ (sc0 0 rfl .nil) ?_
  refine swl_nn ?_
  refine swp_sr ?_
  refine s_mv rfl ?_
  refine s_pu (pu_nilCheck rfl) ?_
  refine s_pu (pu_fieldAddr0 rfl) ?_
  refine s_rd (rd_load rfl rfl) ?_
  refine s_pu (pu_eql rfl rfl) ?_
  refine swl_sub _ (sc0 0 rfl (sc0 19 rfl .nil)) ?_
  refine swl_nn ?_
  refine swp_cond (b := _) rfl (fun h19 => ?_) (fun h19 => ?_)
  ·skip
   have h19' : fa = 1 := by have := of_decide_eq_true h19; omega
   refine swp_sr ?_
   refine s_mv rfl ?_
   refine s_pu (pu_nilCheck rfl) ?_
   refine s_pu (pu_fieldAddr0 rfl) ?_
   refine s_ef0 (ef_store rfl rfl rfl) ?_
   refine swl_sub _ .nil ?_
   refine swl_nn ?_
   refine swp_sr ?_
   refine s_as rfl ?_
   refine swl_sub _ (sc0 2 rfl .nil) ?_
   refine swl_nn ?_
   refine swp_ret ?_
   refine then_r ?_
   refine done_retE [blk p 92 (rdC q fv sv av wv 0 true)] (.tmp rfl .nil) (.inl ⟨h19', rfl, rfl⟩) ?_
   rw [show fa - 1 = 0 by omega]; exact Ent.refl _
  ·skip
   refine swp_skip ?_
   refine then_n ?_
   refine swp_sr ?_
   refine s_as rfl ?_
   refine swl_sub _ (sc0 2 rfl .nil) ?_
   refine swl_nn ?_
   refine swp_ret ?_
   have h19' : fa ≠ 1 := by have := of_decide_eq_false h19; omega
   refine done_ret [blk p 92 (rdC q fv sv av wv (if 0 < fa then fa - 1 else fa) off)] (.tmp rfl .nil) (.inr ⟨h19', rfl, rfl⟩) (R := []) ?_
   rw [if_pos h7']; exact sp0
 ·skip
  refine swp_skip ?_
  refine then_n ?_
  refine swp_sr ?_
  refine s_as rfl ?_
  refine swl_sub _ (sc0 2 rfl .nil) ?_
  refine swl_nn ?_
  refine swp_ret ?_
  have h7' : ¬ 0 < fa := by have := of_decide_eq_false h7; omega
  refine done_ret [blk p 92 (rdC q fv sv av wv (if 0 < fa then fa - 1 else fa) off)] (.tmp rfl .nil) (.inr ⟨by omega, rfl, rfl⟩) (R := []) ?_
  rw [if_neg h7']; exact sp0
set_option maxHeartbeats 2000000 in
theorem changed_spec (v : Value) (l : List Nm) (hl : l.length ≤ 1048576) (c : Cg) : Spec Tryz.prog 88 [v, .agg (rC1 c).toArray] [own 138 2 v l.length (l.flatMap rN1)]
  (fun r L => (∃ A c', r = .slice A (chgN l c).length c') ∧ L = [own 138 2 r (chgN l c).length ((chgN l c).flatMap rN1), own 138 2 v l.length (l.flatMap rN1)]) := by
 refine Spec.fact' (fun m h => own_cap2 h) fun ⟨A, cap, hv, hlc, hcm, hA, hA2⟩ => ?_
 simp only [maxLen] at hcm
 subst hv
 refine Spec.of 50 Tryz.func88 rfl rfl rfl ?_
 refine swp_sr ?_
 refine s_ef (ef_box rfl rfl) ?_
 intro b3
 refine s_as rfl ?_
 refine swl_sub _ (sc0 0 rfl (sc0 3 rfl .nil)) ?_
 refine swl_nn ?_
 refine swp_sr ?_
 refine s_as rfl ?_
 refine swl_sub _ (sc0 0 rfl (sc0 3 rfl (sc0 5 rfl .nil))) ?_
 refine swl_nn ?_
 refine swp_seq ?_
 refine swp_sr ?_
 refine s_as rfl ?_
 refine swl_sub _ (sc0 0 rfl (sc0 3 rfl (sc0 5 rfl (sc0 6 rfl .nil)))) ?_
 refine swl_nn ?_
 refine swp_block ?_
 refine swp_ent (own_nil_ent (e := 138) (n := 2)) ?_
 refine swp_loop (ι := Nat) (fun i env L => ∃ u, Sub env [(0, .slice A l.length cap), (3, pv b3), (5, u), (6, .int .i64 (i : Nat))] ∧ Ent L [own 138 2 u ((l.take i).filter (keepN c)).length (((l.take i).filter (keepN c)).flatMap rN1), own 138 2 (.slice A l.length cap) l.length (l.flatMap rN1), blk b3 99 (rC1 c)] ∧ i ≤ l.length) (fun i => l.length - i) 0 ⟨.slice none 0 0, ⟨rfl, rfl, rfl, rfl, trivial⟩, (show Ent _ [own 138 2 (.slice none 0 0) 0 [], own 138 2 (.slice A l.length cap) l.length (l.flatMap rN1), blk b3 99 (rC1 c)] from Split.ent' sp0), Nat.zero_le _⟩ ?_
 rintro i env L ⟨u, hsub, hE, hi⟩
 refine swp_sub _ hsub ?_
 refine swp_ent hE ?_
 clear hsub hE env L
 have hfl : ((l.take i).filter (keepN c)).length ≤ 1048576 := by
  have h1 := List.length_filter_le (keepN c) (l.take i)
  rw [List.length_take] at h1; omega
 refine swp_seq ?_
 refine swp_sr ?_
 refine s_mv rfl ?_
 refine s_mv rfl ?_
 refine s_pu (pu_len rfl) ?_
 refine s_pu (pu_lss rfl rfl) ?_
 refine swl_sub _ (sc0 0 rfl (sc0 3 rfl (sc0 5 rfl (sc0 6 rfl (sc0 10 rfl .nil))))) ?_
 refine swl_nn ?_
 refine swp_cond (b := _) rfl (fun h10 => ?_) (fun h10 => ?_)
 ·skip
  have h10' : i < l.length := by have := of_decide_eq_true h10; omega
  obtain ⟨a, ha⟩ : ∃ a, A = some a := by cases A with | none => have := hA rfl; omega | some a => exact ⟨a, rfl⟩
  obtain ⟨b, rfl⟩ := hA2 a ha
  subst ha
  obtain ⟨y, hy⟩ : ∃ y, l[i]? = some y := ⟨_, List.getElem?_eq_getElem h10'⟩
  have hat := flat_at (f := rN1) (n := 2) (fun _ => rfl) hy
  have hcell := hat 0 _ rfl
  have htk : (l.take (i + 1)).filter (keepN c) = (l.take i).filter (keepN c) ++ (if keepN c y = true then [y] else []) := by
   rw [List.take_add_one, hy, List.filter_append]
   congr 1
   by_cases hk : keepN c y = true
   ·rw [if_pos hk]; simp [hk]
   ·rw [if_neg hk]; simp [hk]
  refine swp_skip ?_
  refine then_n ?_
  refine swp_seq ?_
  refine swp_block ?_
  refine swp_seq ?_
  refine swp_draw [4, 6, 13, 15] _ [] (by simp only [List.append_nil]; exact Ent.refl _) kr0 ?_
  refine d_pu 0 rfl (pu_move rfl) kr0 kr0 kr0 ?_
  refine d_pu 1 rfl (pu_move rfl) kr0 kr0 kr0 ?_
  refine d_pu 2 rfl (pu_indexAddr (0 + i * 2) rfl rfl om0 om0 (by rw [Int.toNat_natCast])) kr0 kr0 kr0 ?_
  refine d_pu 3 rfl (pu_fieldAddr rfl) kr0 kr0 kr0 ?_
  refine d_rd 4 rfl (rd_own rfl tk0 (by rw [Nat.zero_add]; exact hcell)) rfl kr0 kr0 kr0 ?_
  refine d_pu 5 rfl (pu_fieldAddr0 rfl) kr0 kr0 kr0 ?_
  refine d_rd 6 rfl (rd_load rfl rfl) rfl kr0 kr0 kr0 ?_
  refine d_pu 7 rfl (pu_str_neq rfl rfl) kr0 kr0 kr0 ?_
  refine d_pu 8 rfl (pu_move rfl) kr0 kr0 kr0 ?_
  refine d_split 21 rfl (fun h21 => ?_) (fun h21 => ?_)
  ·skip
   refine d_pu_on 9 rfl rfl rfl (pu_move rfl) kr0 kr0 kr0 ?_
   refine d_pu_on 10 rfl rfl rfl (pu_move rfl) kr0 kr0 kr0 ?_
   refine d_pu_on 11 rfl rfl rfl (pu_indexAddr (0 + i * 2) rfl rfl om0 om0 (by rw [Int.toNat_natCast])) kr0 kr0 kr0 ?_
   refine d_pu_on 12 rfl rfl rfl (pu_fieldAddr rfl) kr0 kr0 kr0 ?_
   refine d_rd_on 13 rfl rfl rfl (rd_own rfl tk0 (by rw [Nat.zero_add]; exact hcell)) rfl kr0 kr0 kr0 ?_
   refine d_pu_on 14 rfl rfl rfl (pu_fieldAddr0 rfl) kr0 kr0 kr0 ?_
   refine d_rd_on 15 rfl rfl rfl (rd_load rfl rfl) rfl kr0 kr0 kr0 ?_
   refine d_pu_on 16 rfl rfl rfl (pu_str_neq rfl rfl) kr0 kr0 kr0 ?_
   refine d_pu 17 rfl (pu_pick_t rfl rfl) kr0 kr0 kr0 ?_
   refine d_sub _ (sc0 0 rfl (sc0 3 rfl (sc0 5 rfl (sc0 6 rfl (sc0 30 rfl .nil))))) ?_
   refine d_nilt kr0 ?_
   refine then_n ?_
   refine swp_cond (b := _) rfl (fun h30 => ?_) (fun h30 => ?_)
   ·skip
    refine swp_region ?_
    refine s_mv rfl ?_
    refine s_mv rfl ?_
    refine s_mv rfl ?_
    refine s_pu (pu_indexAddr (0 + i * 2) rfl rfl om0 om0 (by rw [Int.toNat_natCast])) ?_
    refine s_rd (rd_ownA (vs := rN1 y) rfl tk0 rfl (fun j v hj => by rw [Nat.zero_add]; exact hat j v hj)) ?_
    refine s_ef (ef_bldS (qs := [(0, _)]) rfl rfl rfl) ?_
    intro b36
    refine s_ef (ef_append_lit (l := ((l.take i).filter (keepN c)).length) (m := 1) rfl rfl sp0 (by simp only [maxLen]; omega) om0) ?_
    rintro v' hv'
    skip
    refine s_as rfl ?_
    refine swl_sub _ (sc0 0 rfl (sc0 3 rfl (sc0 5 rfl (sc0 6 rfl .nil)))) ?_
    refine swl_nil ?_
    refine block_n ?_
    refine then_n ?_
    refine swp_region ?_
    refine s_mv rfl ?_
    refine s_pu (pu_add_as ((i + 1 : Nat) : Int) rfl rfl om0 om0 om0) ?_
    refine s_as rfl ?_
    refine swl_sub _ (sc0 0 rfl (sc0 3 rfl (sc0 5 rfl (sc0 6 rfl .nil)))) ?_
    refine swl_nil ?_
    have hk : keepN c y = true := by unfold keepN; rw [not_t h21, not_t h30]; rfl
    refine then_n ⟨i + 1, ⟨v', ⟨rfl, rfl, rfl, rfl, trivial⟩, ?_, h10'⟩, by omega⟩
    rw [htk, if_pos hk, List.length_append, List.flatMap_append]
    simp only [List.length_singleton, List.flatMap_singleton]
    exact Split.ent' sp0
   ·skip
    refine swp_skip ?_
    refine block_n ?_
    refine then_n ?_
    refine swp_region ?_
    refine s_mv rfl ?_
    refine s_pu (pu_add_as ((i + 1 : Nat) : Int) rfl rfl om0 om0 om0) ?_
    refine s_as rfl ?_
    refine swl_sub _ (sc0 0 rfl (sc0 3 rfl (sc0 5 rfl (sc0 6 rfl .nil)))) ?_
    refine swl_nil ?_
    have hk : keepN c y = false := by unfold keepN; rw [not_f h30]; simp
    refine then_n ⟨i + 1, ⟨u, ⟨rfl, rfl, rfl, rfl, trivial⟩, ?_, h10'⟩, by omega⟩
    rw [htk, if_neg (by rw [hk]; decide), List.append_nil]
    exact Split.ent' sp0
  ·skip
   refine d_off 9 rfl rfl rfl rfl kr0 kr0 kr0 ?_
   refine d_off 10 rfl rfl rfl rfl kr0 kr0 kr0 ?_
   refine d_off 11 rfl rfl rfl rfl kr0 kr0 kr0 ?_
   refine d_off 12 rfl rfl rfl rfl kr0 kr0 kr0 ?_
   refine d_off 13 rfl rfl rfl rfl kr0 kr0 kr0 ?_
   refine d_off 14 rfl rfl rfl rfl kr0 kr0 kr0 ?_
   refine d_off 15 rfl rfl rfl rfl kr0 kr0 kr0 ?_
   refine d_off 16 rfl rfl rfl rfl kr0 kr0 kr0 ?_
   refine d_pu 17 rfl (pu_pick_f rfl rfl) kr0 kr0 kr0 ?_
   refine d_sub _ (sc0 0 rfl (sc0 3 rfl (sc0 5 rfl (sc0 6 rfl (sc0 30 rfl .nil))))) ?_
   refine d_nilt kr0 ?_
   refine then_n ?_
   refine swp_cond (b := _) rfl (fun h30 => by cases h30) (fun h30 => ?_)
   refine swp_skip ?_
   refine block_n ?_
   refine then_n ?_
   refine swp_region ?_
   refine s_mv rfl ?_
   refine s_pu (pu_add_as ((i + 1 : Nat) : Int) rfl rfl om0 om0 om0) ?_
   refine s_as rfl ?_
   refine swl_sub _ (sc0 0 rfl (sc0 3 rfl (sc0 5 rfl (sc0 6 rfl .nil)))) ?_
   refine swl_nil ?_
   have hk : keepN c y = false := by unfold keepN; rw [not_f h21]; rfl
   refine then_n ⟨i + 1, ⟨u, ⟨rfl, rfl, rfl, rfl, trivial⟩, ?_, h10'⟩, by omega⟩
   rw [htk, if_neg (by rw [hk]; decide), List.append_nil]
   exact Split.ent' sp0
 ·skip
  have h10' : i = l.length := by have := of_decide_eq_false h10; omega
  subst h10'
  rw [List.take_length] at hfl ⊢
  refine swp_fact (fun m h => own_form h) fun hform => ?_
  refine swp_exit ?_
  refine then_x ?_
  refine then_x ?_
  refine block_hit rfl ?_
  refine then_n ?_
  refine swp_seq ?_
  refine swp_sr ?_
  refine s_pu (pu_fieldAddr0 rfl) ?_
  refine s_rd (rd_load rfl rfl) ?_
  refine s_pu (pu_str_neq rfl rfl) ?_
  refine swl_sub _ (sc0 3 rfl (sc0 5 rfl (sc0 40 rfl .nil))) ?_
  refine swl_nn ?_
  refine swp_cond (b := _) rfl (fun h40 => ?_) (fun h40 => ?_)
  ·skip
   refine swp_region ?_
   refine s_mv rfl ?_
   refine s_pu (pu_fieldAddr0 rfl) ?_
   refine s_rd (rd_load rfl rfl) ?_
   refine s_pu (pu_fieldAddr0 rfl) ?_
   refine s_rd (rd_load rfl rfl) ?_
   refine s_pu (pu_bld (qs := [(0, _), (1, _)]) rfl) ?_
   refine s_ef (ef_bldS (qs := [(0, _)]) rfl rfl rfl) ?_
   intro b47
   refine s_ef (ef_append_lit (l := (l.filter (keepN c)).length) (m := 1) rfl rfl sp0 (by simp only [maxLen]; omega) om0) ?_
   rintro v' hv'
   skip
   refine s_as rfl ?_
   refine swl_sub _ (sc0 5 rfl .nil) ?_
   refine swl_nn ?_
   refine swp_sr ?_
   refine s_mv rfl ?_
   refine s_as rfl ?_
   refine swl_sub _ (sc0 4 rfl .nil) ?_
   refine swl_nn ?_
   refine swp_ret ?_
   have hk : strEq c.come nos = false := not_t h40
   have key : chgN l c = l.filter (keepN c) ++ [(c.come, c.file)] := by unfold chgN; rw [if_neg (by rw [hk]; decide)]
   rw [key, List.length_append, List.flatMap_append]
   simp only [List.length_singleton, List.flatMap_singleton]
   exact done_ret [own 138 2 v' ((l.filter (keepN c)).length + 1) ((l.filter (keepN c)).flatMap rN1 ++ [.string c.come, .int .i64 (c.file : Nat)]), own 138 2 (.slice A l.length cap) l.length (l.flatMap rN1)] (.tmp rfl .nil) ⟨by obtain ⟨g, c', h⟩ := hv' (by decide); exact ⟨_, _, h⟩, rfl⟩ sp0
  ·skip
   refine swp_skip ?_
   refine then_n ?_
   refine swp_sr ?_
   refine s_mv rfl ?_
   refine s_as rfl ?_
   refine swl_sub _ (sc0 4 rfl .nil) ?_
   refine swl_nn ?_
   refine swp_ret ?_
   have hk : strEq c.come nos = true := not_f h40
   have key : chgN l c = l.filter (keepN c) := by unfold chgN; rw [if_pos hk, List.append_nil]
   rw [key]
   exact done_ret [own 138 2 u (l.filter (keepN c)).length ((l.filter (keepN c)).flatMap rN1), own 138 2 (.slice A l.length cap) l.length (l.flatMap rN1)] (.tmp rfl .nil) ⟨hform, rfl⟩ sp0
end SX
namespace SX
open Go Go.Proofs
theorem own_pos {e n : Nat} {v : Value} {l : Nat} {xs : List Value} {L : List Assn} {m : PH} (h : Sat (own e n v l xs :: L) m) (hl : 0 < l) : ∃ b c, v = .slice (some ⟨b, 0, none⟩) l c ∧ l ≤ c ∧ c ≤ 9223372036854775807 := by
  obtain ⟨A, c, hv, h1, h2, h3, h4⟩ := own_cap2 h
  simp only [maxLen] at h2
  cases A with
  | none => have := h3 rfl; omega
  | some a => obtain ⟨b, rfl⟩ := h4 a rfl; exact ⟨b, c, hv, h1, by omega⟩
theorem set_safe : ∀ {l : List Fl} {k : Nat} {f : Fl}, l[k]? = some f → ∀ s : Nat, (l.flatMap rF1).set (0 + k * 2 + 1) (.int .i64 (s : Nat)) = (l.set k ⟨f.bytes, s⟩).flatMap rF1
  | [], _, _, h, _ => by cases h
  | g :: l, 0, f, h, s => by
    simp at h; subst h; rfl
  | g :: l, k + 1, f, h, s => by
    have ih := set_safe (l := l) (k := k) (by simpa using h) s
    rw [List.set_cons_succ, List.flatMap_cons, List.flatMap_cons, ← ih, show 0 + (k + 1) * 2 + 1 = (0 + k * 2 + 1) + 2 by omega]; rfl
theorem set_bytes : ∀ {l : List Fl} {k : Nat} {f : Fl}, l[k]? = some f → ∀ B : List UInt8, (l.flatMap rF1).set (0 + k * 2 + 0) (.string ⟨B.toArray⟩) = (l.set k ⟨B, f.safe⟩).flatMap rF1
  | [], _, _, h, _ => by cases h
  | g :: l, 0, f, h, s => by
    simp at h; subst h; rfl
  | g :: l, k + 1, f, h, s => by
    have ih := set_bytes (l := l) (k := k) (by simpa using h) s
    rw [List.set_cons_succ, List.flatMap_cons, List.flatMap_cons, ← ih, show 0 + (k + 1) * 2 + 0 = (0 + k * 2 + 0) + 2 by omega]; rfl
theorem fl_at {d : Dk} {k : Nat} (h : k < d.files.length) : d.files[k]? = some (d.fl k) := by
  unfold Dk.fl; rw [List.getElem?_eq_getElem h]; rfl
theorem file_lt {d : Dk} (hd : d.Ok) {s : ByteArray} {k : Nat} (h : findN d.seen s = some k) : k < d.files.length := (hd.seenOk.good _ (findN_mem h)).2
theorem tsize (l : List UInt8) : (⟨l.toArray⟩ : ByteArray).size = l.length := by show l.toArray.size = _; simp
theorem str_app (l : List UInt8) (t : ByteArray) : (⟨l.toArray⟩ : ByteArray) ++ t = ⟨(l ++ t.data.toList).toArray⟩ := by
  apply ByteArray.ext
  rw [ByteArray.data_append]
  apply Array.toList_inj.1
  simp
theorem rnew_spec (q : Int) : Spec Tryz.prog 10 [.int .i64 q] [] (fun r L => (¬ newOk q ∧ r = .tuple #[.pointer none, .int .i64 1] ∧ L = []) ∨ (newOk q ∧ ∃ p, r = .tuple #[pv p, .int .i64 0] ∧ L = [RDA p (newD q)])) := by
 refine Spec.of 13 Tryz.func10 rfl rfl rfl ?_
 refine swp_sr ?_
 refine s_as rfl ?_
 refine s_as rfl ?_
 refine swl_sub _ (sc0 0 rfl .nil) ?_
 refine swl_nn ?_
 refine swp_seq ?_
 refine swp_sr ?_
 refine s_mv rfl ?_
 refine s_pu (pu_lss rfl rfl) ?_
 refine s_mv rfl ?_
 refine s_split 6 rfl (fun h6 => ?_) (fun h6 => ?_)
 ·skip
  refine s_off rfl rfl rfl ?_
  refine s_off rfl rfl rfl ?_
  refine s_pu (pu_pick_t rfl rfl) ?_
  refine swl_sub _ (sc0 0 rfl (sc0 9 rfl .nil)) ?_
  refine swl_nn ?_
  refine swp_cond (b := _) rfl (fun h9 => ?_) (fun h9 => by cases h9)
  refine swp_sr ?_
  refine s_as rfl ?_
  refine s_as rfl ?_
  refine swl_sub _ (sc0 2 rfl (sc0 3 rfl .nil)) ?_
  refine swl_nn ?_
  refine swp_ret ?_
  refine then_r ?_
  exact done_ret [] (.tmp rfl (.tmp rfl .nil)) (.inl ⟨fun h => by have := of_decide_eq_true h6; have := h.1; omega, rfl, rfl⟩) sp0
 ·skip
  refine s_on rfl rfl ?_
  refine s_mv rfl ?_
  refine s_on rfl rfl ?_
  refine s_pu (pu_gtr rfl rfl) ?_
  refine s_pu (pu_pick_f rfl rfl) ?_
  refine swl_sub _ (sc0 0 rfl (sc0 9 rfl .nil)) ?_
  refine swl_nn ?_
  refine swp_cond (b := _) rfl (fun h9 => ?_) (fun h9 => ?_)
  ·skip
   refine swp_sr ?_
   refine s_as rfl ?_
   refine s_as rfl ?_
   refine swl_sub _ (sc0 2 rfl (sc0 3 rfl .nil)) ?_
   refine swl_nn ?_
   refine swp_ret ?_
   refine then_r ?_
   exact done_ret [] (.tmp rfl (.tmp rfl .nil)) (.inl ⟨fun h => by have := of_decide_eq_true h9; have := h.2; omega, rfl, rfl⟩) sp0
  ·skip
   refine swp_skip ?_
   refine then_n ?_
   refine swp_sr ?_
   refine s_mv rfl ?_
   refine s_pu (pu_bld (qs := [(0, _)]) rfl) ?_
   refine s_ef (ef_box rfl rfl) ?_
   intro b12
   refine s_as rfl ?_
   refine s_as rfl ?_
   refine swl_sub _ (sc0 2 rfl (sc0 3 rfl .nil)) ?_
   refine swl_nn ?_
   refine swp_ret ?_
   refine done_retE [RDA b12 (newD q)] (.tmp rfl (.tmp rfl .nil)) (.inr ⟨⟨by have := of_decide_eq_false h6; omega, by have := of_decide_eq_false h9; omega⟩, b12, rfl, rfl⟩) ?_
   refine Ent.trans (own_nil_ent (e := 99) (n := 3)) ?_
   refine Ent.trans (own_nil_ent (e := 138) (n := 2)) ?_
   refine Ent.trans (own_nil_ent (e := 138) (n := 2)) ?_
   refine Ent.trans (own_nil_ent (e := 96) (n := 2)) ?_
   exact Ent.trans (Split.ent' (K := [blk b12 92 [.int .i64 q, .slice none 0 0, .slice none 0 0, .slice none 0 0, .slice none 0 0, .int .i64 0, .bool false], own 96 2 (.slice none 0 0) 0 [], own 138 2 (.slice none 0 0) 0 [], own 138 2 (.slice none 0 0) 0 [], own 99 3 (.slice none 0 0) 0 []]) sp0) (rd_close (d := newD q) (x := ⟨.slice none 0 0, .slice none 0 0, .slice none 0 0, .slice none 0 0⟩))
theorem rfall_spec (p : Nat) (d : Dk) (n : Int) : Spec Tryz.prog 61 [pv p, .int .i64 n] [RDA p d] (fun _ L => L = [RDA p (fallD d n)]) := by
 refine RDA.open' fun ⟨fv, sv, av, wv⟩ => ?_
 refine Spec.of 9 Tryz.func61 rfl rfl rfl ?_
 refine swp_region ?_
 refine s_mv rfl ?_
 refine s_mv rfl ?_
 refine s_pu (pu_max2 rfl rfl) ?_
 refine s_pu (pu_nilCheck rfl) ?_
 refine s_pu (pu_fieldAddr0 rfl) ?_
 refine s_ef0 (ef_store rfl rfl rfl) ?_
 refine swl_sub _ .nil ?_
 refine swl_nil ?_
 exact done_endE [RDA p (fallD d n)] .nil rfl ((Split.ent' (K := [blk p 92 (rdC d.quota fv sv av wv (max n 0) d.off), own 96 2 fv d.files.length (d.files.flatMap rF1), own 138 2 sv d.seen.length (d.seen.flatMap rN1), own 138 2 av d.safe.length (d.safe.flatMap rN1), own 99 3 wv d.pend.length (d.pend.flatMap rC1)]) sp0).trans (rd_close (d := fallD d n) (x := ⟨fv, sv, av, wv⟩)))
theorem rchange_spec (p : Nat) (q : Int) (fv sv av wv : Value) (fa : Int) (off : Bool) (l : List Nm) (ps : List Cg) (hl : l.length ≤ 1048576) (hp : ps.length ≤ 1048576) (c : Cg) :
  Spec Tryz.prog 43 [pv p, .agg (rC1 c).toArray] [blk p 92 (rdC q fv sv av wv fa off), own 138 2 sv l.length (l.flatMap rN1), own 99 3 wv ps.length (ps.flatMap rC1)]
   (fun _ L => ∃ sv' wv', L = [blk p 92 (rdC q fv sv' av wv' fa off), own 138 2 sv' (chgN l c).length ((chgN l c).flatMap rN1), own 99 3 wv' (ps ++ [c]).length ((ps ++ [c]).flatMap rC1)]) := by
 have hps : (ps ++ [c]).flatMap rC1 = ps.flatMap rC1 ++ rC1 c := by rw [List.flatMap_append, List.flatMap_singleton]
 have hpl : (ps ++ [c]).length = ps.length + 1 := by rw [List.length_append]; rfl
 refine Spec.of 23 Tryz.func43 rfl rfl rfl ?_
 refine swp_sr ?_
 refine s_ef (ef_box rfl rfl) ?_
 intro b3
 refine swl_sub _ (sc0 0 rfl (sc0 3 rfl .nil)) ?_
 refine swl_nn ?_
 refine swp_seq ?_
 refine swp_draw [4, 5] _ [] (by simp only [List.append_nil]; exact Ent.refl _) kr0 ?_
 refine d_pu 0 rfl (pu_move rfl) kr0 kr0 kr0 ?_
 refine d_pu 1 rfl (pu_move rfl) kr0 kr0 kr0 ?_
 refine d_pu 2 rfl (pu_nilCheck rfl) kr0 kr0 kr0 ?_
 refine d_pu 3 rfl (pu_fieldAddr0 rfl) kr0 kr0 kr0 ?_
 refine d_rd 4 rfl (rd_load rfl rfl) rfl kr0 kr0 kr0 ?_
 refine d_rd 5 rfl (rd_loadW rfl rfl) rfl kr0 kr0 kr0 ?_
 refine d_fint 6 rfl kr0 kr0 (ef_fn (changed_spec sv l hl c) rfl rfl sp0) ?_
 rintro v10 L1 ⟨⟨A1, c1, rfl⟩, rfl⟩
 refine swd_app ?_
 refine d_pu 7 rfl (pu_nilCheck rfl) kr0 kr0 kr0 ?_
 refine d_pu 8 rfl (pu_fieldAddr0 rfl) kr0 kr0 kr0 ?_
 refine d_fin0f 9 rfl kr0 kr0 (ef_store rfl rfl rfl) ?_
 refine d_sub _ (sc0 0 rfl (sc0 3 rfl .nil)) ?_
 refine d_nilf kr0 ?_
 refine then_n ?_
 refine swp_draw [4, 5] _ [] (by simp only [List.append_nil]; exact Ent.refl _) kr0 ?_
 refine d_pu 0 rfl (pu_move rfl) kr0 kr0 kr0 ?_
 refine d_pu 1 rfl (pu_move rfl) kr0 kr0 kr0 ?_
 refine d_pu 2 rfl (pu_nilCheck rfl) kr0 kr0 kr0 ?_
 refine d_pu 3 rfl (pu_fieldAddr0 rfl) kr0 kr0 kr0 ?_
 refine d_rd 4 rfl (rd_load rfl rfl) rfl kr0 kr0 kr0 ?_
 refine d_rd 5 rfl (rd_loadW rfl rfl) rfl kr0 kr0 kr0 ?_
 refine d_eft 6 rfl kr0 (ef_bldS (qs := [(0, _)]) rfl rfl rfl) ?_
 intro b19
 refine ⟨_, Split.ent sp0, ?_⟩
 refine d_fint 7 rfl kr0 kr0 (ef_append_lit (l := ps.length) (m := 1) (news := rC1 c) rfl rfl sp0 (by simp only [maxLen]; omega) om0) ?_
 rintro w' hw'
 obtain ⟨g7, c7, rfl⟩ := hw' (by decide)
 refine d_pu 8 rfl (pu_nilCheck rfl) kr0 kr0 kr0 ?_
 refine d_pu 9 rfl (pu_fieldAddr0 rfl) kr0 kr0 kr0 ?_
 refine d_fin0f 10 rfl kr0 kr0 (ef_store rfl rfl rfl) ?_
 refine d_sub _ .nil ?_
 refine d_nilf kr0 ?_
 rw [hps, hpl]
 exact done_end [blk p 92 (rdC q fv (.slice A1 (chgN l c).length c1) av (.slice (some ⟨g7, 0, none⟩) (ps.length + 1) c7) fa off), own 138 2 (.slice A1 (chgN l c).length c1) (chgN l c).length ((chgN l c).flatMap rN1), own 99 3 (.slice (some ⟨g7, 0, none⟩) (ps.length + 1) c7) (ps.length + 1) (ps.flatMap rC1 ++ rC1 c)] .nil ⟨_, _, rfl⟩ sp0
end SX
namespace SX
open Go Go.Proofs
def sE (fa : Int) : Int := if fa = 1 then 8 else 0
def sA (fa : Int) : Int := if fa = 1 then 0 else if 0 < fa then fa - 1 else fa
def sO (fa : Int) (off : Bool) : Bool := if fa = 1 then true else off
theorem sE_1 {fa : Int} (h : fa = 1) : sE fa = 8 := if_pos h
theorem sE_n {fa : Int} (h : fa ≠ 1) : sE fa = 0 := if_neg h
theorem sE_t {fa : Int} (h : sE fa ≠ 0) : fa = 1 := by
  unfold sE at h; split at h
  · assumption
  · exact absurd rfl h
theorem sE_f {fa : Int} (h : sE fa = 0) : fa ≠ 1 := fun k => by rw [sE_1 k] at h; cases h
theorem rstep' (p : Nat) (q : Int) (fv sv av wv : Value) (fa : Int) (off : Bool) (h0 : 0 ≤ fa ∧ fa ≤ 9223372036854775807) : Spec Tryz.prog 42 [pv p] [blk p 92 (rdC q fv sv av wv fa off)]
    (fun r L => r = .int .i64 (sE fa) ∧ L = [blk p 92 (rdC q fv sv av wv (sA fa) (sO fa off))]) :=
  (rstep_spec p q fv sv av wv fa off h0).mono fun r L h => by
    unfold sE sA sO
    rcases h with ⟨h, rfl, rfl⟩ | ⟨h, rfl, rfl⟩
    · rw [if_pos h, if_pos h, if_pos h]; exact ⟨rfl, rfl⟩
    · rw [if_neg h, if_neg h, if_neg h]; exact ⟨rfl, rfl⟩
theorem st_1 {fa : Int} {off : Bool} (h : fa = 1) : sA fa = 0 ∧ sO fa off = true := ⟨if_pos h, if_pos h⟩
theorem st_n {fa : Int} {off : Bool} (h : fa ≠ 1) : sA fa = (if 0 < fa then fa - 1 else fa) ∧ sO fa off = off := ⟨if_neg h, if_neg h⟩
theorem isNone_of {l : List Nm} {s : ByteArray} (h : findN l s = none) : (findN l s).isNone = true := by rw [h]; rfl
set_option maxHeartbeats 4000000 in
theorem rcreate_spec (p : Nat) (d : Dk) (hd : d.Ok) (hw : Few d) (s : ByteArray) : Spec Tryz.prog 11 [pv p, .string s] [RDA p d] (fun r L => r = .int .i64 (createD d s).2 ∧ L = [RDA p (createD d s).1]) := by
  refine RDA.open' fun ⟨fv, sv, av, wv⟩ => ?_
  refine Spec.pre (pre := [own 138 2 sv d.seen.length (d.seen.flatMap rN1), blk p 92 (rdC d.quota fv sv av wv d.falls d.off), own 96 2 fv d.files.length (d.files.flatMap rF1), own 138 2 av d.safe.length (d.safe.flatMap rN1), own 99 3 wv d.pend.length (d.pend.flatMap rC1)]) ?_ (Split.ent' sp0)
  refine Spec.fact' (fun m h => own_form h) fun hsv => ?_
  have hsl := hd.seenLe
  have hff := hw.1
  have hpp := hw.2
  refine Spec.of 53 Tryz.func11 rfl rfl rfl ?_
  refine swp_sr ?_
  refine s_as rfl ?_
  refine swl_sub _ (sc0 0 rfl (sc0 1 rfl .nil)) ?_
  refine swl_nn ?_
  refine swp_seq ?_
  refine swp_sr ?_
  refine s_mv rfl ?_
  refine s_pu (pu_nilCheck rfl) ?_
  refine s_pu (pu_fieldAddr0 rfl) ?_
  refine s_rd (rd_load rfl rfl) ?_
  refine swl_sub _ (sc0 0 rfl (sc0 1 rfl (sc0 9 rfl .nil))) ?_
  refine swl_nn ?_
  refine swp_cond (b := _) rfl (fun h9 => ?_) (fun h9 => ?_)
  · skip   -- 9 T
    refine swp_sr ?_
    refine s_as rfl ?_
    refine swl_sub _ (sc0 4 rfl .nil) ?_
    refine swl_nn ?_
    refine swp_ret ?_
    refine then_r ?_
    have key : createD d s = (d, 8) := by unfold createD; rw [if_pos h9]
    rw [key]
    exact done_retE [RDA p d] (.tmp rfl .nil) ⟨rfl, rfl⟩ ((Split.ent' (K := [blk p 92 (rdC d.quota fv sv av wv d.falls d.off), own 96 2 fv d.files.length (d.files.flatMap rF1), own 138 2 sv d.seen.length (d.seen.flatMap rN1), own 138 2 av d.safe.length (d.safe.flatMap rN1), own 99 3 wv d.pend.length (d.pend.flatMap rC1)]) sp0).trans (rd_close (x := ⟨fv, sv, av, wv⟩)))
  · skip   -- 9 F
    refine swp_skip ?_
    refine then_n ?_
    refine swp_seq ?_
    refine swp_sr ?_
    refine s_mv rfl ?_
    refine s_ef (ef_fn (rgood_spec s) rfl rfl sp0) ?_
    rintro v11 L1 ⟨rfl, rfl⟩
    refine swl_app ?_
    refine s_pu (pu_not rfl) ?_
    refine swl_sub _ (sc0 0 rfl (sc0 1 rfl (sc0 12 rfl .nil))) ?_
    refine swl_nn ?_
    refine swp_cond (b := _) rfl (fun h12 => ?_) (fun h12 => ?_)
    · skip   -- 12 T
      refine swp_sr ?_
      refine s_as rfl ?_
      refine swl_sub _ (sc0 4 rfl .nil) ?_
      refine swl_nn ?_
      refine swp_ret ?_
      refine then_r ?_
      have key : createD d s = (d, 1) := by unfold createD; rw [if_neg (by rw [h9]; decide), if_pos (by simpa using h12)]
      rw [key]
      exact done_retE [RDA p d] (.tmp rfl .nil) ⟨rfl, rfl⟩ ((Split.ent' (K := [blk p 92 (rdC d.quota fv sv av wv d.falls d.off), own 96 2 fv d.files.length (d.files.flatMap rF1), own 138 2 sv d.seen.length (d.seen.flatMap rN1), own 138 2 av d.safe.length (d.safe.flatMap rN1), own 99 3 wv d.pend.length (d.pend.flatMap rC1)]) sp0).trans (rd_close (x := ⟨fv, sv, av, wv⟩)))
    · skip   -- 12 F
      have h12' : goodN s = true := by simpa using h12
      refine swp_skip ?_
      refine then_n ?_
      refine swp_cut (fun env L => Sub env [(0, pv p), (1, .string s)] ∧ Ent L [blk p 92 (rdC d.quota fv sv av wv d.falls d.off), own 96 2 fv d.files.length (d.files.flatMap rF1), own 138 2 sv d.seen.length (d.seen.flatMap rN1), own 138 2 av d.safe.length (d.safe.flatMap rN1), own 99 3 wv d.pend.length (d.pend.flatMap rC1)] ∧ ¬ ((findN d.seen s).isNone = true ∧ 64 ≤ d.seen.length)) ?_ ?_
      · skip
        refine swp_sr ?_
        refine s_mv rfl ?_
        refine s_pu (pu_nilCheck rfl) ?_
        refine s_pu (pu_fieldAddr0 rfl) ?_
        refine s_rd (rd_load rfl rfl) ?_
        refine s_mv rfl ?_
        refine s_ef (ef_fn (rfind_spec sv d.seen s om0) rfl rfl sp0) ?_
        rintro v18 L1 ⟨⟨i, rfl, hi⟩, rfl⟩
        refine swl_app ?_
        refine s_pu (pu_lss rfl rfl) ?_
        refine s_mv rfl ?_
        refine s_split 20 rfl (fun h20 => ?_) (fun h20 => ?_)
        · skip   -- 20 T
          refine s_on rfl rfl ?_
          refine s_mv rfl ?_
          refine s_on rfl rfl ?_
          refine s_pu (pu_nilCheck rfl) ?_
          refine s_on rfl rfl ?_
          refine s_pu (pu_fieldAddr0 rfl) ?_
          refine s_on rfl rfl ?_
          refine s_rd (rd_load rfl rfl) ?_
          refine s_on rfl rfl ?_
          refine s_pu (pu_len_own hsv rfl) ?_
          refine s_on rfl rfl ?_
          refine s_pu (pu_geq rfl rfl) ?_
          refine s_pu (pu_pick_t rfl rfl) ?_
          refine swl_sub _ (sc0 0 rfl (sc0 1 rfl (sc0 27 rfl .nil))) ?_
          refine swl_nn ?_
          refine swp_cond (b := _) rfl (fun h27 => ?_) (fun h27 => ?_)
          · skip   -- 27 T
            refine swp_sr ?_
            refine s_as rfl ?_
            refine swl_sub _ (sc0 4 rfl .nil) ?_
            refine swl_nn ?_
            refine swp_ret ?_
            refine then_r ?_
            have h20' := of_decide_eq_true h20
            have h27' := of_decide_eq_true h27
            have hf : findN d.seen s = none := by
              rcases hi with ⟨_, h⟩ | ⟨k, y, h, _⟩
              · exact h
              · omega
            have key : createD d s = (d, 7) := by unfold createD; rw [if_neg (by rw [h9]; decide), if_neg (by rw [h12']; decide), if_pos ⟨isNone_of hf, by omega⟩]
            rw [key]
            exact done_retE [RDA p d] (.tmp rfl .nil) ⟨rfl, rfl⟩ ((Split.ent' (K := [blk p 92 (rdC d.quota fv sv av wv d.falls d.off), own 96 2 fv d.files.length (d.files.flatMap rF1), own 138 2 sv d.seen.length (d.seen.flatMap rN1), own 138 2 av d.safe.length (d.safe.flatMap rN1), own 99 3 wv d.pend.length (d.pend.flatMap rC1)]) sp0).trans (rd_close (x := ⟨fv, sv, av, wv⟩)))
          · skip   -- 27 F
            refine swp_skip ?_
            refine then_n ⟨⟨rfl, rfl, trivial⟩, Split.ent' sp0, ?_⟩
            rintro ⟨k1, k2⟩
            first
              | (have h27' := of_decide_eq_false h27; omega)
              | (have h20' := of_decide_eq_false h20
                 rcases hi with ⟨h, _⟩ | ⟨k, y, _, _, h⟩
                 · omega
                 · rw [h] at k1; cases k1)
        · skip   -- 20 F
          refine s_off rfl rfl rfl ?_
          refine s_off rfl rfl rfl ?_
          refine s_off rfl rfl rfl ?_
          refine s_off rfl rfl rfl ?_
          refine s_off rfl rfl rfl ?_
          refine s_off rfl rfl rfl ?_
          refine s_pu (pu_pick_f rfl rfl) ?_
          refine swl_sub _ (sc0 0 rfl (sc0 1 rfl (sc0 27 rfl .nil))) ?_
          refine swl_nn ?_
          refine swp_cond (b := _) rfl (fun h27 => by cases h27) (fun h27 => ?_)
          refine swp_skip ?_
          refine then_n ⟨⟨rfl, rfl, trivial⟩, Split.ent' sp0, ?_⟩
          rintro ⟨k1, k2⟩
          first
            | (have h27' := of_decide_eq_false h27; omega)
            | (have h20' := of_decide_eq_false h20
               rcases hi with ⟨h, _⟩ | ⟨k, y, _, _, h⟩
               · omega
               · rw [h] at k1; cases k1)
      rintro env L ⟨hsub, hE, h1⟩
      refine swp_sub _ hsub ?_
      refine swp_ent hE ?_
      clear hsub hE env L
      refine swp_sr ?_
      refine s_mv rfl ?_
      refine s_ef (ef_fn (rstep' p d.quota fv sv av wv d.falls d.off hd.falls) rfl rfl sp0) ?_
      rintro v29 L1 ⟨rfl, rfl⟩
      refine swl_app ?_
      refine s_as rfl ?_
      refine swl_sub _ (sc0 0 rfl (sc0 1 rfl (sc0 5 rfl .nil))) ?_
      refine swl_nn ?_
      refine swp_seq ?_
      refine swp_sr ?_
      refine s_mv rfl ?_
      refine s_pu (pu_neq rfl rfl) ?_
      refine swl_sub _ (sc0 0 rfl (sc0 1 rfl (sc0 5 rfl (sc0 31 rfl .nil)))) ?_
      refine swl_nn ?_
      refine swp_cond (b := _) rfl (fun h31 => ?_) (fun h31 => ?_)
      · skip   -- 31 T
        refine swp_sr ?_
        refine s_mv rfl ?_
        refine s_as rfl ?_
        refine swl_sub _ (sc0 4 rfl .nil) ?_
        refine swl_nn ?_
        refine swp_ret ?_
        refine then_r ?_
        have hf1 : d.falls = 1 := sE_t (by simpa using h31)
        have key : createD d s = (fa0 d, 8) := by unfold createD; rw [if_neg (by rw [h9]; decide), if_neg (by rw [h12']; decide), if_neg h1]; exact atStep_1 hf1 _
        rw [key, sE_1 hf1, (st_1 (off := d.off) hf1).1, (st_1 hf1).2]
        exact done_retE [RDA p (fa0 d)] (.tmp rfl .nil) ⟨rfl, rfl⟩ ((Split.ent' (K := [blk p 92 (rdC d.quota fv sv av wv 0 true), own 96 2 fv d.files.length (d.files.flatMap rF1), own 138 2 sv d.seen.length (d.seen.flatMap rN1), own 138 2 av d.safe.length (d.safe.flatMap rN1), own 99 3 wv d.pend.length (d.pend.flatMap rC1)]) sp0).trans (rd_close (d := fa0 d) (x := ⟨fv, sv, av, wv⟩)))
      · skip   -- 31 F
        have hfn : d.falls ≠ 1 := sE_f (by simpa using h31)
        rw [(st_n (off := d.off) hfn).1, (st_n hfn).2]
        have key : createD d s = ((newF (fa1 d)).chg ⟨nos, s, d.files.length⟩, 0) := by unfold createD; rw [if_neg (by rw [h9]; decide), if_neg (by rw [h12']; decide), if_neg h1]; exact atStep_n hfn _
        refine swp_skip ?_
        refine then_n ?_
        refine swp_sr ?_
        refine s_mv rfl ?_
        refine s_mv rfl ?_
        refine s_pu (pu_nilCheck rfl) ?_
        refine s_pu (pu_fieldAddr0 rfl) ?_
        refine s_rd (rd_load rfl rfl) ?_
        refine s_pu (pu_bld (qs := []) rfl) ?_
        refine s_ef (ef_bldS (qs := [(0, _)]) rfl rfl rfl) ?_
        intro b39
        refine s_ef (ef_append_lit (l := d.files.length) (m := 1) (news := [.string ⟨#[]⟩, .int .i64 0]) rfl rfl sp0 (by simp only [maxLen]; omega) om0) ?_
        rintro fv' hfv'
        obtain ⟨g7, c7, rfl⟩ := hfv' (by decide)
        refine s_pu (pu_nilCheck rfl) ?_
        refine s_pu (pu_fieldAddr0 rfl) ?_
        refine s_ef0 (ef_store rfl rfl rfl) ?_
        refine swl_sub _ (sc0 0 rfl (sc0 1 rfl .nil)) ?_
        refine swl_nn ?_
        refine swp_sr ?_
        refine s_mv rfl ?_
        refine s_mv rfl ?_
        refine s_mv rfl ?_
        refine s_pu (pu_nilCheck rfl) ?_
        refine s_pu (pu_fieldAddr0 rfl) ?_
        refine s_rd (rd_load rfl rfl) ?_
        refine s_pu (pu_len rfl) ?_
        refine s_pu (pu_sub_as ((d.files.length : Nat) : Int) rfl rfl om0 om0 om0) ?_
        refine s_pu (pu_bld (qs := [(1, _), (2, _)]) rfl) ?_
        refine s_ef (ef_fn (rchange_spec p d.quota (.slice (some ⟨g7, 0, none⟩) (d.files.length + 1) c7) sv av wv (if 0 < d.falls then d.falls - 1 else d.falls) d.off d.seen d.pend om0 om0 ⟨nos, s, d.files.length⟩) rfl rfl sp0) ?_
        rintro v52 L1 ⟨sv', wv', rfl⟩
        refine swl_app ?_
        refine swl_sub _ .nil ?_
        refine swl_nn ?_
        refine swp_sr ?_
        refine s_as rfl ?_
        refine swl_sub _ (sc0 4 rfl .nil) ?_
        refine swl_nn ?_
        refine swp_ret ?_
        rw [key]
        refine done_retE [RDA p ((newF (fa1 d)).chg ⟨nos, s, d.files.length⟩)] (.tmp rfl .nil) ⟨rfl, rfl⟩ ?_
        have e1 : (d.files ++ [(⟨[], 0⟩ : Fl)]).length = d.files.length + 1 := by rw [List.length_append]; rfl
        have e2 : (d.files ++ [(⟨[], 0⟩ : Fl)]).flatMap rF1 = d.files.flatMap rF1 ++ [.string ⟨#[]⟩, .int .i64 0] := by rw [List.flatMap_append]; rfl
        refine Ent.trans (Split.ent' (K := [blk p 92 (rdC d.quota (.slice (some ⟨g7, 0, none⟩) (d.files.length + 1) c7) sv' av wv' (if 0 < d.falls then d.falls - 1 else d.falls) d.off), own 96 2 (.slice (some ⟨g7, 0, none⟩) (d.files.length + 1) c7) (d.files.length + 1) (d.files.flatMap rF1 ++ [.string ⟨#[]⟩, .int .i64 0]), own 138 2 sv' (chgN d.seen ⟨nos, s, d.files.length⟩).length ((chgN d.seen ⟨nos, s, d.files.length⟩).flatMap rN1), own 138 2 av d.safe.length (d.safe.flatMap rN1), own 99 3 wv' (d.pend ++ [(⟨nos, s, d.files.length⟩ : Cg)]).length ((d.pend ++ [(⟨nos, s, d.files.length⟩ : Cg)]).flatMap rC1)]) sp0) ?_
        rw [← e2, ← e1]
        exact rd_close (d := (newF (fa1 d)).chg ⟨nos, s, d.files.length⟩) (x := ⟨.slice (some ⟨g7, 0, none⟩) (d.files ++ [(⟨[], 0⟩ : Fl)]).length c7, sv', av, wv'⟩)
end SX
namespace SX
open Go Go.Proofs
theorem FileR.err {d : Dk} {s : ByteArray} {k e : Int} (h : FileR d s k e) (he : e ≠ 0) : readD d s = ([], e) ∧ ∀ f, onFile d s f = (d, e) := by
  rcases h with ⟨_, h1, h2⟩ | ⟨h, _⟩
  · exact ⟨h1, h2⟩
  · exact absurd h he
theorem FileR.ok {d : Dk} {s : ByteArray} {k e : Int} (h : FileR d s k e) (he : e = 0) : ∃ j : Nat, k = (j : Int) ∧ findN d.seen s = some j ∧ readD d s = ((d.fl j).bytes, 0) ∧ ∀ f, onFile d s f = f j := by
  rcases h with ⟨h, _⟩ | ⟨_, h⟩
  · exact absurd he h
  · exact h
set_option maxHeartbeats 4000000 in
theorem rread_spec (p : Nat) (d : Dk) (hd : d.Ok) (hw : Few d) (s : ByteArray) : Spec Tryz.prog 65 [pv p, .string s] [RDA p d] (fun r L => r = .tuple #[.string ⟨(readD d s).1.toArray⟩, .int .i64 (readD d s).2] ∧ L = [RDA p d]) := by
 refine RDA.open' fun ⟨fv, sv, av, wv⟩ => ?_
 have hff := hw.1
 refine Spec.of 25 Tryz.func65 rfl rfl rfl ?_
 refine swp_sr ?_
 refine s_as rfl ?_
 refine s_as rfl ?_
 refine swl_sub _ (sc0 0 rfl (sc0 1 rfl .nil)) ?_
 refine swl_nn ?_
 refine swp_sr ?_
 refine s_mv rfl ?_
 refine s_mv rfl ?_
 refine s_ef (ef_fn (rfile_spec p d hd ⟨fv, sv, av, wv⟩ s) rfl rfl sp0) ?_
 rintro v11 L1 ⟨⟨k, e, rfl, hR⟩, rfl⟩
 refine swl_app ?_
 refine s_mv rfl ?_
 refine s_pu (pu_extractL rfl) ?_
 refine s_pu (pu_extractL rfl) ?_
 refine s_as rfl ?_
 refine s_as rfl ?_
 refine swl_sub _ (sc0 0 rfl (sc0 6 rfl (sc0 7 rfl .nil))) ?_
 refine swl_nn ?_
 refine swp_seq ?_
 refine swp_sr ?_
 refine s_mv rfl ?_
 refine s_pu (pu_neq rfl rfl) ?_
 refine swl_sub _ (sc0 0 rfl (sc0 6 rfl (sc0 7 rfl (sc0 15 rfl .nil)))) ?_
 refine swl_nn ?_
 refine swp_cond (b := _) rfl (fun h15 => ?_) (fun h15 => ?_)
 ·skip
  refine swp_sr ?_
  refine s_mv rfl ?_
  refine s_as rfl ?_
  refine s_as rfl ?_
  refine swl_sub _ (sc0 4 rfl (sc0 5 rfl .nil)) ?_
  refine swl_nn ?_
  refine swp_ret ?_
  refine then_r ?_
  rw [(hR.err (by simpa using h15)).1]
  exact done_retE [RDA p d] (.tmp rfl (.tmp rfl .nil)) ⟨rfl, rfl⟩ ((Split.ent' (K := [blk p 92 (rdC d.quota fv sv av wv d.falls d.off), own 96 2 fv d.files.length (d.files.flatMap rF1), own 138 2 sv d.seen.length (d.seen.flatMap rN1), own 138 2 av d.safe.length (d.safe.flatMap rN1), own 99 3 wv d.pend.length (d.pend.flatMap rC1)]) sp0).trans (rd_close (x := ⟨fv, sv, av, wv⟩)))
 ·skip
  obtain ⟨j, rfl, hf, hr, _⟩ := hR.ok (by simpa using h15)
  have hj := file_lt hd hf
  refine swp_ent (Split.ent' (K := [own 96 2 fv d.files.length (d.files.flatMap rF1), blk p 92 (rdC d.quota fv sv av wv d.falls d.off), own 138 2 sv d.seen.length (d.seen.flatMap rN1), own 138 2 av d.safe.length (d.safe.flatMap rN1), own 99 3 wv d.pend.length (d.pend.flatMap rC1)]) sp0) ?_
  refine swp_fact (fun m h => own_pos h om0) fun ⟨b, c, hfv, hlc, hcm⟩ => ?_
  subst hfv
  have hcell := flat_at (f := rF1) (n := 2) (fun _ => rfl) (fl_at hj) 0 _ rfl
  refine swp_skip ?_
  refine then_n ?_
  refine swp_sr ?_
  refine s_mv rfl ?_
  refine s_pu (pu_nilCheck rfl) ?_
  refine s_pu (pu_fieldAddr0 rfl) ?_
  refine s_rd (rd_load rfl rfl) ?_
  refine s_mv rfl ?_
  refine s_pu (pu_indexAddr (0 + j * 2) rfl rfl om0 om0 (by rw [Int.toNat_natCast])) ?_
  refine s_pu (pu_fieldAddr rfl) ?_
  refine s_rd (rd_own rfl tk0 (by rw [Nat.zero_add]; exact hcell)) ?_
  refine s_as rfl ?_
  refine s_as rfl ?_
  refine swl_sub _ (sc0 4 rfl (sc0 5 rfl .nil)) ?_
  refine swl_nn ?_
  refine swp_ret ?_
  rw [hr]
  exact done_retE [RDA p d] (.tmp rfl (.tmp rfl .nil)) ⟨rfl, rfl⟩ ((Split.ent' (K := [blk p 92 (rdC d.quota (.slice (some ⟨b, 0, none⟩) d.files.length c) sv av wv d.falls d.off), own 96 2 (.slice (some ⟨b, 0, none⟩) d.files.length c) d.files.length (d.files.flatMap rF1), own 138 2 sv d.seen.length (d.seen.flatMap rN1), own 138 2 av d.safe.length (d.safe.flatMap rN1), own 99 3 wv d.pend.length (d.pend.flatMap rC1)]) sp0).trans (rd_close (x := ⟨.slice (some ⟨b, 0, none⟩) d.files.length c, sv, av, wv⟩)))
set_option maxHeartbeats 4000000 in
theorem rsync_spec (p : Nat) (d : Dk) (hd : d.Ok) (hw : Few d) (s : ByteArray) : Spec Tryz.prog 107 [pv p, .string s] [RDA p d] (fun r L => r = .int .i64 (syncD d s).2 ∧ L = [RDA p (syncD d s).1]) := by
 refine RDA.open' fun ⟨fv, sv, av, wv⟩ => ?_
 have hff := hw.1
 refine Spec.of 37 Tryz.func107 rfl rfl rfl ?_
 refine swp_sr ?_
 refine s_as rfl ?_
 refine swl_sub _ (sc0 0 rfl (sc0 1 rfl .nil)) ?_
 refine swl_nn ?_
 refine swp_sr ?_
 refine s_mv rfl ?_
 refine s_mv rfl ?_
 refine s_ef (ef_fn (rfile_spec p d hd ⟨fv, sv, av, wv⟩ s) rfl rfl sp0) ?_
 rintro v10 L1 ⟨⟨k, e, rfl, hR⟩, rfl⟩
 refine swl_app ?_
 refine s_mv rfl ?_
 refine s_pu (pu_extractL rfl) ?_
 refine s_pu (pu_extractL rfl) ?_
 refine s_as rfl ?_
 refine s_as rfl ?_
 refine swl_sub _ (sc0 0 rfl (sc0 5 rfl (sc0 6 rfl .nil))) ?_
 refine swl_nn ?_
 refine swp_seq ?_
 refine swp_sr ?_
 refine s_mv rfl ?_
 refine s_pu (pu_neq rfl rfl) ?_
 refine swl_sub _ (sc0 0 rfl (sc0 5 rfl (sc0 6 rfl (sc0 14 rfl .nil)))) ?_
 refine swl_nn ?_
 refine swp_cond (b := _) rfl (fun h14 => ?_) (fun h14 => ?_)
 ·skip
  refine swp_sr ?_
  refine s_mv rfl ?_
  refine s_as rfl ?_
  refine swl_sub _ (sc0 4 rfl .nil) ?_
  refine swl_nn ?_
  refine swp_ret ?_
  refine then_r ?_
  unfold syncD
  rw [(hR.err (by simpa using h14)).2]
  exact done_retE [RDA p d] (.tmp rfl .nil) ⟨rfl, rfl⟩ ((Split.ent' (K := [blk p 92 (rdC d.quota fv sv av wv d.falls d.off), own 96 2 fv d.files.length (d.files.flatMap rF1), own 138 2 sv d.seen.length (d.seen.flatMap rN1), own 138 2 av d.safe.length (d.safe.flatMap rN1), own 99 3 wv d.pend.length (d.pend.flatMap rC1)]) sp0).trans (rd_close (x := ⟨fv, sv, av, wv⟩)))
 ·skip
  obtain ⟨j, rfl, hf, _, hon⟩ := hR.ok (by simpa using h14)
  have hj := file_lt hd hf
  refine swp_ent (Split.ent' (K := [own 96 2 fv d.files.length (d.files.flatMap rF1), blk p 92 (rdC d.quota fv sv av wv d.falls d.off), own 138 2 sv d.seen.length (d.seen.flatMap rN1), own 138 2 av d.safe.length (d.safe.flatMap rN1), own 99 3 wv d.pend.length (d.pend.flatMap rC1)]) sp0) ?_
  refine swp_fact (fun m h => own_pos h om0) fun ⟨b, c, hfv, hlc, hcm⟩ => ?_
  have hcell := flat_at (f := rF1) (n := 2) (fun _ => rfl) (fl_at hj) 0 _ rfl
  have hst := set_safe (fl_at hj)
  have hfl : (d.files.flatMap rF1).length = d.files.length * 2 := flat_length (f := rF1) (k := 2) (fun _ => rfl) _
  refine swp_skip ?_
  refine then_n ?_
  refine swp_sr ?_
  refine s_mv rfl ?_
  refine s_ef (ef_fn (rstep' p d.quota fv sv av wv d.falls d.off hd.falls) rfl rfl sp0) ?_
  rintro v17 L1 ⟨rfl, rfl⟩
  refine swl_app ?_
  refine s_as rfl ?_
  refine swl_sub _ (sc0 0 rfl (sc0 5 rfl (sc0 6 rfl .nil))) ?_
  refine swl_nn ?_
  refine swp_seq ?_
  refine swp_sr ?_
  refine s_mv rfl ?_
  refine s_pu (pu_eql rfl rfl) ?_
  refine swl_sub _ (sc0 0 rfl (sc0 5 rfl (sc0 6 rfl (sc0 19 rfl .nil)))) ?_
  refine swl_nn ?_
  refine swp_cond (b := _) rfl (fun h19 => ?_) (fun h19 => ?_)
  ·skip
   have hfn : d.falls ≠ 1 := sE_f (of_decide_eq_true h19)
   rw [(st_n (off := d.off) hfn).1, (st_n hfn).2]
   have key : syncD d s = ((fa1 d).setF j ⟨(d.fl j).bytes, (d.fl j).bytes.length⟩, 0) := by unfold syncD; rw [hon]; exact atStep_n hfn _
   subst hfv
   refine swp_draw [3, 8, 12] _ [] (by simp only [List.append_nil]; exact Ent.refl _) kr0 ?_
   refine d_pu 0 rfl (pu_move rfl) kr0 kr0 kr0 ?_
   refine d_pu 1 rfl (pu_nilCheck rfl) kr0 kr0 kr0 ?_
   refine d_pu 2 rfl (pu_fieldAddr0 rfl) kr0 kr0 kr0 ?_
   refine d_rd 3 rfl (rd_load rfl rfl) rfl kr0 kr0 kr0 ?_
   refine d_pu 4 rfl (pu_move rfl) kr0 kr0 kr0 ?_
   refine d_pu 5 rfl (pu_move rfl) kr0 kr0 kr0 ?_
   refine d_pu 6 rfl (pu_nilCheck rfl) kr0 kr0 kr0 ?_
   refine d_pu 7 rfl (pu_fieldAddr0 rfl) kr0 kr0 kr0 ?_
   refine d_rd 8 rfl (rd_load rfl rfl) rfl kr0 kr0 kr0 ?_
   refine d_pu 9 rfl (pu_move rfl) kr0 kr0 kr0 ?_
   refine d_pu 10 rfl (pu_indexAddr (0 + j * 2) rfl rfl om0 om0 (by rw [Int.toNat_natCast])) kr0 kr0 kr0 ?_
   refine d_pu 11 rfl (pu_fieldAddr rfl) kr0 kr0 kr0 ?_
   refine d_rd 12 rfl (rd_own rfl tk0 (by rw [Nat.zero_add]; exact hcell)) rfl kr0 kr0 kr0 ?_
   refine d_pu 13 rfl (pu_strlen rfl) kr0 kr0 kr0 ?_
   refine d_pu 14 rfl (pu_indexAddr (0 + j * 2) rfl rfl om0 om0 (by rw [Int.toNat_natCast])) kr0 kr0 kr0 ?_
   refine d_pu 15 rfl (pu_fieldAddr rfl) kr0 kr0 kr0 ?_
   refine d_fin0t 16 rfl kr0 kr0 (ef_store_own rfl rfl sp0 (by rw [hfl]; omega) rfl) ?_
   refine d_sub _ (sc0 6 rfl .nil) ?_
   refine d_nilf kr0 ?_
   refine then_n ?_
   refine swp_sr ?_
   refine s_mv rfl ?_
   refine s_as rfl ?_
   refine swl_sub _ (sc0 4 rfl .nil) ?_
   refine swl_nn ?_
   refine swp_ret ?_
   have hE : sE d.falls = 0 := sE_n hfn
   rw [key, hE]
   refine done_retE [RDA p ((fa1 d).setF j ⟨(d.fl j).bytes, (d.fl j).bytes.length⟩)] (.tmp rfl .nil) ⟨rfl, rfl⟩ ?_
   rw [tsize, hst]
   have e1 : (d.files.set j ⟨(d.fl j).bytes, (d.fl j).bytes.length⟩).length = d.files.length := List.length_set
   refine Ent.trans (Split.ent' (K := [blk p 92 (rdC d.quota (.slice (some ⟨b, 0, none⟩) d.files.length c) sv av wv (if 0 < d.falls then d.falls - 1 else d.falls) d.off), own 96 2 (.slice (some ⟨b, 0, none⟩) d.files.length c) d.files.length ((d.files.set j ⟨(d.fl j).bytes, (d.fl j).bytes.length⟩).flatMap rF1), own 138 2 sv d.seen.length (d.seen.flatMap rN1), own 138 2 av d.safe.length (d.safe.flatMap rN1), own 99 3 wv d.pend.length (d.pend.flatMap rC1)]) sp0) ?_
   have := rd_close (p := p) (L := []) (d := (fa1 d).setF j ⟨(d.fl j).bytes, (d.fl j).bytes.length⟩) (x := ⟨.slice (some ⟨b, 0, none⟩) d.files.length c, sv, av, wv⟩)
   rw [show ((fa1 d).setF j ⟨(d.fl j).bytes, (d.fl j).bytes.length⟩).files = d.files.set j ⟨(d.fl j).bytes, (d.fl j).bytes.length⟩ from rfl, e1] at this
   exact this
  ·skip
   refine swp_skip ?_
   refine then_n ?_
   refine swp_sr ?_
   refine s_mv rfl ?_
   refine s_as rfl ?_
   refine swl_sub _ (sc0 4 rfl .nil) ?_
   refine swl_nn ?_
   refine swp_ret ?_
   have hf1 : d.falls = 1 := sE_t (of_decide_eq_false h19)
   have key : syncD d s = (fa0 d, 8) := by unfold syncD; rw [hon]; exact atStep_1 hf1 _
   rw [key, sE_1 hf1, (st_1 (off := d.off) hf1).1, (st_1 hf1).2]
   exact done_retE [RDA p (fa0 d)] (.tmp rfl .nil) ⟨rfl, rfl⟩ ((Split.ent' (K := [blk p 92 (rdC d.quota fv sv av wv 0 true), own 96 2 fv d.files.length (d.files.flatMap rF1), own 138 2 sv d.seen.length (d.seen.flatMap rN1), own 138 2 av d.safe.length (d.safe.flatMap rN1), own 99 3 wv d.pend.length (d.pend.flatMap rC1)]) sp0).trans (rd_close (d := fa0 d) (x := ⟨fv, sv, av, wv⟩)))
set_option maxHeartbeats 4000000 in
theorem rsyncn_spec (p : Nat) (d : Dk) (hd : d.Ok) : Spec Tryz.prog 112 [pv p] [RDA p d] (fun r L => r = .int .i64 (syncNamesD d).2 ∧ L = [RDA p (syncNamesD d).1]) := by
 refine RDA.open' fun ⟨fv, sv, av, wv⟩ => ?_
 have hsl := hd.seenLe
 have hch : chgN d.seen ⟨nos, nos, 0⟩ = d.seen := by
  unfold chgN
  rw [if_pos (strEq_refl _), List.append_nil]
  refine List.filter_eq_self.2 fun y hy => ?_
  unfold keepN
  rw [hd.names y hy]; rfl
 refine Spec.of 25 Tryz.func112 rfl rfl rfl ?_
 refine swp_sr ?_
 refine s_as rfl ?_
 refine swl_sub _ (sc0 0 rfl .nil) ?_
 refine swl_nn ?_
 refine swp_seq ?_
 refine swp_sr ?_
 refine s_mv rfl ?_
 refine s_pu (pu_nilCheck rfl) ?_
 refine s_pu (pu_fieldAddr0 rfl) ?_
 refine s_rd (rd_load rfl rfl) ?_
 refine swl_sub _ (sc0 0 rfl (sc0 7 rfl .nil)) ?_
 refine swl_nn ?_
 refine swp_cond (b := _) rfl (fun h7 => ?_) (fun h7 => ?_)
 ·skip
  refine swp_sr ?_
  refine s_as rfl ?_
  refine swl_sub _ (sc0 2 rfl .nil) ?_
  refine swl_nn ?_
  refine swp_ret ?_
  refine then_r ?_
  have key : syncNamesD d = (d, 8) := by unfold syncNamesD; rw [if_pos h7]
  rw [key]
  exact done_retE [RDA p d] (.tmp rfl .nil) ⟨rfl, rfl⟩ ((Split.ent' (K := [blk p 92 (rdC d.quota fv sv av wv d.falls d.off), own 96 2 fv d.files.length (d.files.flatMap rF1), own 138 2 sv d.seen.length (d.seen.flatMap rN1), own 138 2 av d.safe.length (d.safe.flatMap rN1), own 99 3 wv d.pend.length (d.pend.flatMap rC1)]) sp0).trans (rd_close (x := ⟨fv, sv, av, wv⟩)))
 ·skip
  refine swp_skip ?_
  refine then_n ?_
  refine swp_sr ?_
  refine s_mv rfl ?_
  refine s_ef (ef_fn (rstep' p d.quota fv sv av wv d.falls d.off hd.falls) rfl rfl sp0) ?_
  rintro v9 L1 ⟨rfl, rfl⟩
  refine swl_app ?_
  refine s_as rfl ?_
  refine swl_sub _ (sc0 0 rfl (sc0 3 rfl .nil)) ?_
  refine swl_nn ?_
  refine swp_seq ?_
  refine swp_sr ?_
  refine s_mv rfl ?_
  refine s_pu (pu_eql rfl rfl) ?_
  refine swl_sub _ (sc0 0 rfl (sc0 3 rfl (sc0 11 rfl .nil))) ?_
  refine swl_nn ?_
  refine swp_cond (b := _) rfl (fun h11 => ?_) (fun h11 => ?_)
  ·skip
   have hfn : d.falls ≠ 1 := sE_f (of_decide_eq_true h11)
   rw [(st_n (off := d.off) hfn).1, (st_n hfn).2]
   have key : syncNamesD d = (({ (fa1 d) with safe := d.seen, pend := [] } : Dk), 0) := by unfold syncNamesD; rw [if_neg (by rw [h7]; decide)]; exact atStep_n hfn _
   refine swp_sr ?_
   refine s_mv rfl ?_
   refine s_mv rfl ?_
   refine s_pu (pu_nilCheck rfl) ?_
   refine s_pu (pu_fieldAddr0 rfl) ?_
   refine s_rd (rd_load rfl rfl) ?_
   refine s_pu (pu_bld (qs := []) rfl) ?_
   refine s_ef (ef_fn (changed_spec sv d.seen om0 ⟨nos, nos, 0⟩) rfl rfl sp0) ?_
   rintro v18 L1 ⟨⟨A1, c1, rfl⟩, rfl⟩
   rw [hch]
   refine swl_app ?_
   refine s_pu (pu_nilCheck rfl) ?_
   refine s_pu (pu_fieldAddr0 rfl) ?_
   refine s_ef0 (ef_store rfl rfl rfl) ?_
   refine swl_sub _ (sc0 0 rfl (sc0 3 rfl .nil)) ?_
   refine swl_nn ?_
   refine swp_region ?_
   refine s_mv rfl ?_
   refine s_pu (pu_nilCheck rfl) ?_
   refine s_pu (pu_fieldAddr0 rfl) ?_
   refine s_ef0 (ef_store rfl rfl rfl) ?_
   refine swl_sub _ (sc0 3 rfl .nil) ?_
   refine swl_nn ?_
   refine swp_sr ?_
   refine s_mv rfl ?_
   refine s_as rfl ?_
   refine swl_sub _ (sc0 2 rfl .nil) ?_
   refine swl_nn ?_
   refine swp_ret ?_
   have hE : sE d.falls = 0 := sE_n hfn
   rw [key, hE]
   refine done_retE [RDA p ({ (fa1 d) with safe := d.seen, pend := [] } : Dk)] (.tmp rfl .nil) ⟨rfl, rfl⟩ ?_
   refine Ent.trans (own_nil_ent (e := 99) (n := 3)) ?_
   exact Ent.trans (Split.ent' (K := [blk p 92 (rdC d.quota fv sv (.slice A1 d.seen.length c1) (.slice none 0 0) (if 0 < d.falls then d.falls - 1 else d.falls) d.off), own 96 2 fv d.files.length (d.files.flatMap rF1), own 138 2 sv d.seen.length (d.seen.flatMap rN1), own 138 2 (.slice A1 d.seen.length c1) d.seen.length (d.seen.flatMap rN1), own 99 3 (.slice none 0 0) 0 []]) sp0) (rd_close (d := { (fa1 d) with safe := d.seen, pend := [] }) (x := ⟨fv, sv, .slice A1 d.seen.length c1, .slice none 0 0⟩))
  ·skip
   refine swp_skip ?_
   refine then_n ?_
   refine swp_sr ?_
   refine s_mv rfl ?_
   refine s_as rfl ?_
   refine swl_sub _ (sc0 2 rfl .nil) ?_
   refine swl_nn ?_
   refine swp_ret ?_
   have hf1 : d.falls = 1 := sE_t (of_decide_eq_false h11)
   have key : syncNamesD d = (fa0 d, 8) := by unfold syncNamesD; rw [if_neg (by rw [h7]; decide)]; exact atStep_1 hf1 _
   rw [key, sE_1 hf1, (st_1 (off := d.off) hf1).1, (st_1 hf1).2]
   exact done_retE [RDA p (fa0 d)] (.tmp rfl .nil) ⟨rfl, rfl⟩ ((Split.ent' (K := [blk p 92 (rdC d.quota fv sv av wv 0 true), own 96 2 fv d.files.length (d.files.flatMap rF1), own 138 2 sv d.seen.length (d.seen.flatMap rN1), own 138 2 av d.safe.length (d.safe.flatMap rN1), own 99 3 wv d.pend.length (d.pend.flatMap rC1)]) sp0).trans (rd_close (d := fa0 d) (x := ⟨fv, sv, av, wv⟩)))
end SX
namespace SX
open Go Go.Proofs
theorem sum_take_succ {l : List Nm} {f : Nm → Nat} {i : Nat} {y : Nm} (h : l[i]? = some y) : ((l.take (i + 1)).map f).sum = ((l.take i).map f).sum + f y := by
  rw [List.take_add_one, h, List.map_append, List.sum_append]; simp
set_option maxHeartbeats 4000000 in
theorem rused_spec (p : Nat) (d : Dk) (hd : d.Ok) (hw : Few d) (fv sv av wv : Value) : Spec Tryz.prog 73 [pv p] [blk p 92 (rdC d.quota fv sv av wv d.falls d.off), own 96 2 fv d.files.length (d.files.flatMap rF1), own 138 2 sv d.seen.length (d.seen.flatMap rN1)] (fun r L => r = .int .i64 (d.used : Nat) ∧ L = [blk p 92 (rdC d.quota fv sv av wv d.falls d.off), own 96 2 fv d.files.length (d.files.flatMap rF1), own 138 2 sv d.seen.length (d.seen.flatMap rN1)]) := by
 have hsl := hd.seenLe
 have hff := hw.1
 refine Spec.pre (pre := [own 138 2 sv d.seen.length (d.seen.flatMap rN1), blk p 92 (rdC d.quota fv sv av wv d.falls d.off), own 96 2 fv d.files.length (d.files.flatMap rF1)]) ?_ (Split.ent' sp0)
 refine Spec.fact' (fun m h => own_cap2 h) fun ⟨A, c, hv, hlc, hcm, hA, hA2⟩ => ?_
 simp only [maxLen] at hcm
 subst hv
 refine Spec.of 33 Tryz.func73 rfl rfl rfl ?_
 refine swp_sr ?_
 refine s_as rfl ?_
 refine swl_sub _ (sc0 0 rfl .nil) ?_
 refine swl_nn ?_
 refine swp_sr ?_
 refine s_as rfl ?_
 refine swl_sub _ (sc0 0 rfl (sc0 3 rfl .nil)) ?_
 refine swl_nn ?_
 refine swp_seq ?_
 refine swp_sr ?_
 refine s_as rfl ?_
 refine swl_sub _ (sc0 0 rfl (sc0 3 rfl (sc0 4 rfl .nil))) ?_
 refine swl_nn ?_
 refine swp_block ?_
 refine swp_loop (ι := Nat) (fun i env L => Sub env [(0, pv p), (3, .int .i64 (((d.seen.take i).map fun y => (d.fl y.2).bytes.length).sum : Nat)), (4, .int .i64 (i : Nat))] ∧ Ent L [own 96 2 fv d.files.length (d.files.flatMap rF1), blk p 92 (rdC d.quota fv (.slice A d.seen.length c) av wv d.falls d.off), own 138 2 (.slice A d.seen.length c) d.seen.length (d.seen.flatMap rN1)] ∧ i ≤ d.seen.length) (fun i => d.seen.length - i) 0 ⟨⟨rfl, rfl, rfl, trivial⟩, Split.ent' sp0, Nat.zero_le _⟩ ?_
 rintro i env L ⟨hsub, hE, hi⟩
 refine swp_sub _ hsub ?_
 refine swp_ent hE ?_
 clear hsub hE env L
 refine swp_seq ?_
 refine swp_sr ?_
 refine s_mv rfl ?_
 refine s_mv rfl ?_
 refine s_pu (pu_nilCheck rfl) ?_
 refine s_pu (pu_fieldAddr0 rfl) ?_
 refine s_rd (rd_load rfl rfl) ?_
 refine s_pu (pu_len rfl) ?_
 refine s_pu (pu_lss rfl rfl) ?_
 refine swl_sub _ (sc0 0 rfl (sc0 3 rfl (sc0 4 rfl (sc0 11 rfl .nil)))) ?_
 refine swl_nn ?_
 refine swp_cond (b := _) rfl (fun h11 => ?_) (fun h11 => ?_)
 ·skip
  have h11' : i < d.seen.length := by have := of_decide_eq_true h11; omega
  obtain ⟨a, ha⟩ : ∃ a, A = some a := by cases A with | none => have := hA rfl; omega | some a => exact ⟨a, rfl⟩
  obtain ⟨b, rfl⟩ := hA2 a ha
  subst ha
  obtain ⟨y, hy⟩ : ∃ y, d.seen[i]? = some y := ⟨_, List.getElem?_eq_getElem h11'⟩
  have hcell := flat_at (f := rN1) (n := 2) (fun _ => rfl) hy 1 _ rfl
  have hj : y.2 < d.files.length := (hd.seenOk.good y (List.mem_of_getElem? hy)).2
  have hcell2 := flat_at (f := rF1) (n := 2) (fun _ => rfl) (fl_at hj) 0 _ rfl
  have hsum := sum_take_succ (f := fun y : Nm => (d.fl y.2).bytes.length) hy
  have hul : ((d.seen.take (i + 1)).map fun y : Nm => (d.fl y.2).bytes.length).sum ≤ 64 * mostF := by
   have h1 := sum_le (fun y : Nm => (d.fl y.2).bytes.length) mostF (d.seen.take (i + 1)) fun y _ => (Dk.fl_ok hd y.2).1
   have h2 : (d.seen.take (i + 1)).length ≤ 64 := by rw [List.length_take]; omega
   exact Nat.le_trans h1 (Nat.mul_le_mul_right _ h2)
  simp only [mostF] at hul
  refine swp_fact (fun m h => own_pos h om0) fun ⟨b2, c2, hfv, hlc2, hcm2⟩ => ?_
  subst hfv
  refine swp_skip ?_
  refine then_n ?_
  refine swp_seq ?_
  refine swp_block ?_
  refine swp_draw [4, 8, 12, 15] _ [] (by simp only [List.append_nil]; exact Ent.refl _) kr0 ?_
  refine d_pu 0 rfl (pu_move rfl) kr0 kr0 kr0 ?_
  refine d_pu 1 rfl (pu_move rfl) kr0 kr0 kr0 ?_
  refine d_pu 2 rfl (pu_nilCheck rfl) kr0 kr0 kr0 ?_
  refine d_pu 3 rfl (pu_fieldAddr0 rfl) kr0 kr0 kr0 ?_
  refine d_rd 4 rfl (rd_load rfl rfl) rfl kr0 kr0 kr0 ?_
  refine d_pu 5 rfl (pu_move rfl) kr0 kr0 kr0 ?_
  refine d_pu 6 rfl (pu_nilCheck rfl) kr0 kr0 kr0 ?_
  refine d_pu 7 rfl (pu_fieldAddr0 rfl) kr0 kr0 kr0 ?_
  refine d_rd 8 rfl (rd_load rfl rfl) rfl kr0 kr0 kr0 ?_
  refine d_pu 9 rfl (pu_move rfl) kr0 kr0 kr0 ?_
  refine d_pu 10 rfl (pu_indexAddr (0 + i * 2) rfl rfl om0 om0 (by rw [Int.toNat_natCast])) kr0 kr0 kr0 ?_
  refine d_pu 11 rfl (pu_fieldAddr rfl) kr0 kr0 kr0 ?_
  refine d_rd 12 rfl (rd_own rfl tk0 (by rw [Nat.zero_add]; exact hcell)) rfl kr0 kr0 kr0 ?_
  refine d_pu 13 rfl (pu_indexAddr (0 + y.2 * 2) rfl rfl om0 om0 (by rw [Int.toNat_natCast])) kr0 kr0 kr0 ?_
  refine d_pu 14 rfl (pu_fieldAddr rfl) kr0 kr0 kr0 ?_
  refine d_rd 15 rfl (rd_own rfl tk0 (by rw [Nat.zero_add]; exact hcell2)) rfl kr0 kr0 kr0 ?_
  refine d_pu 16 rfl (pu_strlen rfl) kr0 kr0 kr0 ?_
  refine d_pu 17 rfl (pu_add_as ((((d.seen.take (i + 1)).map fun y => (d.fl y.2).bytes.length).sum : Nat) : Int) rfl rfl (by rw [hsum, tsize]; omega) om0 om0) kr0 kr0 kr0 ?_
  refine d_pu 18 rfl (pu_assign rfl) kr0 kr0 kr0 ?_
  refine d_sub _ (sc0 0 rfl (sc0 3 rfl (sc0 4 rfl .nil))) ?_
  refine d_nilt kr0 ?_
  refine block_n ?_
  refine then_n ?_
  refine swp_region ?_
  refine s_mv rfl ?_
  refine s_pu (pu_add_as ((i + 1 : Nat) : Int) rfl rfl om0 om0 om0) ?_
  refine s_as rfl ?_
  refine swl_sub _ (sc0 0 rfl (sc0 3 rfl (sc0 4 rfl .nil))) ?_
  refine swl_nil ?_
  exact then_n ⟨i + 1, ⟨⟨rfl, rfl, rfl, trivial⟩, Split.ent' sp0, h11'⟩, by omega⟩
 ·skip
  have h11' : i = d.seen.length := by have := of_decide_eq_false h11; omega
  rw [h11', List.take_length]
  refine swp_exit ?_
  refine then_x ?_
  refine then_x ?_
  refine block_hit rfl ?_
  refine then_n ?_
  refine swp_sr ?_
  refine s_mv rfl ?_
  refine s_as rfl ?_
  refine swl_sub _ (sc0 2 rfl .nil) ?_
  refine swl_nn ?_
  refine swp_ret ?_
  exact done_ret [blk p 92 (rdC d.quota fv (.slice A d.seen.length c) av wv d.falls d.off), own 96 2 fv d.files.length (d.files.flatMap rF1), own 138 2 (.slice A d.seen.length c) d.seen.length (d.seen.flatMap rN1)] (.tmp rfl .nil) ⟨rfl, rfl⟩ sp0
end SX
