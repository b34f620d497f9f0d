/- A part of the proof: walks of the program's functions, and the rules by which they go. -/
import Derived.Test.YtllgakmdhjgmoaaGreatB6b75a4d6
import Derived.Test.YtllgakmdhjgmoaaGreatB0a7e322b
import Derived.Test.YtllgakmdhjgmoaaGreatB63c38127
namespace SX
open Go Go.Proofs
def sE (fa : Int) : Int := if fa = 1 then 8 else 0
def sA (fa : Int) : Int := if fa = 1 then 0 else if 0 < fa then fa - 1 else fa
def sO (fa : Int) (off : Bool) : Bool := if fa = 1 then true else off
theorem sE_1 {fa : Int} (h : fa = 1) : sE fa = 8 := if_pos h
theorem sE_n {fa : Int} (h : fa ≠ 1) : sE fa = 0 := if_neg h
theorem sE_t {fa : Int} (h : sE fa ≠ 0) : fa = 1 := by
  unfold sE at h; split at h
  · assumption
  · exact absurd rfl h
theorem sE_f {fa : Int} (h : sE fa = 0) : fa ≠ 1 := fun k => by rw [sE_1 k] at h; cases h
theorem rstep' (p : Nat) (q : Int) (fv sv av wv : Value) (fa : Int) (off : Bool) (h0 : 0 ≤ fa ∧ fa ≤ 9223372036854775807) : Spec Tryz.prog 42 [pv p] [blk p 92 (rdC q fv sv av wv fa off)]
    (fun r L => r = .int .i64 (sE fa) ∧ L = [blk p 92 (rdC q fv sv av wv (sA fa) (sO fa off))]) :=
  (rstep_spec p q fv sv av wv fa off h0).mono fun r L h => by
    unfold sE sA sO
    rcases h with ⟨h, rfl, rfl⟩ | ⟨h, rfl, rfl⟩
    · rw [if_pos h, if_pos h, if_pos h]; exact ⟨rfl, rfl⟩
    · rw [if_neg h, if_neg h, if_neg h]; exact ⟨rfl, rfl⟩
theorem st_1 {fa : Int} {off : Bool} (h : fa = 1) : sA fa = 0 ∧ sO fa off = true := ⟨if_pos h, if_pos h⟩
theorem st_n {fa : Int} {off : Bool} (h : fa ≠ 1) : sA fa = (if 0 < fa then fa - 1 else fa) ∧ sO fa off = off := ⟨if_neg h, if_neg h⟩
theorem isNone_of {l : List Nm} {s : ByteArray} (h : findN l s = none) : (findN l s).isNone = true := by rw [h]; rfl
set_option maxHeartbeats 4000000 in
theorem rcreate_spec (p : Nat) (d : Dk) (hd : d.Ok) (hw : Few d) (s : ByteArray) : Spec Tryz.prog 11 [pv p, .string s] [RDA p d] (fun r L => r = .int .i64 (createD d s).2 ∧ L = [RDA p (createD d s).1]) := by
  refine RDA.open' fun ⟨fv, sv, av, wv⟩ => ?_
  refine Spec.pre (pre := [own 138 2 sv d.seen.length (d.seen.flatMap rN1), blk p 92 (rdC d.quota fv sv av wv d.falls d.off), own 96 2 fv d.files.length (d.files.flatMap rF1), own 138 2 av d.safe.length (d.safe.flatMap rN1), own 99 3 wv d.pend.length (d.pend.flatMap rC1)]) ?_ (Split.ent' sp0)
  refine Spec.fact' (fun m h => own_form h) fun hsv => ?_
  have hsl := hd.seenLe
  have hff := hw.1
  have hpp := hw.2
  refine Spec.of 53 Tryz.func11 rfl rfl rfl ?_
  refine swp_sr ?_
  refine s_as rfl ?_
  refine swl_sub _ (sc0 0 rfl (sc0 1 rfl .nil)) ?_
  refine swl_nn ?_
  refine swp_seq ?_
  refine swp_sr ?_
  refine s_mv rfl ?_
  refine s_pu (pu_nilCheck rfl) ?_
  refine s_pu (pu_fieldAddr0 rfl) ?_
  refine s_rd (rd_load rfl rfl) ?_
  refine swl_sub _ (sc0 0 rfl (sc0 1 rfl (sc0 9 rfl .nil))) ?_
  refine swl_nn ?_
  refine swp_cond (b := _) rfl (fun h9 => ?_) (fun h9 => ?_)
  · skip   -- 9 T
    refine swp_sr ?_
    refine s_as rfl ?_
    refine swl_sub _ (sc0 4 rfl .nil) ?_
    refine swl_nn ?_
    refine swp_ret ?_
    refine then_r ?_
    have key : createD d s = (d, 8) := by unfold createD; rw [if_pos h9]
    rw [key]
    exact done_retE [RDA p d] (.tmp rfl .nil) ⟨rfl, rfl⟩ ((Split.ent' (K := [blk p 92 (rdC d.quota fv sv av wv d.falls d.off), own 96 2 fv d.files.length (d.files.flatMap rF1), own 138 2 sv d.seen.length (d.seen.flatMap rN1), own 138 2 av d.safe.length (d.safe.flatMap rN1), own 99 3 wv d.pend.length (d.pend.flatMap rC1)]) sp0).trans (rd_close (x := ⟨fv, sv, av, wv⟩)))
  · skip   -- 9 F
    refine swp_skip ?_
    refine then_n ?_
    refine swp_seq ?_
    refine swp_sr ?_
    refine s_mv rfl ?_
    refine s_ef (ef_fn (rgood_spec s) rfl rfl sp0) ?_
    rintro v11 L1 ⟨rfl, rfl⟩
    refine swl_app ?_
    refine s_pu (pu_not rfl) ?_
    refine swl_sub _ (sc0 0 rfl (sc0 1 rfl (sc0 12 rfl .nil))) ?_
    refine swl_nn ?_
    refine swp_cond (b := _) rfl (fun h12 => ?_) (fun h12 => ?_)
    · skip   -- 12 T
      refine swp_sr ?_
      refine s_as rfl ?_
      refine swl_sub _ (sc0 4 rfl .nil) ?_
      refine swl_nn ?_
      refine swp_ret ?_
      refine then_r ?_
      have key : createD d s = (d, 1) := by unfold createD; rw [if_neg (by rw [h9]; decide), if_pos (by simpa using h12)]
      rw [key]
      exact done_retE [RDA p d] (.tmp rfl .nil) ⟨rfl, rfl⟩ ((Split.ent' (K := [blk p 92 (rdC d.quota fv sv av wv d.falls d.off), own 96 2 fv d.files.length (d.files.flatMap rF1), own 138 2 sv d.seen.length (d.seen.flatMap rN1), own 138 2 av d.safe.length (d.safe.flatMap rN1), own 99 3 wv d.pend.length (d.pend.flatMap rC1)]) sp0).trans (rd_close (x := ⟨fv, sv, av, wv⟩)))
    · skip   -- 12 F
      have h12' : goodN s = true := by simpa using h12
      refine swp_skip ?_
      refine then_n ?_
      refine swp_cut (fun env L => Sub env [(0, pv p), (1, .string s)] ∧ Ent L [blk p 92 (rdC d.quota fv sv av wv d.falls d.off), own 96 2 fv d.files.length (d.files.flatMap rF1), own 138 2 sv d.seen.length (d.seen.flatMap rN1), own 138 2 av d.safe.length (d.safe.flatMap rN1), own 99 3 wv d.pend.length (d.pend.flatMap rC1)] ∧ ¬ ((findN d.seen s).isNone = true ∧ 64 ≤ d.seen.length)) ?_ ?_
      · skip
        refine swp_sr ?_
        refine s_mv rfl ?_
        refine s_pu (pu_nilCheck rfl) ?_
        refine s_pu (pu_fieldAddr0 rfl) ?_
        refine s_rd (rd_load rfl rfl) ?_
        refine s_mv rfl ?_
        refine s_ef (ef_fn (rfind_spec sv d.seen s om0) rfl rfl sp0) ?_
        rintro v18 L1 ⟨⟨i, rfl, hi⟩, rfl⟩
        refine swl_app ?_
        refine s_pu (pu_lss rfl rfl) ?_
        refine s_mv rfl ?_
        refine s_split 20 rfl (fun h20 => ?_) (fun h20 => ?_)
        · skip   -- 20 T
          refine s_on rfl rfl ?_
          refine s_mv rfl ?_
          refine s_on rfl rfl ?_
          refine s_pu (pu_nilCheck rfl) ?_
          refine s_on rfl rfl ?_
          refine s_pu (pu_fieldAddr0 rfl) ?_
          refine s_on rfl rfl ?_
          refine s_rd (rd_load rfl rfl) ?_
          refine s_on rfl rfl ?_
          refine s_pu (pu_len_own hsv rfl) ?_
          refine s_on rfl rfl ?_
          refine s_pu (pu_geq rfl rfl) ?_
          refine s_pu (pu_pick_t rfl rfl) ?_
          refine swl_sub _ (sc0 0 rfl (sc0 1 rfl (sc0 27 rfl .nil))) ?_
          refine swl_nn ?_
          refine swp_cond (b := _) rfl (fun h27 => ?_) (fun h27 => ?_)
          · skip   -- 27 T
            refine swp_sr ?_
            refine s_as rfl ?_
            refine swl_sub _ (sc0 4 rfl .nil) ?_
            refine swl_nn ?_
            refine swp_ret ?_
            refine then_r ?_
            have h20' := of_decide_eq_true h20
            have h27' := of_decide_eq_true h27
            have hf : findN d.seen s = none := by
              rcases hi with ⟨_, h⟩ | ⟨k, y, h, _⟩
              · exact h
              · omega
            have key : createD d s = (d, 7) := by unfold createD; rw [if_neg (by rw [h9]; decide), if_neg (by rw [h12']; decide), if_pos ⟨isNone_of hf, by omega⟩]
            rw [key]
            exact done_retE [RDA p d] (.tmp rfl .nil) ⟨rfl, rfl⟩ ((Split.ent' (K := [blk p 92 (rdC d.quota fv sv av wv d.falls d.off), own 96 2 fv d.files.length (d.files.flatMap rF1), own 138 2 sv d.seen.length (d.seen.flatMap rN1), own 138 2 av d.safe.length (d.safe.flatMap rN1), own 99 3 wv d.pend.length (d.pend.flatMap rC1)]) sp0).trans (rd_close (x := ⟨fv, sv, av, wv⟩)))
          · skip   -- 27 F
            refine swp_skip ?_
            refine then_n ⟨⟨rfl, rfl, trivial⟩, Split.ent' sp0, ?_⟩
            rintro ⟨k1, k2⟩
            first
              | (have h27' := of_decide_eq_false h27; omega)
              | (have h20' := of_decide_eq_false h20
                 rcases hi with ⟨h, _⟩ | ⟨k, y, _, _, h⟩
                 · omega
                 · rw [h] at k1; cases k1)
        · skip   -- 20 F
          refine s_off rfl rfl rfl ?_
          refine s_off rfl rfl rfl ?_
          refine s_off rfl rfl rfl ?_
          refine s_off rfl rfl rfl ?_
          refine s_off rfl rfl rfl ?_
          refine s_off rfl rfl rfl ?_
          refine s_pu (pu_pick_f rfl rfl) ?_
          refine swl_sub _ (sc0 0 rfl (sc0 1 rfl (sc0 27 rfl .nil))) ?_
          refine swl_nn ?_
          refine swp_cond (b := _) rfl (fun h27 => by cases h27) (fun h27 => ?_)
          refine swp_skip ?_
          refine then_n ⟨⟨rfl, rfl, trivial⟩, Split.ent' sp0, ?_⟩
          rintro ⟨k1, k2⟩
          first
            | (have h27' := of_decide_eq_false h27; omega)
            | (have h20' := of_decide_eq_false h20
               rcases hi with ⟨h, _⟩ | ⟨k, y, _, _, h⟩
               · omega
               · rw [h] at k1; cases k1)
      rintro env L ⟨hsub, hE, h1⟩
      refine swp_sub _ hsub ?_
      refine swp_ent hE ?_
      clear hsub hE env L
      refine swp_sr ?_
      refine s_mv rfl ?_
      refine s_ef (ef_fn (rstep' p d.quota fv sv av wv d.falls d.off hd.falls) rfl rfl sp0) ?_
      rintro v29 L1 ⟨rfl, rfl⟩
      refine swl_app ?_
      refine s_as rfl ?_
      refine swl_sub _ (sc0 0 rfl (sc0 1 rfl (sc0 5 rfl .nil))) ?_
      refine swl_nn ?_
      refine swp_seq ?_
      refine swp_sr ?_
      refine s_mv rfl ?_
      refine s_pu (pu_neq rfl rfl) ?_
      refine swl_sub _ (sc0 0 rfl (sc0 1 rfl (sc0 5 rfl (sc0 31 rfl .nil)))) ?_
      refine swl_nn ?_
      refine swp_cond (b := _) rfl (fun h31 => ?_) (fun h31 => ?_)
      · skip   -- 31 T
        refine swp_sr ?_
        refine s_mv rfl ?_
        refine s_as rfl ?_
        refine swl_sub _ (sc0 4 rfl .nil) ?_
        refine swl_nn ?_
        refine swp_ret ?_
        refine then_r ?_
        have hf1 : d.falls = 1 := sE_t (by simpa using h31)
        have key : createD d s = (fa0 d, 8) := by unfold createD; rw [if_neg (by rw [h9]; decide), if_neg (by rw [h12']; decide), if_neg h1]; exact atStep_1 hf1 _
        rw [key, sE_1 hf1, (st_1 (off := d.off) hf1).1, (st_1 hf1).2]
        exact done_retE [RDA p (fa0 d)] (.tmp rfl .nil) ⟨rfl, rfl⟩ ((Split.ent' (K := [blk p 92 (rdC d.quota fv sv av wv 0 true), own 96 2 fv d.files.length (d.files.flatMap rF1), own 138 2 sv d.seen.length (d.seen.flatMap rN1), own 138 2 av d.safe.length (d.safe.flatMap rN1), own 99 3 wv d.pend.length (d.pend.flatMap rC1)]) sp0).trans (rd_close (d := fa0 d) (x := ⟨fv, sv, av, wv⟩)))
      · skip   -- 31 F
        have hfn : d.falls ≠ 1 := sE_f (by simpa using h31)
        rw [(st_n (off := d.off) hfn).1, (st_n hfn).2]
        have key : createD d s = ((newF (fa1 d)).chg ⟨nos, s, d.files.length⟩, 0) := by unfold createD; rw [if_neg (by rw [h9]; decide), if_neg (by rw [h12']; decide), if_neg h1]; exact atStep_n hfn _
        refine swp_skip ?_
        refine then_n ?_
        refine swp_sr ?_
        refine s_mv rfl ?_
        refine s_mv rfl ?_
        refine s_pu (pu_nilCheck rfl) ?_
        refine s_pu (pu_fieldAddr0 rfl) ?_
        refine s_rd (rd_load rfl rfl) ?_
        refine s_pu (pu_bld (qs := []) rfl) ?_
        refine s_ef (ef_bldS (qs := [(0, _)]) rfl rfl rfl) ?_
        intro b39
        refine s_ef (ef_append_lit (l := d.files.length) (m := 1) (news := [.string ⟨#[]⟩, .int .i64 0]) rfl rfl sp0 (by simp only [maxLen]; omega) om0) ?_
        rintro fv' hfv'
        obtain ⟨g7, c7, rfl⟩ := hfv' (by decide)
        refine s_pu (pu_nilCheck rfl) ?_
        refine s_pu (pu_fieldAddr0 rfl) ?_
        refine s_ef0 (ef_store rfl rfl rfl) ?_
        refine swl_sub _ (sc0 0 rfl (sc0 1 rfl .nil)) ?_
        refine swl_nn ?_
        refine swp_sr ?_
        refine s_mv rfl ?_
        refine s_mv rfl ?_
        refine s_mv rfl ?_
        refine s_pu (pu_nilCheck rfl) ?_
        refine s_pu (pu_fieldAddr0 rfl) ?_
        refine s_rd (rd_load rfl rfl) ?_
        refine s_pu (pu_len rfl) ?_
        refine s_pu (pu_sub_as ((d.files.length : Nat) : Int) rfl rfl om0 om0 om0) ?_
        refine s_pu (pu_bld (qs := [(1, _), (2, _)]) rfl) ?_
        refine s_ef (ef_fn (rchange_spec p d.quota (.slice (some ⟨g7, 0, none⟩) (d.files.length + 1) c7) sv av wv (if 0 < d.falls then d.falls - 1 else d.falls) d.off d.seen d.pend om0 om0 ⟨nos, s, d.files.length⟩) rfl rfl sp0) ?_
        rintro v52 L1 ⟨sv', wv', rfl⟩
        refine swl_app ?_
        refine swl_sub _ .nil ?_
        refine swl_nn ?_
        refine swp_sr ?_
        refine s_as rfl ?_
        refine swl_sub _ (sc0 4 rfl .nil) ?_
        refine swl_nn ?_
        refine swp_ret ?_
        rw [key]
        refine done_retE [RDA p ((newF (fa1 d)).chg ⟨nos, s, d.files.length⟩)] (.tmp rfl .nil) ⟨rfl, rfl⟩ ?_
        have e1 : (d.files ++ [(⟨[], 0⟩ : Fl)]).length = d.files.length + 1 := by rw [List.length_append]; rfl
        have e2 : (d.files ++ [(⟨[], 0⟩ : Fl)]).flatMap rF1 = d.files.flatMap rF1 ++ [.string ⟨#[]⟩, .int .i64 0] := by rw [List.flatMap_append]; rfl
        refine Ent.trans (Split.ent' (K := [blk p 92 (rdC d.quota (.slice (some ⟨g7, 0, none⟩) (d.files.length + 1) c7) sv' av wv' (if 0 < d.falls then d.falls - 1 else d.falls) d.off), own 96 2 (.slice (some ⟨g7, 0, none⟩) (d.files.length + 1) c7) (d.files.length + 1) (d.files.flatMap rF1 ++ [.string ⟨#[]⟩, .int .i64 0]), own 138 2 sv' (chgN d.seen ⟨nos, s, d.files.length⟩).length ((chgN d.seen ⟨nos, s, d.files.length⟩).flatMap rN1), own 138 2 av d.safe.length (d.safe.flatMap rN1), own 99 3 wv' (d.pend ++ [(⟨nos, s, d.files.length⟩ : Cg)]).length ((d.pend ++ [(⟨nos, s, d.files.length⟩ : Cg)]).flatMap rC1)]) sp0) ?_
        rw [← e2, ← e1]
        exact rd_close (d := (newF (fa1 d)).chg ⟨nos, s, d.files.length⟩) (x := ⟨.slice (some ⟨g7, 0, none⟩) (d.files ++ [(⟨[], 0⟩ : Fl)]).length c7, sv', av, wv'⟩)
end SX
namespace SX
open Go Go.Proofs
theorem FileR.err {d : Dk} {s : ByteArray} {k e : Int} (h : FileR d s k e) (he : e ≠ 0) : readD d s = ([], e) ∧ ∀ f, onFile d s f = (d, e) := by
  rcases h with ⟨_, h1, h2⟩ | ⟨h, _⟩
  · exact ⟨h1, h2⟩
  · exact absurd h he
theorem FileR.ok {d : Dk} {s : ByteArray} {k e : Int} (h : FileR d s k e) (he : e = 0) : ∃ j : Nat, k = (j : Int) ∧ findN d.seen s = some j ∧ readD d s = ((d.fl j).bytes, 0) ∧ ∀ f, onFile d s f = f j := by
  rcases h with ⟨h, _⟩ | ⟨_, h⟩
  · exact absurd he h
  · exact h
set_option maxHeartbeats 4000000 in
theorem rsync_spec (p : Nat) (d : Dk) (hd : d.Ok) (hw : Few d) (s : ByteArray) : Spec Tryz.prog 107 [pv p, .string s] [RDA p d] (fun r L => r = .int .i64 (syncD d s).2 ∧ L = [RDA p (syncD d s).1]) := by
 refine RDA.open' fun ⟨fv, sv, av, wv⟩ => ?_
 have hff := hw.1
 refine Spec.of 37 Tryz.func107 rfl rfl rfl ?_
 refine swp_sr ?_
 refine s_as rfl ?_
 refine swl_sub _ (sc0 0 rfl (sc0 1 rfl .nil)) ?_
 refine swl_nn ?_
 refine swp_sr ?_
 refine s_mv rfl ?_
 refine s_mv rfl ?_
 refine s_ef (ef_fn (rfile_spec p d hd ⟨fv, sv, av, wv⟩ s) rfl rfl sp0) ?_
 rintro v10 L1 ⟨⟨k, e, rfl, hR⟩, rfl⟩
 refine swl_app ?_
 refine s_mv rfl ?_
 refine s_pu (pu_extractL rfl) ?_
 refine s_pu (pu_extractL rfl) ?_
 refine s_as rfl ?_
 refine s_as rfl ?_
 refine swl_sub _ (sc0 0 rfl (sc0 5 rfl (sc0 6 rfl .nil))) ?_
 refine swl_nn ?_
 refine swp_seq ?_
 refine swp_sr ?_
 refine s_mv rfl ?_
 refine s_pu (pu_neq rfl rfl) ?_
 refine swl_sub _ (sc0 0 rfl (sc0 5 rfl (sc0 6 rfl (sc0 14 rfl .nil)))) ?_
 refine swl_nn ?_
 refine swp_cond (b := _) rfl (fun h14 => ?_) (fun h14 => ?_)
 ·skip
  refine swp_sr ?_
  refine s_mv rfl ?_
  refine s_as rfl ?_
  refine swl_sub _ (sc0 4 rfl .nil) ?_
  refine swl_nn ?_
  refine swp_ret ?_
  refine then_r ?_
  unfold syncD
  rw [(hR.err (by simpa using h14)).2]
  exact done_retE [RDA p d] (.tmp rfl .nil) ⟨rfl, rfl⟩ ((Split.ent' (K := [blk p 92 (rdC d.quota fv sv av wv d.falls d.off), own 96 2 fv d.files.length (d.files.flatMap rF1), own 138 2 sv d.seen.length (d.seen.flatMap rN1), own 138 2 av d.safe.length (d.safe.flatMap rN1), own 99 3 wv d.pend.length (d.pend.flatMap rC1)]) sp0).trans (rd_close (x := ⟨fv, sv, av, wv⟩)))
 ·skip
  obtain ⟨j, rfl, hf, _, hon⟩ := hR.ok (by simpa using h14)
  have hj := file_lt hd hf
  refine swp_ent (Split.ent' (K := [own 96 2 fv d.files.length (d.files.flatMap rF1), blk p 92 (rdC d.quota fv sv av wv d.falls d.off), own 138 2 sv d.seen.length (d.seen.flatMap rN1), own 138 2 av d.safe.length (d.safe.flatMap rN1), own 99 3 wv d.pend.length (d.pend.flatMap rC1)]) sp0) ?_
  refine swp_fact (fun m h => own_pos h om0) fun ⟨b, c, hfv, hlc, hcm⟩ => ?_
  have hcell := flat_at (f := rF1) (n := 2) (fun _ => rfl) (fl_at hj) 0 _ rfl
  have hst := set_safe (fl_at hj)
  have hfl : (d.files.flatMap rF1).length = d.files.length * 2 := flat_length (f := rF1) (k := 2) (fun _ => rfl) _
  refine swp_skip ?_
  refine then_n ?_
  refine swp_sr ?_
  refine s_mv rfl ?_
  refine s_ef (ef_fn (rstep' p d.quota fv sv av wv d.falls d.off hd.falls) rfl rfl sp0) ?_
  rintro v17 L1 ⟨rfl, rfl⟩
  refine swl_app ?_
  refine s_as rfl ?_
  refine swl_sub _ (sc0 0 rfl (sc0 5 rfl (sc0 6 rfl .nil))) ?_
  refine swl_nn ?_
  refine swp_seq ?_
  refine swp_sr ?_
  refine s_mv rfl ?_
  refine s_pu (pu_eql rfl rfl) ?_
  refine swl_sub _ (sc0 0 rfl (sc0 5 rfl (sc0 6 rfl (sc0 19 rfl .nil)))) ?_
  refine swl_nn ?_
  refine swp_cond (b := _) rfl (fun h19 => ?_) (fun h19 => ?_)
  ·skip
   have hfn : d.falls ≠ 1 := sE_f (of_decide_eq_true h19)
   rw [(st_n (off := d.off) hfn).1, (st_n hfn).2]
   have key : syncD d s = ((fa1 d).setF j ⟨(d.fl j).bytes, (d.fl j).bytes.length⟩, 0) := by unfold syncD; rw [hon]; exact atStep_n hfn _
   subst hfv
   refine swp_draw [3, 8, 12] _ [] (by simp only [List.append_nil]; exact Ent.refl _) kr0 ?_
   refine d_pu 0 rfl (pu_move rfl) kr0 kr0 kr0 ?_
   refine d_pu 1 rfl (pu_nilCheck rfl) kr0 kr0 kr0 ?_
   refine d_pu 2 rfl (pu_fieldAddr0 rfl) kr0 kr0 kr0 ?_
   refine d_rd 3 rfl (rd_load rfl rfl) rfl kr0 kr0 kr0 ?_
   refine d_pu 4 rfl (pu_move rfl) kr0 kr0 kr0 ?_
   refine d_pu 5 rfl (pu_move rfl) kr0 kr0 kr0 ?_
   refine d_pu 6 rfl (pu_nilCheck rfl) kr0 kr0 kr0 ?_
   refine d_pu 7 rfl (pu_fieldAddr0 rfl) kr0 kr0 kr0 ?_
   refine d_rd 8 rfl (rd_load rfl rfl) rfl kr0 kr0 kr0 ?_
   refine d_pu 9 rfl (pu_move rfl) kr0 kr0 kr0 ?_
   refine d_pu 10 rfl (pu_indexAddr (0 + j * 2) rfl rfl om0 om0 (by rw [Int.toNat_natCast])) kr0 kr0 kr0 ?_
   refine d_pu 11 rfl (pu_fieldAddr rfl) kr0 kr0 kr0 ?_
   refine d_rd 12 rfl (rd_own rfl tk0 (by rw [Nat.zero_add]; exact hcell)) rfl kr0 kr0 kr0 ?_
   refine d_pu 13 rfl (pu_strlen rfl) kr0 kr0 kr0 ?_
   refine d_pu 14 rfl (pu_indexAddr (0 + j * 2) rfl rfl om0 om0 (by rw [Int.toNat_natCast])) kr0 kr0 kr0 ?_
   refine d_pu 15 rfl (pu_fieldAddr rfl) kr0 kr0 kr0 ?_
   refine d_fin0t 16 rfl kr0 kr0 (ef_store_own rfl rfl sp0 (by rw [hfl]; omega) rfl) ?_
   refine d_sub _ (sc0 6 rfl .nil) ?_
   refine d_nilf kr0 ?_
   refine then_n ?_
   refine swp_sr ?_
   refine s_mv rfl ?_
   refine s_as rfl ?_
   refine swl_sub _ (sc0 4 rfl .nil) ?_
   refine swl_nn ?_
   refine swp_ret ?_
   have hE : sE d.falls = 0 := sE_n hfn
   rw [key, hE]
   refine done_retE [RDA p ((fa1 d).setF j ⟨(d.fl j).bytes, (d.fl j).bytes.length⟩)] (.tmp rfl .nil) ⟨rfl, rfl⟩ ?_
   rw [tsize, hst]
   have e1 : (d.files.set j ⟨(d.fl j).bytes, (d.fl j).bytes.length⟩).length = d.files.length := List.length_set
   refine Ent.trans (Split.ent' (K := [blk p 92 (rdC d.quota (.slice (some ⟨b, 0, none⟩) d.files.length c) sv av wv (if 0 < d.falls then d.falls - 1 else d.falls) d.off), own 96 2 (.slice (some ⟨b, 0, none⟩) d.files.length c) d.files.length ((d.files.set j ⟨(d.fl j).bytes, (d.fl j).bytes.length⟩).flatMap rF1), own 138 2 sv d.seen.length (d.seen.flatMap rN1), own 138 2 av d.safe.length (d.safe.flatMap rN1), own 99 3 wv d.pend.length (d.pend.flatMap rC1)]) sp0) ?_
   have := rd_close (p := p) (L := []) (d := (fa1 d).setF j ⟨(d.fl j).bytes, (d.fl j).bytes.length⟩) (x := ⟨.slice (some ⟨b, 0, none⟩) d.files.length c, sv, av, wv⟩)
   rw [show ((fa1 d).setF j ⟨(d.fl j).bytes, (d.fl j).bytes.length⟩).files = d.files.set j ⟨(d.fl j).bytes, (d.fl j).bytes.length⟩ from rfl, e1] at this
   exact this
  ·skip
   refine swp_skip ?_
   refine then_n ?_
   refine swp_sr ?_
   refine s_mv rfl ?_
   refine s_as rfl ?_
   refine swl_sub _ (sc0 4 rfl .nil) ?_
   refine swl_nn ?_
   refine swp_ret ?_
   have hf1 : d.falls = 1 := sE_t (of_decide_eq_false h19)
   have key : syncD d s = (fa0 d, 8) := by unfold syncD; rw [hon]; exact atStep_1 hf1 _
   rw [key, sE_1 hf1, (st_1 (off := d.off) hf1).1, (st_1 hf1).2]
   exact done_retE [RDA p (fa0 d)] (.tmp rfl .nil) ⟨rfl, rfl⟩ ((Split.ent' (K := [blk p 92 (rdC d.quota fv sv av wv 0 true), own 96 2 fv d.files.length (d.files.flatMap rF1), own 138 2 sv d.seen.length (d.seen.flatMap rN1), own 138 2 av d.safe.length (d.safe.flatMap rN1), own 99 3 wv d.pend.length (d.pend.flatMap rC1)]) sp0).trans (rd_close (d := fa0 d) (x := ⟨fv, sv, av, wv⟩)))
end SX
namespace SX
open Go Go.Proofs
theorem sum_take_succ {l : List Nm} {f : Nm → Nat} {i : Nat} {y : Nm} (h : l[i]? = some y) : ((l.take (i + 1)).map f).sum = ((l.take i).map f).sum + f y := by
  rw [List.take_add_one, h, List.map_append, List.sum_append]; simp
set_option maxHeartbeats 4000000 in
theorem rused_spec (p : Nat) (d : Dk) (hd : d.Ok) (hw : Few d) (fv sv av wv : Value) : Spec Tryz.prog 73 [pv p] [blk p 92 (rdC d.quota fv sv av wv d.falls d.off), own 96 2 fv d.files.length (d.files.flatMap rF1), own 138 2 sv d.seen.length (d.seen.flatMap rN1)] (fun r L => r = .int .i64 (d.used : Nat) ∧ L = [blk p 92 (rdC d.quota fv sv av wv d.falls d.off), own 96 2 fv d.files.length (d.files.flatMap rF1), own 138 2 sv d.seen.length (d.seen.flatMap rN1)]) := by
 have hsl := hd.seenLe
 have hff := hw.1
 refine Spec.pre (pre := [own 138 2 sv d.seen.length (d.seen.flatMap rN1), blk p 92 (rdC d.quota fv sv av wv d.falls d.off), own 96 2 fv d.files.length (d.files.flatMap rF1)]) ?_ (Split.ent' sp0)
 refine Spec.fact' (fun m h => own_cap2 h) fun ⟨A, c, hv, hlc, hcm, hA, hA2⟩ => ?_
 simp only [maxLen] at hcm
 subst hv
 refine Spec.of 33 Tryz.func73 rfl rfl rfl ?_
 refine swp_sr ?_
 refine s_as rfl ?_
 refine swl_sub _ (sc0 0 rfl .nil) ?_
 refine swl_nn ?_
 refine swp_sr ?_
 refine s_as rfl ?_
 refine swl_sub _ (sc0 0 rfl (sc0 3 rfl .nil)) ?_
 refine swl_nn ?_
 refine swp_seq ?_
 refine swp_sr ?_
 refine s_as rfl ?_
 refine swl_sub _ (sc0 0 rfl (sc0 3 rfl (sc0 4 rfl .nil))) ?_
 refine swl_nn ?_
 refine swp_block ?_
 refine swp_loop (ι := Nat) (fun i env L => Sub env [(0, pv p), (3, .int .i64 (((d.seen.take i).map fun y => (d.fl y.2).bytes.length).sum : Nat)), (4, .int .i64 (i : Nat))] ∧ Ent L [own 96 2 fv d.files.length (d.files.flatMap rF1), blk p 92 (rdC d.quota fv (.slice A d.seen.length c) av wv d.falls d.off), own 138 2 (.slice A d.seen.length c) d.seen.length (d.seen.flatMap rN1)] ∧ i ≤ d.seen.length) (fun i => d.seen.length - i) 0 ⟨⟨rfl, rfl, rfl, trivial⟩, Split.ent' sp0, Nat.zero_le _⟩ ?_
 rintro i env L ⟨hsub, hE, hi⟩
 refine swp_sub _ hsub ?_
 refine swp_ent hE ?_
 clear hsub hE env L
 refine swp_seq ?_
 refine swp_sr ?_
 refine s_mv rfl ?_
 refine s_mv rfl ?_
 refine s_pu (pu_nilCheck rfl) ?_
 refine s_pu (pu_fieldAddr0 rfl) ?_
 refine s_rd (rd_load rfl rfl) ?_
 refine s_pu (pu_len rfl) ?_
 refine s_pu (pu_lss rfl rfl) ?_
 refine swl_sub _ (sc0 0 rfl (sc0 3 rfl (sc0 4 rfl (sc0 11 rfl .nil)))) ?_
 refine swl_nn ?_
 refine swp_cond (b := _) rfl (fun h11 => ?_) (fun h11 => ?_)
 ·skip
  have h11' : i < d.seen.length := by have := of_decide_eq_true h11; omega
  obtain ⟨a, ha⟩ : ∃ a, A = some a := by cases A with | none => have := hA rfl; omega | some a => exact ⟨a, rfl⟩
  obtain ⟨b, rfl⟩ := hA2 a ha
  subst ha
  obtain ⟨y, hy⟩ : ∃ y, d.seen[i]? = some y := ⟨_, List.getElem?_eq_getElem h11'⟩
  have hcell := flat_at (f := rN1) (n := 2) (fun _ => rfl) hy 1 _ rfl
  have hj : y.2 < d.files.length := (hd.seenOk.good y (List.mem_of_getElem? hy)).2
  have hcell2 := flat_at (f := rF1) (n := 2) (fun _ => rfl) (fl_at hj) 0 _ rfl
  have hsum := sum_take_succ (f := fun y : Nm => (d.fl y.2).bytes.length) hy
  have hul : ((d.seen.take (i + 1)).map fun y : Nm => (d.fl y.2).bytes.length).sum ≤ 64 * mostF := by
   have h1 := sum_le (fun y : Nm => (d.fl y.2).bytes.length) mostF (d.seen.take (i + 1)) fun y _ => (Dk.fl_ok hd y.2).1
   have h2 : (d.seen.take (i + 1)).length ≤ 64 := by rw [List.length_take]; omega
   exact Nat.le_trans h1 (Nat.mul_le_mul_right _ h2)
  simp only [mostF] at hul
  refine swp_fact (fun m h => own_pos h om0) fun ⟨b2, c2, hfv, hlc2, hcm2⟩ => ?_
  subst hfv
  refine swp_skip ?_
  refine then_n ?_
  refine swp_seq ?_
  refine swp_block ?_
  refine swp_draw [4, 8, 12, 15] _ [] (by simp only [List.append_nil]; exact Ent.refl _) kr0 ?_
  refine d_pu 0 rfl (pu_move rfl) kr0 kr0 kr0 ?_
  refine d_pu 1 rfl (pu_move rfl) kr0 kr0 kr0 ?_
  refine d_pu 2 rfl (pu_nilCheck rfl) kr0 kr0 kr0 ?_
  refine d_pu 3 rfl (pu_fieldAddr0 rfl) kr0 kr0 kr0 ?_
  refine d_rd 4 rfl (rd_load rfl rfl) rfl kr0 kr0 kr0 ?_
  refine d_pu 5 rfl (pu_move rfl) kr0 kr0 kr0 ?_
  refine d_pu 6 rfl (pu_nilCheck rfl) kr0 kr0 kr0 ?_
  refine d_pu 7 rfl (pu_fieldAddr0 rfl) kr0 kr0 kr0 ?_
  refine d_rd 8 rfl (rd_load rfl rfl) rfl kr0 kr0 kr0 ?_
  refine d_pu 9 rfl (pu_move rfl) kr0 kr0 kr0 ?_
  refine d_pu 10 rfl (pu_indexAddr (0 + i * 2) rfl rfl om0 om0 (by rw [Int.toNat_natCast])) kr0 kr0 kr0 ?_
  refine d_pu 11 rfl (pu_fieldAddr rfl) kr0 kr0 kr0 ?_
  refine d_rd 12 rfl (rd_own rfl tk0 (by rw [Nat.zero_add]; exact hcell)) rfl kr0 kr0 kr0 ?_
  refine d_pu 13 rfl (pu_indexAddr (0 + y.2 * 2) rfl rfl om0 om0 (by rw [Int.toNat_natCast])) kr0 kr0 kr0 ?_
  refine d_pu 14 rfl (pu_fieldAddr rfl) kr0 kr0 kr0 ?_
  refine d_rd 15 rfl (rd_own rfl tk0 (by rw [Nat.zero_add]; exact hcell2)) rfl kr0 kr0 kr0 ?_
  refine d_pu 16 rfl (pu_strlen rfl) kr0 kr0 kr0 ?_
  refine d_pu 17 rfl (pu_add_as ((((d.seen.take (i + 1)).map fun y => (d.fl y.2).bytes.length).sum : Nat) : Int) rfl rfl (by rw [hsum, tsize]; omega) om0 om0) kr0 kr0 kr0 ?_
  refine d_pu 18 rfl (pu_assign rfl) kr0 kr0 kr0 ?_
  refine d_sub _ (sc0 0 rfl (sc0 3 rfl (sc0 4 rfl .nil))) ?_
  refine d_nilt kr0 ?_
  refine block_n ?_
  refine then_n ?_
  refine swp_region ?_
  refine s_mv rfl ?_
  refine s_pu (pu_add_as ((i + 1 : Nat) : Int) rfl rfl om0 om0 om0) ?_
  refine s_as rfl ?_
  refine swl_sub _ (sc0 0 rfl (sc0 3 rfl (sc0 4 rfl .nil))) ?_
  refine swl_nil ?_
  exact then_n ⟨i + 1, ⟨⟨rfl, rfl, rfl, trivial⟩, Split.ent' sp0, h11'⟩, by omega⟩
 ·skip
  have h11' : i = d.seen.length := by have := of_decide_eq_false h11; omega
  rw [h11', List.take_length]
  refine swp_exit ?_
  refine then_x ?_
  refine then_x ?_
  refine block_hit rfl ?_
  refine then_n ?_
  refine swp_sr ?_
  refine s_mv rfl ?_
  refine s_as rfl ?_
  refine swl_sub _ (sc0 2 rfl .nil) ?_
  refine swl_nn ?_
  refine swp_ret ?_
  exact done_ret [blk p 92 (rdC d.quota fv (.slice A d.seen.length c) av wv d.falls d.off), own 96 2 fv d.files.length (d.files.flatMap rF1), own 138 2 (.slice A d.seen.length c) d.seen.length (d.seen.flatMap rN1)] (.tmp rfl .nil) ⟨rfl, rfl⟩ sp0
end SX
namespace SX
open Go Go.Proofs
theorem rd_set {p : Nat} {d : Dk} {b c : Nat} {sv av wv : Value} {k : Nat} {f : Fl} {L : List Assn} :
    Ent (blk p 92 (rdC d.quota (.slice (some ⟨b, 0, none⟩) d.files.length c) sv av wv d.falls d.off) :: own 96 2 (.slice (some ⟨b, 0, none⟩) d.files.length c) d.files.length ((d.files.set k f).flatMap rF1) :: own 138 2 sv d.seen.length (d.seen.flatMap rN1) :: own 138 2 av d.safe.length (d.safe.flatMap rN1) :: own 99 3 wv d.pend.length (d.pend.flatMap rC1) :: L) (RDA p (d.setF k f) :: L) := by
  have e1 : (d.files.set k f).length = d.files.length := List.length_set
  have := rd_close (p := p) (L := L) (d := d.setF k f) (x := ⟨.slice (some ⟨b, 0, none⟩) d.files.length c, sv, av, wv⟩)
  rw [show (d.setF k f).files = d.files.set k f from rfl, e1] at this
  exact this
set_option maxHeartbeats 4000000 in
theorem rappend_spec (p : Nat) (d : Dk) (hd : d.Ok) (hw : Few d) (s t : ByteArray) (ht : t.size ≤ 1048576) : Spec Tryz.prog 64 [pv p, .string s, .string t] [RDA p d] (fun r L => r = .int .i64 (appendD d s t.data.toList).2 ∧ L = [RDA p (appendD d s t.data.toList).1]) := by
 refine RDA.open' fun ⟨fv, sv, av, wv⟩ => ?_
 have hff := hw.1
 have hul := Dk.used_le hd
 have hbt := bsize t
 have hq := hd.q
 refine Spec.of 55 Tryz.func64 rfl rfl rfl ?_
 refine swp_sr ?_
 refine s_as rfl ?_
 refine swl_sub _ (sc0 0 rfl (sc0 1 rfl (sc0 2 rfl .nil))) ?_
 refine swl_nn ?_
 refine swp_sr ?_
 refine s_mv rfl ?_
 refine s_mv rfl ?_
 refine s_ef (ef_fn (rfile_spec p d hd ⟨fv, sv, av, wv⟩ s) rfl rfl sp0) ?_
 rintro v12 L1 ⟨⟨k, e, rfl, hR⟩, rfl⟩
 refine swl_app ?_
 refine s_mv rfl ?_
 refine s_pu (pu_extractL rfl) ?_
 refine s_pu (pu_extractL rfl) ?_
 refine s_as rfl ?_
 refine s_as rfl ?_
 refine swl_sub _ (sc0 0 rfl (sc0 2 rfl (sc0 7 rfl (sc0 8 rfl .nil)))) ?_
 refine swl_nn ?_
 refine swp_seq ?_
 refine swp_sr ?_
 refine s_mv rfl ?_
 refine s_pu (pu_neq rfl rfl) ?_
 refine swl_sub _ (sc0 0 rfl (sc0 2 rfl (sc0 7 rfl (sc0 8 rfl (sc0 16 rfl .nil))))) ?_
 refine swl_nn ?_
 refine swp_cond (b := _) rfl (fun h16 => ?_) (fun h16 => ?_)
 ·skip
  refine swp_sr ?_
  refine s_mv rfl ?_
  refine s_as rfl ?_
  refine swl_sub _ (sc0 6 rfl .nil) ?_
  refine swl_nn ?_
  refine swp_ret ?_
  refine then_r ?_
  unfold appendD
  rw [(hR.err (by simpa using h16)).2]
  exact done_retE [RDA p d] (.tmp rfl .nil) ⟨rfl, rfl⟩ ((Split.ent' (K := [blk p 92 (rdC d.quota fv sv av wv d.falls d.off), own 96 2 fv d.files.length (d.files.flatMap rF1), own 138 2 sv d.seen.length (d.seen.flatMap rN1), own 138 2 av d.safe.length (d.safe.flatMap rN1), own 99 3 wv d.pend.length (d.pend.flatMap rC1)]) sp0).trans (rd_close (x := ⟨fv, sv, av, wv⟩)))
 ·skip
  obtain ⟨j, rfl, hf, _, hon⟩ := hR.ok (by simpa using h16)
  have hj := file_lt hd hf
  have hlen := (Dk.fl_ok hd j).1
  simp only [mostF] at hlen
  refine swp_ent (Split.ent' (K := [own 96 2 fv d.files.length (d.files.flatMap rF1), blk p 92 (rdC d.quota fv sv av wv d.falls d.off), own 138 2 sv d.seen.length (d.seen.flatMap rN1), own 138 2 av d.safe.length (d.safe.flatMap rN1), own 99 3 wv d.pend.length (d.pend.flatMap rC1)]) sp0) ?_
  refine swp_fact (fun m h => own_pos h om0) fun ⟨b, c, hfv, hlc, hcm⟩ => ?_
  have hcell := flat_at (f := rF1) (n := 2) (fun _ => rfl) (fl_at hj) 0 _ rfl
  have hst := set_bytes (fl_at hj)
  have hfl : (d.files.flatMap rF1).length = d.files.length * 2 := flat_length (f := rF1) (k := 2) (fun _ => rfl) _
  refine swp_skip ?_
  refine then_n ?_
  refine swp_cut (fun env L => Sub env [(0, pv p), (2, .string t), (7, .int .i64 (j : Nat))] ∧ Ent L [blk p 92 (rdC d.quota fv sv av wv d.falls d.off), own 96 2 fv d.files.length (d.files.flatMap rF1), own 138 2 sv d.seen.length (d.seen.flatMap rN1), own 138 2 av d.safe.length (d.safe.flatMap rN1), own 99 3 wv d.pend.length (d.pend.flatMap rC1)] ∧ ¬ (0 < t.data.toList.length ∧ d.quota < (d.used : Int) + t.data.toList.length)) ?_ ?_
  ·skip
   refine swp_seq ?_
   refine swp_draw [12] ([blk p 92 (rdC d.quota fv sv av wv d.falls d.off)]) ([own 96 2 fv d.files.length (d.files.flatMap rF1), own 138 2 sv d.seen.length (d.seen.flatMap rN1), own 138 2 av d.safe.length (d.safe.flatMap rN1), own 99 3 wv d.pend.length (d.pend.flatMap rC1)]) (Split.ent sp0) kr0 ?_
   refine d_pu 0 rfl (pu_move rfl) kr0 kr0 kr0 ?_
   refine d_pu 1 rfl (pu_strlen rfl) kr0 kr0 kr0 ?_
   refine d_pu 2 rfl (pu_gtr rfl rfl) kr0 kr0 kr0 ?_
   refine d_pu 3 rfl (pu_move rfl) kr0 kr0 kr0 ?_
   refine d_split 21 rfl (fun h21 => ?_) (fun h21 => ?_)
   ·skip
    refine d_pu_on 4 rfl rfl rfl (pu_move rfl) kr0 kr0 kr0 ?_
    refine d_pu_on 6 rfl rfl rfl (pu_move rfl) kr0 kr0 kr0 ?_
    refine d_pu_on 7 rfl rfl rfl (pu_strlen rfl) kr0 kr0 kr0 ?_
    refine d_pu_on 9 rfl rfl rfl (pu_move rfl) kr0 kr0 kr0 ?_
    refine d_pu_on 10 rfl rfl rfl (pu_nilCheck rfl) kr0 kr0 kr0 ?_
    refine d_pu_on 11 rfl rfl rfl (pu_fieldAddr0 rfl) kr0 kr0 kr0 ?_
    refine d_rd_on 12 rfl rfl rfl (rd_load rfl rfl) rfl kr0 kr0 kr0 ?_
    refine d_amb [5] kr0 rfl ?_
    refine dA_ef 5 rfl (GOn.some rfl rfl) (ef_fn (rused_spec p d hd hw fv sv av wv) rfl rfl sp0) ?_
    rintro v23 L1 ⟨rfl, rfl⟩
    refine ⟨_, ent_appC (Split.ent sp0), ?_⟩
    refine d_pu_on 8 rfl rfl rfl (pu_add_as ((d.used + t.size : Nat) : Int) rfl rfl om0 om0 om0) kr0 kr0 kr0 ?_
    refine d_pu_on 13 rfl rfl rfl (pu_gtr rfl rfl) kr0 kr0 kr0 ?_
    refine d_pu 14 rfl (pu_pick_t rfl rfl) kr0 kr0 kr0 ?_
    refine d_sub _ (sc0 0 rfl (sc0 2 rfl (sc0 7 rfl (sc0 32 rfl .nil)))) ?_
    refine d_nilt kr0 ?_
    refine then_n ?_
    refine swp_cond (b := _) rfl (fun h32 => ?_) (fun h32 => ?_)
    ·skip
     refine swp_sr ?_
     refine s_as rfl ?_
     refine swl_sub _ (sc0 6 rfl .nil) ?_
     refine swl_nn ?_
     refine swp_ret ?_
     refine then_r ?_
     have h21' := of_decide_eq_true h21
     have h32' := of_decide_eq_true h32
     have key : appendD d s t.data.toList = (d, 7) := by unfold appendD; rw [hon, if_pos (by rw [hbt]; exact ⟨by omega, by omega⟩)]
     rw [key]
     exact done_retE [RDA p d] (.tmp rfl .nil) ⟨rfl, rfl⟩ ((Split.ent' (K := [blk p 92 (rdC d.quota fv sv av wv d.falls d.off), own 96 2 fv d.files.length (d.files.flatMap rF1), own 138 2 sv d.seen.length (d.seen.flatMap rN1), own 138 2 av d.safe.length (d.safe.flatMap rN1), own 99 3 wv d.pend.length (d.pend.flatMap rC1)]) sp0).trans (rd_close (x := ⟨fv, sv, av, wv⟩)))
    ·skip
     refine swp_skip ?_
     refine then_n ⟨⟨rfl, rfl, rfl, trivial⟩, Split.ent' sp0, ?_⟩
     rw [hbt]
     first
      | (have h32' := of_decide_eq_false h32; rintro ⟨_, h2⟩; omega)
      | (have h21' := of_decide_eq_false h21; rintro ⟨h1, _⟩; omega)
   ·skip
    refine d_off 4 rfl rfl rfl rfl kr0 kr0 kr0 ?_
    refine d_off 5 rfl rfl rfl rfl kr0 kr0 kr0 ?_
    refine d_off 6 rfl rfl rfl rfl kr0 kr0 kr0 ?_
    refine d_off 7 rfl rfl rfl rfl kr0 kr0 kr0 ?_
    refine d_off 8 rfl rfl rfl rfl kr0 kr0 kr0 ?_
    refine d_off 9 rfl rfl rfl rfl kr0 kr0 kr0 ?_
    refine d_off 10 rfl rfl rfl rfl kr0 kr0 kr0 ?_
    refine d_off 11 rfl rfl rfl rfl kr0 kr0 kr0 ?_
    refine d_off 12 rfl rfl rfl rfl kr0 kr0 kr0 ?_
    refine d_off 13 rfl rfl rfl rfl kr0 kr0 kr0 ?_
    refine d_pu 14 rfl (pu_pick_f rfl rfl) kr0 kr0 kr0 ?_
    refine d_sub _ (sc0 0 rfl (sc0 2 rfl (sc0 7 rfl (sc0 32 rfl .nil)))) ?_
    refine d_nilt kr0 ?_
    refine then_n ?_
    refine swp_cond (b := _) rfl (fun h32 => by cases h32) (fun h32 => ?_)
    refine swp_skip ?_
    refine then_n ⟨⟨rfl, rfl, rfl, trivial⟩, Split.ent' sp0, ?_⟩
    rw [hbt]
    first
     | (have h32' := of_decide_eq_false h32; rintro ⟨_, h2⟩; omega)
     | (have h21' := of_decide_eq_false h21; rintro ⟨h1, _⟩; omega)
  rintro env L ⟨hsub, hE, h1⟩
  refine swp_sub _ hsub ?_
  refine swp_ent hE ?_
  clear hsub hE env L
  refine swp_sr ?_
  refine s_mv rfl ?_
  refine s_ef (ef_fn (rstep' p d.quota fv sv av wv d.falls d.off hd.falls) rfl rfl sp0) ?_
  rintro v34 L1 ⟨rfl, rfl⟩
  refine swl_app ?_
  refine s_as rfl ?_
  refine swl_sub _ (sc0 0 rfl (sc0 2 rfl (sc0 7 rfl (sc0 8 rfl .nil)))) ?_
  refine swl_nn ?_
  refine swp_seq ?_
  refine swp_sr ?_
  refine s_mv rfl ?_
  refine s_pu (pu_eql rfl rfl) ?_
  refine swl_sub _ (sc0 0 rfl (sc0 2 rfl (sc0 7 rfl (sc0 8 rfl (sc0 36 rfl .nil))))) ?_
  refine swl_nn ?_
  refine swp_cond (b := _) rfl (fun h36 => ?_) (fun h36 => ?_)
  ·skip
   have hfn : d.falls ≠ 1 := sE_f (of_decide_eq_true h36)
   rw [(st_n (off := d.off) hfn).1, (st_n hfn).2]
   have key : appendD d s t.data.toList = ((fa1 d).setF j ⟨(d.fl j).bytes ++ t.data.toList, (d.fl j).safe⟩, 0) := by unfold appendD; rw [hon, if_neg h1]; exact atStep_n hfn _
   subst hfv
   refine swp_draw [3, 8, 12] _ [] (by simp only [List.append_nil]; exact Ent.refl _) kr0 ?_
   refine d_pu 0 rfl (pu_move rfl) kr0 kr0 kr0 ?_
   refine d_pu 1 rfl (pu_nilCheck rfl) kr0 kr0 kr0 ?_
   refine d_pu 2 rfl (pu_fieldAddr0 rfl) kr0 kr0 kr0 ?_
   refine d_rd 3 rfl (rd_load rfl rfl) rfl kr0 kr0 kr0 ?_
   refine d_pu 4 rfl (pu_move rfl) kr0 kr0 kr0 ?_
   refine d_pu 5 rfl (pu_move rfl) kr0 kr0 kr0 ?_
   refine d_pu 6 rfl (pu_nilCheck rfl) kr0 kr0 kr0 ?_
   refine d_pu 7 rfl (pu_fieldAddr0 rfl) kr0 kr0 kr0 ?_
   refine d_rd 8 rfl (rd_load rfl rfl) rfl kr0 kr0 kr0 ?_
   refine d_pu 9 rfl (pu_move rfl) kr0 kr0 kr0 ?_
   refine d_pu 10 rfl (pu_indexAddr (0 + j * 2) rfl rfl om0 om0 (by rw [Int.toNat_natCast])) kr0 kr0 kr0 ?_
   refine d_pu 11 rfl (pu_fieldAddr rfl) kr0 kr0 kr0 ?_
   refine d_rd 12 rfl (rd_own rfl tk0 (by rw [Nat.zero_add]; exact hcell)) rfl kr0 kr0 kr0 ?_
   refine d_pu 13 rfl (pu_move rfl) kr0 kr0 kr0 ?_
   refine d_pu 14 rfl (pu_str_add rfl rfl (by rw [tsize]; omega)) kr0 kr0 kr0 ?_
   refine d_pu 15 rfl (pu_indexAddr (0 + j * 2) rfl rfl om0 om0 (by rw [Int.toNat_natCast])) kr0 kr0 kr0 ?_
   refine d_pu 16 rfl (pu_fieldAddr rfl) kr0 kr0 kr0 ?_
   refine d_fin0t 17 rfl kr0 kr0 (ef_store_own rfl rfl sp0 (by rw [hfl]; omega) rfl) ?_
   refine d_sub _ (sc0 8 rfl .nil) ?_
   refine d_nilf kr0 ?_
   refine then_n ?_
   refine swp_sr ?_
   refine s_mv rfl ?_
   refine s_as rfl ?_
   refine swl_sub _ (sc0 6 rfl .nil) ?_
   refine swl_nn ?_
   refine swp_ret ?_
   have hE : sE d.falls = 0 := sE_n hfn
   rw [key, hE]
   refine done_retE [RDA p ((fa1 d).setF j ⟨(d.fl j).bytes ++ t.data.toList, (d.fl j).safe⟩)] (.tmp rfl .nil) ⟨rfl, rfl⟩ ?_
   rw [str_app, hst]
   exact Ent.trans (Split.ent' (K := [blk p 92 (rdC d.quota (.slice (some ⟨b, 0, none⟩) d.files.length c) sv av wv (if 0 < d.falls then d.falls - 1 else d.falls) d.off), own 96 2 (.slice (some ⟨b, 0, none⟩) d.files.length c) d.files.length ((d.files.set j ⟨(d.fl j).bytes ++ t.data.toList, (d.fl j).safe⟩).flatMap rF1), own 138 2 sv d.seen.length (d.seen.flatMap rN1), own 138 2 av d.safe.length (d.safe.flatMap rN1), own 99 3 wv d.pend.length (d.pend.flatMap rC1)]) sp0) (rd_set (d := fa1 d))
  ·skip
   refine swp_skip ?_
   refine then_n ?_
   refine swp_sr ?_
   refine s_mv rfl ?_
   refine s_as rfl ?_
   refine swl_sub _ (sc0 6 rfl .nil) ?_
   refine swl_nn ?_
   refine swp_ret ?_
   have hf1 : d.falls = 1 := sE_t (of_decide_eq_false h36)
   have key : appendD d s t.data.toList = (fa0 d, 8) := by unfold appendD; rw [hon, if_neg h1]; exact atStep_1 hf1 _
   rw [key, sE_1 hf1, (st_1 (off := d.off) hf1).1, (st_1 hf1).2]
   exact done_retE [RDA p (fa0 d)] (.tmp rfl .nil) ⟨rfl, rfl⟩ ((Split.ent' (K := [blk p 92 (rdC d.quota fv sv av wv 0 true), own 96 2 fv d.files.length (d.files.flatMap rF1), own 138 2 sv d.seen.length (d.seen.flatMap rN1), own 138 2 av d.safe.length (d.safe.flatMap rN1), own 99 3 wv d.pend.length (d.pend.flatMap rC1)]) sp0).trans (rd_close (d := fa0 d) (x := ⟨fv, sv, av, wv⟩)))
end SX
namespace SX
open Go Go.Proofs
def settle2 (d : Dk) (n len : Nat) : Dk × Int := if (cutRest d n len).2 ≠ 0 then cutRest d n len else syncD (cutRest d n len).1 logN
theorem settle_two (d : Dk) (n len : Nat) : settleD d n len = if (settle2 d n len).2 ≠ 0 then settle2 d n len else syncNamesD (settle2 d n len).1 := by
  unfold settleD settle2
  by_cases h : (cutRest d n len).2 ≠ 0
  · rw [if_pos h, if_pos h, if_pos h]
  · rw [if_neg h, if_neg h]
theorem cutRest_ok {d : Dk} (hd : d.Ok) (n len : Nat) : (cutRest d n len).1.Ok := by
  unfold cutRest
  split
  · exact hd
  · exact cutD_ok hd _ _
theorem settle2_ok {d : Dk} (hd : d.Ok) (n len : Nat) : (settle2 d n len).1.Ok := by
  unfold settle2
  split
  · exact cutRest_ok hd n len
  · exact syncD_ok (cutRest_ok hd n len) _
theorem few_of {m : Nat} {d : Dk} (h : Within m d) (k : m ≤ 999000) : Few d := h.mono om0
end SX
namespace SX
open Go Go.Proofs
theorem rappend_l (q : Nat) (d : Dk) (hd : d.Ok) (hw : Few d) (s : ByteArray) (l : List UInt8) (hl : l.length ≤ 1048576) : Spec Tryz.prog 64 [pv q, .string s, .string (str l)] [RDA q d] (fun r L => r = .int .i64 (appendD d s l).2 ∧ L = [RDA q (appendD d s l).1]) := rappend_spec q d hd hw s (str l) hl
set_option maxHeartbeats 2000000 in
theorem rwrite_spec (p : Nat) (W : SW) (d : Dk) (hd : d.Ok) (m : Nat) (hw : Within m d) (hm : m ≤ 990000) (hdd : W.dead = false) (f : Fm) (h1 : 0 < f.1) (h2 : f.1 < 256) (hf : f.2.length ≤ 1048567) : Spec Tryz.prog 52 [pv p, .int .i64 (f.1 : Nat), .string (str f.2)] [RDA W.q d, rsH p W] (fun r L => r = .int .i64 (writeD d f).2 ∧ L = [RDA W.q (writeD d f).1, rsH p { W with dead := decide ((writeD d f).2 = 8) }]) := by
 have hfw := few_of hw om0
 have hfw1 := few_of (appendD_in hw logN (encFm f)) om0
 refine Spec.of 36 Tryz.func52 rfl rfl rfl ?_
 refine swp_sr ?_
 refine s_as rfl ?_
 refine swl_sub _ (sc0 0 rfl (sc0 1 rfl (sc0 2 rfl .nil))) ?_
 refine swl_nn ?_
 refine swp_sr ?_
 refine s_mv rfl ?_
 refine s_mv rfl ?_
 refine s_pu (pu_bld (qs := [(0, _), (1, _)]) rfl) ?_
 refine s_ef (ef_fn (rfenc_spec f h1 h2 om0) rfl rfl sp0) ?_
 rintro v14 L1 ⟨rfl, rfl⟩
 refine swl_app ?_
 refine s_mv rfl ?_
 refine s_pu (pu_extractL rfl) ?_
 refine s_pu (pu_extractL rfl) ?_
 refine s_as rfl ?_
 refine s_as rfl ?_
 refine swl_sub _ (sc0 0 rfl (sc0 7 rfl .nil)) ?_
 refine swl_nn ?_
 refine swp_sr ?_
 refine s_mv rfl ?_
 refine s_pu (pu_nilCheck rfl) ?_
 refine s_pu (pu_fieldAddr0 rfl) ?_
 refine s_rd (rd_load rfl rfl) ?_
 refine s_mv rfl ?_
 refine s_ef (ef_fn (rappend_l W.q d hd hfw logN (encFm f) (by rw [encFm_len]; omega)) rfl rfl sp0) ?_
 rintro v22 L1 ⟨rfl, rfl⟩
 refine swl_app ?_
 refine s_as rfl ?_
 refine swl_sub _ (sc0 0 rfl (sc0 9 rfl .nil)) ?_
 refine swl_nn ?_
 refine swp_cut (fun env L => Sub env [(0, pv p), (9, .int .i64 (writeD d f).2)] ∧ Ent L [RDA W.q (writeD d f).1, rsH p W]) ?_ ?_
 ·skip
  refine swp_sr ?_
  refine s_mv rfl ?_
  refine s_pu (pu_eql rfl rfl) ?_
  refine swl_sub _ (sc0 0 rfl (sc0 9 rfl (sc0 24 rfl .nil))) ?_
  refine swl_nn ?_
  refine swp_cond (b := _) rfl (fun h24 => ?_) (fun h24 => ?_)
  ·skip
   refine swp_region ?_
   refine s_mv rfl ?_
   refine s_pu (pu_nilCheck rfl) ?_
   refine s_pu (pu_fieldAddr0 rfl) ?_
   refine s_rd (rd_load rfl rfl) ?_
   refine s_ef (ef_fn (rsync_spec W.q (appendD d logN (encFm f)).1 (appendD_ok hd _ _) hfw1 logN) rfl rfl sp0) ?_
   rintro v29 L1 ⟨rfl, rfl⟩
   refine swl_app ?_
   refine s_as rfl ?_
   refine swl_sub _ (sc0 0 rfl (sc0 9 rfl .nil)) ?_
   refine swl_nil ?_
   have h24' : (appendD d logN (encFm f)).2 = 0 := by simpa using h24
   have e : writeD d f = syncD (appendD d logN (encFm f)).1 logN := by unfold writeD; rw [if_neg (not_not_intro h24')]
   rw [e]
   exact then_n ⟨⟨rfl, rfl, trivial⟩, Split.ent' sp0⟩
  ·skip
   refine swp_skip ?_
   have h24' : (appendD d logN (encFm f)).2 ≠ 0 := by simpa using h24
   have e : writeD d f = appendD d logN (encFm f) := by unfold writeD; rw [if_pos h24']
   rw [e]
   exact then_n ⟨⟨rfl, rfl, trivial⟩, Split.ent' sp0⟩
 rintro env L ⟨hsub, hE⟩
 refine swp_sub _ hsub ?_
 refine swp_ent hE ?_
 clear hsub hE env L
 refine swp_seq ?_
 refine swp_sr ?_
 refine s_mv rfl ?_
 refine s_pu (pu_eql rfl rfl) ?_
 refine swl_sub _ (sc0 0 rfl (sc0 9 rfl (sc0 31 rfl .nil))) ?_
 refine swl_nn ?_
 refine swp_cond (b := _) rfl (fun h31 => ?_) (fun h31 => ?_)
 ·skip
  refine swp_region ?_
  refine s_mv rfl ?_
  refine s_pu (pu_nilCheck rfl) ?_
  refine s_pu (pu_fieldAddr0 rfl) ?_
  refine s_ef0 (ef_store rfl rfl rfl) ?_
  refine swl_sub _ (sc0 9 rfl .nil) ?_
  refine swl_nn ?_
  refine swp_sr ?_
  refine s_mv rfl ?_
  refine s_as rfl ?_
  refine swl_sub _ (sc0 6 rfl .nil) ?_
  refine swl_nn ?_
  refine swp_ret ?_
  have h31' : decide ((writeD d f).2 = 8) = true := h31
  rw [h31']
  exact done_ret [RDA W.q (writeD d f).1, rsH p { W with dead := true }] (.tmp rfl .nil) ⟨rfl, rfl⟩ sp0
 ·skip
  refine swp_skip ?_
  refine then_n ?_
  refine swp_sr ?_
  refine s_mv rfl ?_
  refine s_as rfl ?_
  refine swl_sub _ (sc0 6 rfl .nil) ?_
  refine swl_nn ?_
  refine swp_ret ?_
  have h31' : decide ((writeD d f).2 = 8) = false := h31
  have e : ({ W with dead := decide ((writeD d f).2 = 8) } : SW) = W := by rw [h31', ← hdd]
  rw [e]
  exact done_ret [RDA W.q (writeD d f).1, rsH p W] (.tmp rfl .nil) ⟨rfl, rfl⟩ sp0
set_option maxHeartbeats 4000000 in
theorem raddtree_spec (μ : PH) (p : Nat) (W : SW) (hW : W.Ok μ) (d : Dk) (hd : d.Ok) (m : Nat) (hw : Within m d) (hm : m ≤ 990000) (v : Value) (t : List En) (hv : Row μ v 2 t.length (ens t)) (hu : U32s t) : Spec Tryz.prog 14 [pv p, v] [RDA W.q d, rsH p W, ttA W, ccA W, ro μ]
  (fun r L => ∃ W' μ', AddQ μ W (addT ⟨d, W.pl, W.dead⟩ t) r W' μ' ∧ L = [RDA W'.q (addT ⟨d, W.pl, W.dead⟩ t).1.d, rsH p W', ttA W', ccA W', ro μ']) := by
 have hW0 := hW
 obtain ⟨⟨A1, c1, e1⟩, ⟨A2, c2, e2⟩, _, _, hT, hC⟩ := hW
 obtain ⟨q, tv, cv, T, C, dead⟩ := W
 dsimp only at e1 e2 hT hC
 subst e1 e2
 have hlen : (SW.pl ⟨q, .slice A1 T.length c1, .slice A2 C.length c2, T, C, dead⟩).1.length = T.length := List.length_map _
 generalize hy : addT ⟨d, SW.pl ⟨q, .slice A1 T.length c1, .slice A2 C.length c2, T, C, dead⟩, dead⟩ t = y
 unfold addT at hy
 dsimp only at hy
 rw [hlen] at hy
 refine Spec.of 53 Tryz.func14 rfl rfl rfl ?_
 refine swp_sr ?_
 refine s_as rfl ?_
 refine s_as rfl ?_
 refine swl_sub _ (sc0 0 rfl (sc0 1 rfl .nil)) ?_
 refine swl_nn ?_
 refine swp_seq ?_
 refine swp_sr ?_
 refine s_mv rfl ?_
 refine s_pu (pu_nilCheck rfl) ?_
 refine s_pu (pu_fieldAddr0 rfl) ?_
 refine s_rd (rd_load rfl rfl) ?_
 refine swl_sub _ (sc0 0 rfl (sc0 1 rfl (sc0 11 rfl .nil))) ?_
 refine swl_nn ?_
 refine swp_cond (b := _) rfl (fun h11 => ?_) (fun h11 => ?_)
 ·skip
  refine swp_sr ?_
  refine s_as rfl ?_
  refine s_as rfl ?_
  refine swl_sub _ (sc0 4 rfl (sc0 5 rfl .nil)) ?_
  refine swl_nn ?_
  refine swp_ret ?_
  refine then_r ?_
  have ha : (⟨d, SW.pl ⟨q, .slice A1 T.length c1, .slice A2 C.length c2, T, C, dead⟩, dead⟩, 0, 8) = y := by rw [← hy]; exact (addR_dead (x := ⟨d, SW.pl ⟨q, .slice A1 T.length c1, .slice A2 C.length c2, T, C, dead⟩, dead⟩) h11).symm
  subst ha
  exact done_ret [RDA q d, rsH p ⟨q, .slice A1 T.length c1, .slice A2 C.length c2, T, C, dead⟩, ttA ⟨q, .slice A1 T.length c1, .slice A2 C.length c2, T, C, dead⟩, ccA ⟨q, .slice A1 T.length c1, .slice A2 C.length c2, T, C, dead⟩, ro μ] (.tmp rfl (.tmp rfl .nil)) ⟨⟨q, .slice A1 T.length c1, .slice A2 C.length c2, T, C, dead⟩, μ, ⟨Le.refl _, hW0, rfl, rfl, rfl, rfl⟩, rfl⟩ sp0
 ·skip
  have hdd : dead = false := h11
  refine swp_skip ?_
  refine then_n ?_
  refine swp_sr ?_
  refine s_mv rfl ?_
  refine s_ef (ef_fn (renc_spec μ v t hv hu) rfl rfl sp0) ?_
  rintro v14 L1 ⟨rfl, rfl⟩
  refine swl_app ?_
  refine s_mv rfl ?_
  refine s_pu (pu_extractL rfl) ?_
  refine s_pu (pu_extractL rfl) ?_
  refine s_as rfl ?_
  refine s_as rfl ?_
  refine swl_sub _ (sc0 0 rfl (sc0 1 rfl (sc0 6 rfl (sc0 7 rfl .nil)))) ?_
  refine swl_nn ?_
  refine swp_seq ?_
  refine swp_sr ?_
  refine s_mv rfl ?_
  refine s_pu (pu_eql rfl rfl) ?_
  refine s_mv rfl ?_
  refine s_split 19 rfl (fun h19 => ?_) (fun h19 => ?_)
  ·skip
   have h21' : encErr t = 0 := of_decide_eq_true h19
   obtain ⟨hl1, hl2⟩ := encErr_ok h21'
   have hev : encV t = encT t := by unfold encV; rw [if_pos h21']
   refine s_on rfl rfl ?_
   refine s_mv rfl ?_
   refine s_on rfl rfl ?_
   refine s_pu (pu_nilCheck rfl) ?_
   refine s_on rfl rfl ?_
   refine s_pu (pu_fieldAddr0 rfl) ?_
   refine s_on rfl rfl ?_
   refine s_rd (rd_load rfl rfl) ?_
   refine s_on rfl rfl ?_
   refine s_pu (pu_len rfl) ?_
   refine s_on rfl rfl ?_
   refine s_pu (pu_geq rfl rfl) ?_
   refine s_pu (pu_pick_t rfl rfl) ?_
   refine swl_sub _ (sc0 0 rfl (sc0 1 rfl (sc0 6 rfl (sc0 7 rfl (sc0 26 rfl .nil))))) ?_
   refine swl_nn ?_
   refine swp_cond (b := _) rfl (fun h26 => ?_) (fun h26 => ?_)
   ·skip
    have h28' : 65536 ≤ T.length := by have := of_decide_eq_true h26; omega
    refine swp_region ?_
    refine s_as rfl ?_
    refine swl_sub _ (sc0 0 rfl (sc0 1 rfl (sc0 6 rfl (sc0 7 rfl .nil)))) ?_
    refine swl_nn ?_
    refine swp_seq ?_
    refine swp_sr ?_
    refine s_mv rfl ?_
    refine s_pu (pu_eql rfl rfl) ?_
    refine swl_sub _ (sc0 0 rfl (sc0 1 rfl (sc0 6 rfl (sc0 7 rfl (sc0 28 rfl .nil))))) ?_
    refine swl_nn ?_
    refine swp_cond (b := _) rfl (fun h28 => by cases h28) (fun h28 => ?_)
    refine swp_skip ?_
    refine then_n ?_
    refine swp_seq ?_
    refine swp_sr ?_
    refine s_mv rfl ?_
    refine s_pu (pu_neq rfl rfl) ?_
    refine swl_sub _ (sc0 0 rfl (sc0 1 rfl (sc0 7 rfl (sc0 33 rfl .nil)))) ?_
    refine swl_nn ?_
    refine swp_cond (b := _) rfl (fun h33 => ?_) (fun h33 => by cases h33)
    refine swp_sr ?_
    refine s_mv rfl ?_
    refine s_as rfl ?_
    refine s_as rfl ?_
    refine swl_sub _ (sc0 4 rfl (sc0 5 rfl .nil)) ?_
    refine swl_nn ?_
    refine swp_ret ?_
    refine then_r ?_
    have ha : (⟨d, SW.pl ⟨q, .slice A1 T.length c1, .slice A2 C.length c2, T, C, dead⟩, dead⟩, 0, 7) = y := by rw [← hy]; exact (addR_full (x := ⟨d, SW.pl ⟨q, .slice A1 T.length c1, .slice A2 C.length c2, T, C, dead⟩, dead⟩) hdd h21' h28').symm
    subst ha
    exact done_ret [RDA q d, rsH p ⟨q, .slice A1 T.length c1, .slice A2 C.length c2, T, C, dead⟩, ttA ⟨q, .slice A1 T.length c1, .slice A2 C.length c2, T, C, dead⟩, ccA ⟨q, .slice A1 T.length c1, .slice A2 C.length c2, T, C, dead⟩, ro μ] (.tmp rfl (.tmp rfl .nil)) ⟨⟨q, .slice A1 T.length c1, .slice A2 C.length c2, T, C, dead⟩, μ, ⟨Le.refl _, hW0, rfl, rfl, rfl, rfl⟩, rfl⟩ sp0
   ·skip
    have h28' : T.length < 65536 := by have := of_decide_eq_false h26; omega
    refine swp_skip ?_
    refine then_n ?_
    refine swp_seq ?_
    refine swp_sr ?_
    refine s_mv rfl ?_
    refine s_pu (pu_eql rfl rfl) ?_
    refine swl_sub _ (sc0 0 rfl (sc0 1 rfl (sc0 6 rfl (sc0 7 rfl (sc0 28 rfl .nil))))) ?_
    refine swl_nn ?_
    refine swp_cond (b := _) rfl (fun h28 => ?_) (fun h28 => by rw [h21'] at h28; cases h28)
    refine swp_region ?_
    refine s_mv rfl ?_
    refine s_mv rfl ?_
    refine s_ef (ef_fn (rwrite_spec p ⟨q, .slice A1 T.length c1, .slice A2 C.length c2, T, C, dead⟩ d hd m hw hm hdd (1, encV t) (by show 0 < 1; decide) (by show 1 < 256; decide) (by rw [hev]; exact encT_len h21')) rfl rfl sp0) ?_
    rintro v31 L1 ⟨rfl, rfl⟩
    rw [hev]
    refine swl_app ?_
    dsimp only
    refine s_as rfl ?_
    refine swl_sub _ (sc0 0 rfl (sc0 1 rfl (sc0 7 rfl .nil))) ?_
    refine swl_nn ?_
    refine swp_seq ?_
    refine swp_sr ?_
    refine s_mv rfl ?_
    refine s_pu (pu_neq rfl rfl) ?_
    refine swl_sub _ (sc0 0 rfl (sc0 1 rfl (sc0 7 rfl (sc0 33 rfl .nil)))) ?_
    refine swl_nn ?_
    refine swp_cond (b := _) rfl (fun h33 => ?_) (fun h33 => ?_)
    ·skip
     refine swp_sr ?_
     refine s_mv rfl ?_
     refine s_as rfl ?_
     refine s_as rfl ?_
     refine swl_sub _ (sc0 4 rfl (sc0 5 rfl .nil)) ?_
     refine swl_nn ?_
     refine swp_ret ?_
     refine then_r ?_
     have h35' : (writeD d (1, encT t)).2 ≠ 0 := by simpa using h33
     have ha : (⟨(writeD d (1, encT t)).1, SW.pl ⟨q, .slice A1 T.length c1, .slice A2 C.length c2, T, C, dead⟩, decide ((writeD d (1, encT t)).2 = 8)⟩, 0, (writeD d (1, encT t)).2) = y := by rw [← hy]; exact (addR_wr (x := ⟨d, SW.pl ⟨q, .slice A1 T.length c1, .slice A2 C.length c2, T, C, dead⟩, dead⟩) hdd h21' h28' h35').symm
     subst ha
     exact done_ret [RDA q (writeD d (1, encT t)).1, rsH p ⟨q, .slice A1 T.length c1, .slice A2 C.length c2, T, C, decide ((writeD d (1, encT t)).2 = 8)⟩, ttA ⟨q, .slice A1 T.length c1, .slice A2 C.length c2, T, C, dead⟩, ccA ⟨q, .slice A1 T.length c1, .slice A2 C.length c2, T, C, dead⟩, ro μ] (.tmp rfl (.tmp rfl .nil)) ⟨⟨q, .slice A1 T.length c1, .slice A2 C.length c2, T, C, decide ((writeD d (1, encT t)).2 = 8)⟩, μ, ⟨Le.refl _, SW.Ok.dead hW0 _, rfl, rfl, rfl, rfl⟩, rfl⟩ sp0
    ·skip
     have h35' : (writeD d (1, encT t)).2 = 0 := by simpa using h33
     have ha : (⟨(writeD d (1, encT t)).1, ((SW.pl ⟨q, .slice A1 T.length c1, .slice A2 C.length c2, T, C, dead⟩).1 ++ [t], (SW.pl ⟨q, .slice A1 T.length c1, .slice A2 C.length c2, T, C, dead⟩).2), false⟩, ((T.length : Nat) : Int), 0) = y := by rw [← hy]; exact (addR_ok (x := ⟨d, SW.pl ⟨q, .slice A1 T.length c1, .slice A2 C.length c2, T, C, dead⟩, dead⟩) hdd h21' h28' h35').symm
     have hd8 : decide ((writeD d (1, encT t)).2 = 8) = false := by rw [h35']; rfl
     rw [hd8]
     subst ha
     refine swp_skip ?_
     refine then_n ?_
     refine swp_seq ?_
     refine swp_draw [4] ([rsH p ⟨q, .slice A1 T.length c1, .slice A2 C.length c2, T, C, false⟩]) ([RDA q (writeD d (1, encT t)).1, ro μ, ttA ⟨q, .slice A1 T.length c1, .slice A2 C.length c2, T, C, dead⟩, ccA ⟨q, .slice A1 T.length c1, .slice A2 C.length c2, T, C, dead⟩]) (Split.ent sp0) kr0 ?_
     refine d_pu 0 rfl (pu_move rfl) kr0 kr0 kr0 ?_
     refine d_pu 1 rfl (pu_move rfl) kr0 kr0 kr0 ?_
     refine d_pu 2 rfl (pu_nilCheck rfl) kr0 kr0 kr0 ?_
     refine d_pu 3 rfl (pu_fieldAddr0 rfl) kr0 kr0 kr0 ?_
     refine d_rd 4 rfl (rd_load rfl rfl) rfl kr0 kr0 kr0 ?_
     refine d_pu 6 rfl (pu_move rfl) kr0 kr0 kr0 ?_
     refine d_eft 5 rfl kr0 (ef_bldS (qs := []) rfl rfl rfl) ?_
     intro b40
     refine ⟨_, Split.ent sp0, ?_⟩
     refine d_entx (own_empty (n := 2)) ?_
     refine d_eft 7 rfl kr0 (ef_append_ro hv rfl rfl sp0 (ens_one _) (by simp only [maxLen]; omega) om0) ?_
     rintro v42 -
     rw [Nat.zero_add, List.nil_append]
     refine ⟨_, Split.ent sp0, ?_⟩
     refine swd_factt (p := ∃ A c, v42 = .slice A t.length c) (fun m h => own_form (show Sat (own 47 2 v42 t.length (ens t) :: _) m from Sat.tail (A := rsH p ⟨q, .slice A1 T.length c1, .slice A2 C.length c2, T, C, false⟩) h)) fun ⟨A3, c3, hv42⟩ => ?_
     subst hv42
     refine d_eft 8 rfl kr0 (ef_bldS (qs := [(0, _)]) rfl rfl rfl) ?_
     intro b43
     refine ⟨_, Split.ent sp0, ?_⟩
     refine d_fint 9 rfl kr0 kr0 (ef_append_lit (l := T.length) (m := 1) rfl rfl sp0 (by simp only [maxLen]; omega) om0) ?_
     rintro v45 -
     refine swd_factf (fun m h => own_form h) fun ⟨A45, c45, hv45⟩ => ?_
     subst hv45
     refine d_pu 10 rfl (pu_nilCheck rfl) kr0 kr0 kr0 ?_
     refine d_pu 11 rfl (pu_fieldAddr0 rfl) kr0 kr0 kr0 ?_
     refine d_fin0f 12 rfl kr0 kr0 (ef_store rfl rfl rfl) ?_
     refine d_sub _ (sc0 0 rfl .nil) ?_
     refine d_nilf kr0 ?_
     refine then_n ?_
     refine swp_seq ?_
     refine swp_share_own (μ := μ) (v := .slice A3 t.length c3) (e := 47) (n := 2) sp0 fun μ' hle hrow => ?_
     refine swp_region ?_
     refine s_mv rfl ?_
     refine s_pu (pu_nilCheck rfl) ?_
     refine s_pu (pu_fieldAddr0 rfl) ?_
     refine s_rd (rd_load rfl rfl) ?_
     refine s_pu (pu_len rfl) ?_
     refine s_pu (pu_sub_as ((T.length : Nat) : Int) rfl rfl om0 om0 om0) ?_
     refine s_as rfl ?_
     refine s_as rfl ?_
     refine swl_sub _ (sc0 4 rfl (sc0 5 rfl .nil)) ?_
     refine swl_nn ?_
     refine swp_ret ?_
     refine done_ret [RDA q (writeD d (1, encT t)).1, rsH p ⟨q, .slice A45 (T.length + 1) c45, .slice A2 C.length c2, T ++ [(.slice A3 t.length c3, t)], C, false⟩, own 22 1 (.slice A45 (T.length + 1) c45) (T.length + 1) (T.flatMap tcs ++ [.slice A3 t.length c3]), ccA ⟨q, .slice A1 T.length c1, .slice A2 C.length c2, T, C, dead⟩, ro μ'] (.tmp rfl (.tmp rfl .nil)) ⟨⟨q, .slice A45 (T.length + 1) c45, .slice A2 C.length c2, T ++ [(.slice A3 t.length c3, t)], C, false⟩, μ', ⟨hle, SW.Ok.dead (Ok.addT hW0 hle hrow h28') false, rfl, ?_, rfl, rfl⟩, ?_⟩ sp0
     ·unfold SW.pl; rw [List.map_append]; rfl
     ·simp only [ttA, List.length_append, List.length_singleton, List.flatMap_append]; rfl
  ·skip
   have h21' : encErr t ≠ 0 := of_decide_eq_false h19
   refine s_off rfl rfl rfl ?_
   refine s_off rfl rfl rfl ?_
   refine s_off rfl rfl rfl ?_
   refine s_off rfl rfl rfl ?_
   refine s_off rfl rfl rfl ?_
   refine s_off rfl rfl rfl ?_
   refine s_pu (pu_pick_f rfl rfl) ?_
   refine swl_sub _ (sc0 0 rfl (sc0 1 rfl (sc0 6 rfl (sc0 7 rfl (sc0 26 rfl .nil))))) ?_
   refine swl_nn ?_
   refine swp_cond (b := _) rfl (fun h26 => by cases h26) (fun h26 => ?_)
   refine swp_skip ?_
   refine then_n ?_
   refine swp_seq ?_
   refine swp_sr ?_
   refine s_mv rfl ?_
   refine s_pu (pu_eql rfl rfl) ?_
   refine swl_sub _ (sc0 0 rfl (sc0 1 rfl (sc0 6 rfl (sc0 7 rfl (sc0 28 rfl .nil))))) ?_
   refine swl_nn ?_
   refine swp_cond (b := _) rfl (fun h28 => by exact absurd (of_decide_eq_true h28) h21') (fun h28 => ?_)
   refine swp_skip ?_
   refine then_n ?_
   refine swp_seq ?_
   refine swp_sr ?_
   refine s_mv rfl ?_
   refine s_pu (pu_neq rfl rfl) ?_
   refine swl_sub _ (sc0 0 rfl (sc0 1 rfl (sc0 7 rfl (sc0 33 rfl .nil)))) ?_
   refine swl_nn ?_
   refine swp_cond (b := _) rfl (fun h33 => ?_) (fun h33 => by rw [decide_eq_false h21'] at h33; cases h33)
   refine swp_sr ?_
   refine s_mv rfl ?_
   refine s_as rfl ?_
   refine s_as rfl ?_
   refine swl_sub _ (sc0 4 rfl (sc0 5 rfl .nil)) ?_
   refine swl_nn ?_
   refine swp_ret ?_
   refine then_r ?_
   have ha : (⟨d, SW.pl ⟨q, .slice A1 T.length c1, .slice A2 C.length c2, T, C, dead⟩, dead⟩, 0, encErr t) = y := by rw [← hy]; exact (addR_err (x := ⟨d, SW.pl ⟨q, .slice A1 T.length c1, .slice A2 C.length c2, T, C, dead⟩, dead⟩) hdd h21').symm
   subst ha
   exact done_ret [RDA q d, rsH p ⟨q, .slice A1 T.length c1, .slice A2 C.length c2, T, C, dead⟩, ttA ⟨q, .slice A1 T.length c1, .slice A2 C.length c2, T, C, dead⟩, ccA ⟨q, .slice A1 T.length c1, .slice A2 C.length c2, T, C, dead⟩, ro μ] (.tmp rfl (.tmp rfl .nil)) ⟨⟨q, .slice A1 T.length c1, .slice A2 C.length c2, T, C, dead⟩, μ, ⟨Le.refl _, hW0, rfl, rfl, rfl, rfl⟩, rfl⟩ sp0
end SX
namespace SX
open Go Go.Proofs
set_option maxHeartbeats 4000000 in
theorem raddcommit_spec (μ : PH) (p : Nat) (W : SW) (hW : W.Ok μ) (d : Dk) (hd : d.Ok) (m : Nat) (hw : Within m d) (hm : m ≤ 990000) (v : Value) (c : Cm) (hv : Row μ v 1 c.1.length (c.1.flatMap (icsk .i64))) : Spec Tryz.prog 15 [pv p, cmV v c.2] [RDA W.q d, rsH p W, ttA W, ccA W, ro μ]
  (fun r L => ∃ W' μ', AddQ μ W (addC ⟨d, W.pl, W.dead⟩ c) r W' μ' ∧ L = [RDA W'.q (addC ⟨d, W.pl, W.dead⟩ c).1.d, rsH p W', ttA W', ccA W', ro μ']) := by
 have hW0 := hW
 obtain ⟨⟨A1, c1, e1⟩, ⟨A2, c2, e2⟩, _, _, hT, hC⟩ := hW
 obtain ⟨A5, c5, rfl⟩ := hv.sl
 obtain ⟨q, tv, cv, T, C, dead⟩ := W
 dsimp only at e1 e2 hT hC
 subst e1 e2
 have hlen : (SW.pl ⟨q, .slice A1 T.length c1, .slice A2 C.length c2, T, C, dead⟩).1.length = T.length := List.length_map _
 have hlen2 : (SW.pl ⟨q, .slice A1 T.length c1, .slice A2 C.length c2, T, C, dead⟩).2.length = C.length := List.length_map _
 generalize hy : addC ⟨d, SW.pl ⟨q, .slice A1 T.length c1, .slice A2 C.length c2, T, C, dead⟩, dead⟩ c = y
 unfold addC at hy
 dsimp only at hy
 rw [hlen, hlen2] at hy
 refine Spec.of 65 Tryz.func15 rfl rfl rfl ?_
 refine swp_sr ?_
 refine s_ef (ef_box rfl rfl) ?_
 intro b3
 refine s_as rfl ?_
 refine s_as rfl ?_
 refine swl_sub _ (sc0 0 rfl (sc0 3 rfl .nil)) ?_
 refine swl_nn ?_
 refine swp_seq ?_
 refine swp_sr ?_
 refine s_mv rfl ?_
 refine s_pu (pu_nilCheck rfl) ?_
 refine s_pu (pu_fieldAddr0 rfl) ?_
 refine s_rd (rd_load rfl rfl) ?_
 refine swl_sub _ (sc0 0 rfl (sc0 3 rfl (sc0 11 rfl .nil))) ?_
 refine swl_nn ?_
 refine swp_cond (b := _) rfl (fun h11 => ?_) (fun h11 => ?_)
 ·skip
  refine swp_sr ?_
  refine s_as rfl ?_
  refine s_as rfl ?_
  refine swl_sub _ (sc0 4 rfl (sc0 5 rfl .nil)) ?_
  refine swl_nn ?_
  refine swp_ret ?_
  refine then_r ?_
  have ha : (⟨d, SW.pl ⟨q, .slice A1 T.length c1, .slice A2 C.length c2, T, C, dead⟩, dead⟩, 0, 8) = y := by rw [← hy]; exact (addR_dead (x := ⟨d, SW.pl ⟨q, .slice A1 T.length c1, .slice A2 C.length c2, T, C, dead⟩, dead⟩) h11).symm
  subst ha
  exact done_ret [RDA q d, rsH p ⟨q, .slice A1 T.length c1, .slice A2 C.length c2, T, C, dead⟩, ttA ⟨q, .slice A1 T.length c1, .slice A2 C.length c2, T, C, dead⟩, ccA ⟨q, .slice A1 T.length c1, .slice A2 C.length c2, T, C, dead⟩, ro μ] (.tmp rfl (.tmp rfl .nil)) ⟨⟨q, .slice A1 T.length c1, .slice A2 C.length c2, T, C, dead⟩, μ, ⟨Le.refl _, hW0, rfl, rfl, rfl, rfl⟩, rfl⟩ sp0
 ·skip
  have hdd : dead = false := h11
  refine swp_skip ?_
  refine then_n ?_
  refine swp_sr ?_
  refine s_rd (rd_loadW rfl rfl) ?_
  refine s_ef (ef_fn (rcenc_spec μ (.slice A5 c.1.length c5) c hv) rfl rfl sp0) ?_
  rintro v14 L1 ⟨rfl, rfl⟩
  refine swl_app ?_
  refine s_mv rfl ?_
  refine s_pu (pu_extractL rfl) ?_
  refine s_pu (pu_extractL rfl) ?_
  refine s_as rfl ?_
  refine s_as rfl ?_
  refine swl_sub _ (sc0 0 rfl (sc0 3 rfl (sc0 6 rfl (sc0 7 rfl .nil)))) ?_
  refine swl_nn ?_
  refine swp_seq ?_
  refine swp_sr ?_
  refine s_mv rfl ?_
  refine s_pu (pu_eql rfl rfl) ?_
  refine s_mv rfl ?_
  refine s_split 19 rfl (fun h19 => ?_) (fun h19 => ?_)
  ·skip
   have h22' : checkC c = 0 := of_decide_eq_true h19
   rw [if_neg (not_not_intro h22')] at hy
   refine s_on rfl rfl ?_
   refine s_mv rfl ?_
   refine s_on rfl rfl ?_
   refine s_rd (rd_loadW rfl rfl) ?_
   refine s_on rfl rfl ?_
   refine s_ef (ef_fn (rknown_spec μ p ⟨q, .slice A1 T.length c1, .slice A2 C.length c2, T, C, dead⟩ hW0 (.slice A5 c.1.length c5) c hv) rfl rfl sp0) ?_
   rintro v22 L1 ⟨rfl, rfl⟩
   refine swl_app ?_
   refine s_on rfl rfl ?_
   refine s_pu (pu_not rfl) ?_
   refine s_pu (pu_pick_t rfl rfl) ?_
   refine swl_sub _ (sc0 0 rfl (sc0 3 rfl (sc0 6 rfl (sc0 7 rfl (sc0 24 rfl .nil))))) ?_
   refine swl_nn ?_
   refine swp_cond (b := _) rfl (fun h24 => ?_) (fun h24 => ?_)
   ·skip
    have h25' : knownS T.length C.length c = false := by simpa using h24
    rw [if_pos h25'] at hy
    refine swp_region ?_
    refine s_as rfl ?_
    refine swl_sub _ (sc0 0 rfl (sc0 3 rfl (sc0 6 rfl (sc0 7 rfl .nil)))) ?_
    refine swl_nn ?_
    refine swp_seq ?_
    refine swp_sr ?_
    refine s_mv rfl ?_
    refine s_pu (pu_eql rfl rfl) ?_
    refine s_mv rfl ?_
    refine s_split 27 rfl (fun h27 => by cases h27) (fun h27 => ?_)
    refine s_off rfl rfl rfl ?_
    refine s_off rfl rfl rfl ?_
    refine s_off rfl rfl rfl ?_
    refine s_off rfl rfl rfl ?_
    refine s_off rfl rfl rfl ?_
    refine s_off rfl rfl rfl ?_
    refine s_pu (pu_pick_f rfl rfl) ?_
    refine swl_sub _ (sc0 0 rfl (sc0 3 rfl (sc0 6 rfl (sc0 7 rfl (sc0 34 rfl .nil))))) ?_
    refine swl_nn ?_
    refine swp_cond (b := _) rfl (fun h34 => by cases h34) (fun h34 => ?_)
    refine swp_skip ?_
    refine then_n ?_
    refine swp_seq ?_
    refine swp_sr ?_
    refine s_mv rfl ?_
    refine s_pu (pu_eql rfl rfl) ?_
    refine swl_sub _ (sc0 0 rfl (sc0 3 rfl (sc0 6 rfl (sc0 7 rfl (sc0 36 rfl .nil))))) ?_
    refine swl_nn ?_
    refine swp_cond (b := _) rfl (fun h36 => by cases h36) (fun h36 => ?_)
    refine swp_skip ?_
    refine then_n ?_
    refine swp_seq ?_
    refine swp_sr ?_
    refine s_mv rfl ?_
    refine s_pu (pu_neq rfl rfl) ?_
    refine swl_sub _ (sc0 0 rfl (sc0 3 rfl (sc0 7 rfl (sc0 41 rfl .nil)))) ?_
    refine swl_nn ?_
    refine swp_cond (b := _) rfl (fun h41 => ?_) (fun h41 => by cases h41)
    refine swp_sr ?_
    refine s_mv rfl ?_
    refine s_as rfl ?_
    refine s_as rfl ?_
    refine swl_sub _ (sc0 4 rfl (sc0 5 rfl .nil)) ?_
    refine swl_nn ?_
    refine swp_ret ?_
    refine then_r ?_
    have ha : (⟨d, SW.pl ⟨q, .slice A1 T.length c1, .slice A2 C.length c2, T, C, dead⟩, dead⟩, 0, 9) = y := by rw [← hy]; exact (addR_err (x := ⟨d, SW.pl ⟨q, .slice A1 T.length c1, .slice A2 C.length c2, T, C, dead⟩, dead⟩) hdd (by decide)).symm
    subst ha
    exact done_ret [RDA q d, rsH p ⟨q, .slice A1 T.length c1, .slice A2 C.length c2, T, C, dead⟩, ttA ⟨q, .slice A1 T.length c1, .slice A2 C.length c2, T, C, dead⟩, ccA ⟨q, .slice A1 T.length c1, .slice A2 C.length c2, T, C, dead⟩, ro μ] (.tmp rfl (.tmp rfl .nil)) ⟨⟨q, .slice A1 T.length c1, .slice A2 C.length c2, T, C, dead⟩, μ, ⟨Le.refl _, hW0, rfl, rfl, rfl, rfl⟩, rfl⟩ sp0
   ·skip
    have h25' : knownS T.length C.length c = true := by simpa using h24
    rw [if_neg (by rw [h25']; decide)] at hy
    refine swp_skip ?_
    refine then_n ?_
    refine swp_seq ?_
    refine swp_sr ?_
    refine s_mv rfl ?_
    refine s_pu (pu_eql rfl rfl) ?_
    refine s_mv rfl ?_
    refine s_split 27 rfl (fun h27 => ?_) (fun h27 => by rw [h22'] at h27; cases h27)
    refine s_on rfl rfl ?_
    refine s_mv rfl ?_
    refine s_on rfl rfl ?_
    refine s_pu (pu_nilCheck rfl) ?_
    refine s_on rfl rfl ?_
    refine s_pu (pu_fieldAddr0 rfl) ?_
    refine s_on rfl rfl ?_
    refine s_rd (rd_load rfl rfl) ?_
    refine s_on rfl rfl ?_
    refine s_pu (pu_len rfl) ?_
    refine s_on rfl rfl ?_
    refine s_pu (pu_geq rfl rfl) ?_
    refine s_pu (pu_pick_t rfl rfl) ?_
    refine swl_sub _ (sc0 0 rfl (sc0 3 rfl (sc0 6 rfl (sc0 7 rfl (sc0 34 rfl .nil))))) ?_
    refine swl_nn ?_
    refine swp_cond (b := _) rfl (fun h34 => ?_) (fun h34 => ?_)
    ·skip
     have h30' : 65536 ≤ C.length := by have := of_decide_eq_true h34; omega
     refine swp_region ?_
     refine s_as rfl ?_
     refine swl_sub _ (sc0 0 rfl (sc0 3 rfl (sc0 6 rfl (sc0 7 rfl .nil)))) ?_
     refine swl_nn ?_
     refine swp_seq ?_
     refine swp_sr ?_
     refine s_mv rfl ?_
     refine s_pu (pu_eql rfl rfl) ?_
     refine swl_sub _ (sc0 0 rfl (sc0 3 rfl (sc0 6 rfl (sc0 7 rfl (sc0 36 rfl .nil))))) ?_
     refine swl_nn ?_
     refine swp_cond (b := _) rfl (fun h36 => by cases h36) (fun h36 => ?_)
     refine swp_skip ?_
     refine then_n ?_
     refine swp_seq ?_
     refine swp_sr ?_
     refine s_mv rfl ?_
     refine s_pu (pu_neq rfl rfl) ?_
     refine swl_sub _ (sc0 0 rfl (sc0 3 rfl (sc0 7 rfl (sc0 41 rfl .nil)))) ?_
     refine swl_nn ?_
     refine swp_cond (b := _) rfl (fun h41 => ?_) (fun h41 => by cases h41)
     refine swp_sr ?_
     refine s_mv rfl ?_
     refine s_as rfl ?_
     refine s_as rfl ?_
     refine swl_sub _ (sc0 4 rfl (sc0 5 rfl .nil)) ?_
     refine swl_nn ?_
     refine swp_ret ?_
     refine then_r ?_
     have ha : (⟨d, SW.pl ⟨q, .slice A1 T.length c1, .slice A2 C.length c2, T, C, dead⟩, dead⟩, 0, 7) = y := by rw [← hy]; exact (addR_full (x := ⟨d, SW.pl ⟨q, .slice A1 T.length c1, .slice A2 C.length c2, T, C, dead⟩, dead⟩) hdd rfl h30').symm
     subst ha
     exact done_ret [RDA q d, rsH p ⟨q, .slice A1 T.length c1, .slice A2 C.length c2, T, C, dead⟩, ttA ⟨q, .slice A1 T.length c1, .slice A2 C.length c2, T, C, dead⟩, ccA ⟨q, .slice A1 T.length c1, .slice A2 C.length c2, T, C, dead⟩, ro μ] (.tmp rfl (.tmp rfl .nil)) ⟨⟨q, .slice A1 T.length c1, .slice A2 C.length c2, T, C, dead⟩, μ, ⟨Le.refl _, hW0, rfl, rfl, rfl, rfl⟩, rfl⟩ sp0
    ·skip
     have h30' : C.length < 65536 := by have := of_decide_eq_false h34; omega
     have hbl := (checkC_ok h22').1
     refine swp_skip ?_
     refine then_n ?_
     refine swp_seq ?_
     refine swp_sr ?_
     refine s_mv rfl ?_
     refine s_pu (pu_eql rfl rfl) ?_
     refine swl_sub _ (sc0 0 rfl (sc0 3 rfl (sc0 6 rfl (sc0 7 rfl (sc0 36 rfl .nil))))) ?_
     refine swl_nn ?_
     refine swp_cond (b := _) rfl (fun h36 => ?_) (fun h36 => by rw [h22'] at h36; cases h36)
     refine swp_region ?_
     refine s_mv rfl ?_
     refine s_mv rfl ?_
     refine s_ef (ef_fn (rwrite_spec p ⟨q, .slice A1 T.length c1, .slice A2 C.length c2, T, C, dead⟩ d hd m hw hm hdd (2, comV c) (by show 0 < 2; decide) (by show 2 < 256; decide) (by rw [comV_ok h22']; exact encC_len h22')) rfl rfl sp0) ?_
     rintro v39 L1 ⟨rfl, rfl⟩
     rw [comV_ok h22']
     refine swl_app ?_
     dsimp only
     refine s_as rfl ?_
     refine swl_sub _ (sc0 0 rfl (sc0 3 rfl (sc0 7 rfl .nil))) ?_
     refine swl_nn ?_
     refine swp_seq ?_
     refine swp_sr ?_
     refine s_mv rfl ?_
     refine s_pu (pu_neq rfl rfl) ?_
     refine swl_sub _ (sc0 0 rfl (sc0 3 rfl (sc0 7 rfl (sc0 41 rfl .nil)))) ?_
     refine swl_nn ?_
     refine swp_cond (b := _) rfl (fun h41 => ?_) (fun h41 => ?_)
     ·skip
      refine swp_sr ?_
      refine s_mv rfl ?_
      refine s_as rfl ?_
      refine s_as rfl ?_
      refine swl_sub _ (sc0 4 rfl (sc0 5 rfl .nil)) ?_
      refine swl_nn ?_
      refine swp_ret ?_
      refine then_r ?_
      have h38' : (writeD d (2, encC' c)).2 ≠ 0 := by simpa using h41
      have ha : (⟨(writeD d (2, encC' c)).1, SW.pl ⟨q, .slice A1 T.length c1, .slice A2 C.length c2, T, C, dead⟩, decide ((writeD d (2, encC' c)).2 = 8)⟩, 0, (writeD d (2, encC' c)).2) = y := by rw [← hy]; exact (addR_wr (x := ⟨d, SW.pl ⟨q, .slice A1 T.length c1, .slice A2 C.length c2, T, C, dead⟩, dead⟩) hdd rfl h30' h38').symm
      subst ha
      exact done_ret [RDA q (writeD d (2, encC' c)).1, rsH p ⟨q, .slice A1 T.length c1, .slice A2 C.length c2, T, C, decide ((writeD d (2, encC' c)).2 = 8)⟩, ttA ⟨q, .slice A1 T.length c1, .slice A2 C.length c2, T, C, dead⟩, ccA ⟨q, .slice A1 T.length c1, .slice A2 C.length c2, T, C, dead⟩, ro μ] (.tmp rfl (.tmp rfl .nil)) ⟨⟨q, .slice A1 T.length c1, .slice A2 C.length c2, T, C, decide ((writeD d (2, encC' c)).2 = 8)⟩, μ, ⟨Le.refl _, SW.Ok.dead hW0 _, rfl, rfl, rfl, rfl⟩, rfl⟩ sp0
     ·skip
      have h38' : (writeD d (2, encC' c)).2 = 0 := by simpa using h41
      have ha : (⟨(writeD d (2, encC' c)).1, ((SW.pl ⟨q, .slice A1 T.length c1, .slice A2 C.length c2, T, C, dead⟩).1, (SW.pl ⟨q, .slice A1 T.length c1, .slice A2 C.length c2, T, C, dead⟩).2 ++ [c]), false⟩, ((C.length : Nat) : Int), 0) = y := by rw [← hy]; exact (addR_ok (x := ⟨d, SW.pl ⟨q, .slice A1 T.length c1, .slice A2 C.length c2, T, C, dead⟩, dead⟩) hdd rfl h30' h38').symm
      have hd8 : decide ((writeD d (2, encC' c)).2 = 8) = false := by rw [h38']; rfl
      rw [hd8]
      subst ha
      refine swp_skip ?_
      refine then_n ?_
      refine swp_seq ?_
      refine swp_draw [4, 7, 10] ([rsH p ⟨q, .slice A1 T.length c1, .slice A2 C.length c2, T, C, false⟩, blk b3 25 [.slice A5 c.1.length c5, .int .i64 c.2]]) ([RDA q (writeD d (2, encC' c)).1, ro μ, ttA ⟨q, .slice A1 T.length c1, .slice A2 C.length c2, T, C, dead⟩, ccA ⟨q, .slice A1 T.length c1, .slice A2 C.length c2, T, C, dead⟩]) (Split.ent sp0) kr0 ?_
      refine d_pu 0 rfl (pu_move rfl) kr0 kr0 kr0 ?_
      refine d_pu 1 rfl (pu_move rfl) kr0 kr0 kr0 ?_
      refine d_pu 2 rfl (pu_nilCheck rfl) kr0 kr0 kr0 ?_
      refine d_pu 3 rfl (pu_fieldAddr0 rfl) kr0 kr0 kr0 ?_
      refine d_rd 4 rfl (rd_load rfl rfl) rfl kr0 kr0 kr0 ?_
      refine d_pu 6 rfl (pu_fieldAddr0 rfl) kr0 kr0 kr0 ?_
      refine d_rd 7 rfl (rd_load rfl rfl) rfl kr0 kr0 kr0 ?_
      refine d_pu 9 rfl (pu_fieldAddr0 rfl) kr0 kr0 kr0 ?_
      refine d_rd 10 rfl (rd_load rfl rfl) rfl kr0 kr0 kr0 ?_
      refine d_eft 5 rfl kr0 (ef_bldS (qs := []) rfl rfl rfl) ?_
      intro b48
      refine ⟨_, Split.ent sp0, ?_⟩
      refine d_entx (own_empty (n := 1)) ?_
      refine d_eft 8 rfl kr0 (ef_append_ro hv rfl rfl sp0 (icsk_one _) (by simp only [maxLen]; omega) om0) ?_
      rintro v51 -
      rw [Nat.zero_add, List.nil_append]
      refine ⟨_, Split.ent sp0, ?_⟩
      refine swd_factt (p := ∃ A k, v51 = .slice A c.1.length k) (fun m h => own_form (show Sat (own 3 1 v51 c.1.length (c.1.flatMap (icsk .i64)) :: _) m from Sat.tail (A := blk b3 25 [.slice A5 c.1.length c5, .int .i64 c.2]) (Sat.tail (A := rsH p ⟨q, .slice A1 T.length c1, .slice A2 C.length c2, T, C, false⟩) h))) fun ⟨A3, c3, hv51⟩ => ?_
      subst hv51
      refine d_pu 11 rfl (pu_bld (qs := [(0, _), (1, _)]) rfl) kr0 kr0 kr0 ?_
      refine d_eft 12 rfl kr0 (ef_bldS (qs := [(0, _)]) rfl rfl rfl) ?_
      intro b55
      refine ⟨_, Split.ent sp0, ?_⟩
      refine d_fint 13 rfl kr0 kr0 (ef_append_lit (l := C.length) (m := 1) rfl rfl sp0 (by simp only [maxLen]; omega) om0) ?_
      rintro v56 -
      refine swd_factf (fun m h => own_form h) fun ⟨A45, c45, hv45⟩ => ?_
      subst hv45
      refine d_pu 14 rfl (pu_nilCheck rfl) kr0 kr0 kr0 ?_
      refine d_pu 15 rfl (pu_fieldAddr0 rfl) kr0 kr0 kr0 ?_
      refine d_fin0f 16 rfl kr0 kr0 (ef_store rfl rfl rfl) ?_
      refine d_sub _ (sc0 0 rfl .nil) ?_
      refine d_nilf kr0 ?_
      refine then_n ?_
      refine swp_seq ?_
      refine swp_share_own (μ := μ) (v := .slice A3 c.1.length c3) (e := 3) (n := 1) sp0 fun μ' hle hrow => ?_
      refine swp_region ?_
      refine s_mv rfl ?_
      refine s_pu (pu_nilCheck rfl) ?_
      refine s_pu (pu_fieldAddr0 rfl) ?_
      refine s_rd (rd_load rfl rfl) ?_
      refine s_pu (pu_len rfl) ?_
      refine s_pu (pu_sub_as ((C.length : Nat) : Int) rfl rfl om0 om0 om0) ?_
      refine s_as rfl ?_
      refine s_as rfl ?_
      refine swl_sub _ (sc0 4 rfl (sc0 5 rfl .nil)) ?_
      refine swl_nn ?_
      refine swp_ret ?_
      refine done_ret [RDA q (writeD d (2, encC' c)).1, rsH p ⟨q, .slice A1 T.length c1, .slice A45 (C.length + 1) c45, T, C ++ [(.slice A3 c.1.length c3, c)], false⟩, ttA ⟨q, .slice A1 T.length c1, .slice A2 C.length c2, T, C, dead⟩, own 25 2 (.slice A45 (C.length + 1) c45) (C.length + 1) (C.flatMap ccs ++ [.slice A3 c.1.length c3, .int .i64 c.2]), ro μ'] (.tmp rfl (.tmp rfl .nil)) ⟨⟨q, .slice A1 T.length c1, .slice A45 (C.length + 1) c45, T, C ++ [(.slice A3 c.1.length c3, c)], false⟩, μ', ⟨hle, SW.Ok.dead (Ok.addC hW0 hle hrow h30') false, rfl, ?_, rfl, rfl⟩, ?_⟩ sp0
      ·unfold SW.pl; rw [List.map_append]; rfl
      ·simp only [ccA, List.length_append, List.length_singleton, List.flatMap_append]; rfl
  ·skip
   have h22' : checkC c ≠ 0 := of_decide_eq_false h19
   rw [if_pos h22'] at hy
   refine s_off rfl rfl rfl ?_
   refine s_off rfl rfl rfl ?_
   refine s_off rfl rfl rfl ?_
   refine s_off rfl rfl rfl ?_
   refine s_pu (pu_pick_f rfl rfl) ?_
   refine swl_sub _ (sc0 0 rfl (sc0 3 rfl (sc0 6 rfl (sc0 7 rfl (sc0 24 rfl .nil))))) ?_
   refine swl_nn ?_
   refine swp_cond (b := _) rfl (fun h24 => by cases h24) (fun h24 => ?_)
   refine swp_skip ?_
   refine then_n ?_
   refine swp_seq ?_
   refine swp_sr ?_
   refine s_mv rfl ?_
   refine s_pu (pu_eql rfl rfl) ?_
   refine s_mv rfl ?_
   refine s_split 27 rfl (fun h27 => by exact absurd (of_decide_eq_true h27) h22') (fun h27 => ?_)
   refine s_off rfl rfl rfl ?_
   refine s_off rfl rfl rfl ?_
   refine s_off rfl rfl rfl ?_
   refine s_off rfl rfl rfl ?_
   refine s_off rfl rfl rfl ?_
   refine s_off rfl rfl rfl ?_
   refine s_pu (pu_pick_f rfl rfl) ?_
   refine swl_sub _ (sc0 0 rfl (sc0 3 rfl (sc0 6 rfl (sc0 7 rfl (sc0 34 rfl .nil))))) ?_
   refine swl_nn ?_
   refine swp_cond (b := _) rfl (fun h34 => by cases h34) (fun h34 => ?_)
   refine swp_skip ?_
   refine then_n ?_
   refine swp_seq ?_
   refine swp_sr ?_
   refine s_mv rfl ?_
   refine s_pu (pu_eql rfl rfl) ?_
   refine swl_sub _ (sc0 0 rfl (sc0 3 rfl (sc0 6 rfl (sc0 7 rfl (sc0 36 rfl .nil))))) ?_
   refine swl_nn ?_
   refine swp_cond (b := _) rfl (fun h36 => by exact absurd (of_decide_eq_true h36) h22') (fun h36 => ?_)
   refine swp_skip ?_
   refine then_n ?_
   refine swp_seq ?_
   refine swp_sr ?_
   refine s_mv rfl ?_
   refine s_pu (pu_neq rfl rfl) ?_
   refine swl_sub _ (sc0 0 rfl (sc0 3 rfl (sc0 7 rfl (sc0 41 rfl .nil)))) ?_
   refine swl_nn ?_
   refine swp_cond (b := _) rfl (fun h41 => ?_) (fun h41 => by rw [decide_eq_false h22'] at h41; cases h41)
   refine swp_sr ?_
   refine s_mv rfl ?_
   refine s_as rfl ?_
   refine s_as rfl ?_
   refine swl_sub _ (sc0 4 rfl (sc0 5 rfl .nil)) ?_
   refine swl_nn ?_
   refine swp_ret ?_
   refine then_r ?_
   have ha : (⟨d, SW.pl ⟨q, .slice A1 T.length c1, .slice A2 C.length c2, T, C, dead⟩, dead⟩, 0, checkC c) = y := by rw [← hy]; exact (addR_err (x := ⟨d, SW.pl ⟨q, .slice A1 T.length c1, .slice A2 C.length c2, T, C, dead⟩, dead⟩) hdd h22').symm
   subst ha
   exact done_ret [RDA q d, rsH p ⟨q, .slice A1 T.length c1, .slice A2 C.length c2, T, C, dead⟩, ttA ⟨q, .slice A1 T.length c1, .slice A2 C.length c2, T, C, dead⟩, ccA ⟨q, .slice A1 T.length c1, .slice A2 C.length c2, T, C, dead⟩, ro μ] (.tmp rfl (.tmp rfl .nil)) ⟨⟨q, .slice A1 T.length c1, .slice A2 C.length c2, T, C, dead⟩, μ, ⟨Le.refl _, hW0, rfl, rfl, rfl, rfl⟩, rfl⟩ sp0
end SX
namespace SX
open Go Go.Proofs
set_option maxHeartbeats 2000000 in
theorem rtree_spec (p : Nat) (W : SW) (μ : PH) (hW : W.Ok μ) (n : Int) : Spec Tryz.prog 58 [pv p, .int .i64 n] [rsH p W, ttA W, ro μ] (fun r L => ∃ v, r = .tuple #[v, .int .i64 (treeAt W.pl.1 n).2] ∧ Row μ v 2 (treeAt W.pl.1 n).1.length (ens (treeAt W.pl.1 n).1) ∧ L = [rsH p W, ttA W, ro μ]) := by
 have hW0 := hW
 obtain ⟨⟨A1, c1, e1⟩, ⟨A2, c2, e2⟩, htr, hcr, hT, hC⟩ := hW
 obtain ⟨q, tv, cv, T, C, dead⟩ := W
 dsimp only at e1 e2 htr hcr hT hC
 subst e1 e2
 have hlen : (SW.pl ⟨q, .slice A1 T.length c1, .slice A2 C.length c2, T, C, dead⟩).1.length = T.length := List.length_map _
 refine Spec.of 24 Tryz.func58 rfl rfl rfl ?_
 refine swp_sr ?_
 refine s_as rfl ?_
 refine s_as rfl ?_
 refine swl_sub _ (sc0 0 rfl (sc0 1 rfl .nil)) ?_
 refine swl_nn ?_
 refine swp_seq ?_
 refine swp_sr ?_
 refine s_mv rfl ?_
 refine s_pu (pu_lss rfl rfl) ?_
 refine s_mv rfl ?_
 refine s_split 8 rfl (fun h8 => ?_) (fun h8 => ?_)
 ·skip
  have h12' : n < 0 := of_decide_eq_true h8
  rw [treeAt_no (.inl h12')]
  refine s_off rfl rfl rfl ?_
  refine s_off rfl rfl rfl ?_
  refine s_off rfl rfl rfl ?_
  refine s_off rfl rfl rfl ?_
  refine s_off rfl rfl rfl ?_
  refine s_off rfl rfl rfl ?_
  refine s_off rfl rfl rfl ?_
  refine s_pu (pu_pick_t rfl rfl) ?_
  refine swl_sub _ (sc0 0 rfl (sc0 1 rfl (sc0 16 rfl .nil))) ?_
  refine swl_nn ?_
  refine swp_cond (b := _) rfl (fun h16 => ?_) (fun h16 => by cases h16)
  refine swp_sr ?_
  refine s_as rfl ?_
  refine s_as rfl ?_
  refine swl_sub _ (sc0 4 rfl (sc0 5 rfl .nil)) ?_
  refine swl_nn ?_
  refine swp_ret ?_
  refine then_r ?_
  exact done_ret [rsH p ⟨q, .slice A1 T.length c1, .slice A2 C.length c2, T, C, dead⟩, ttA ⟨q, .slice A1 T.length c1, .slice A2 C.length c2, T, C, dead⟩, ro μ] (.tmp rfl (.tmp rfl .nil)) ⟨.slice none 0 0, rfl, Row.nil _ _, rfl⟩ sp0
 ·skip
  have h12' : 0 ≤ n := by have := of_decide_eq_false h8; omega
  refine s_on rfl rfl ?_
  refine s_mv rfl ?_
  refine s_on rfl rfl ?_
  refine s_mv rfl ?_
  refine s_on rfl rfl ?_
  refine s_pu (pu_nilCheck rfl) ?_
  refine s_on rfl rfl ?_
  refine s_pu (pu_fieldAddr0 rfl) ?_
  refine s_on rfl rfl ?_
  refine s_rd (rd_load rfl rfl) ?_
  refine s_on rfl rfl ?_
  refine s_pu (pu_len rfl) ?_
  refine s_on rfl rfl ?_
  refine s_pu (pu_geq rfl rfl) ?_
  refine s_pu (pu_pick_f rfl rfl) ?_
  refine swl_sub _ (sc0 0 rfl (sc0 1 rfl (sc0 16 rfl .nil))) ?_
  refine swl_nn ?_
  refine swp_cond (b := _) rfl (fun h16 => ?_) (fun h16 => ?_)
  ·skip
   refine swp_sr ?_
   refine s_as rfl ?_
   refine s_as rfl ?_
   refine swl_sub _ (sc0 4 rfl (sc0 5 rfl .nil)) ?_
   refine swl_nn ?_
   refine swp_ret ?_
   refine then_r ?_
   have h9' : (T.length : Int) ≤ n := of_decide_eq_true h16
   rw [treeAt_no (.inr (by rw [hlen]; exact h9'))]
   exact done_ret [rsH p ⟨q, .slice A1 T.length c1, .slice A2 C.length c2, T, C, dead⟩, ttA ⟨q, .slice A1 T.length c1, .slice A2 C.length c2, T, C, dead⟩, ro μ] (.tmp rfl (.tmp rfl .nil)) ⟨.slice none 0 0, rfl, Row.nil _ _, rfl⟩ sp0
  ·skip
   have h9' : ¬ (T.length : Int) ≤ n := of_decide_eq_false h16
   obtain ⟨k, rfl⟩ : ∃ k : Nat, n = (k : Int) := ⟨n.toNat, by omega⟩
   have hk : k < T.length := by omega
   obtain ⟨x, hx⟩ : ∃ x, T[k]? = some x := ⟨_, List.getElem?_eq_getElem hk⟩
   have hxt : (SW.pl ⟨q, .slice A1 T.length c1, .slice A2 C.length c2, T, C, dead⟩).1[k]? = some x.2 := by show (T.map (·.2))[k]? = _; rw [List.getElem?_map, hx]; rfl
   rw [treeAt_at hxt]
   have hxm := List.mem_of_getElem? hx
   have hxr := htr x hxm
   refine swp_fact (fun m h => own_shape (e := 22) (n := 1) (v := .slice A1 T.length c1) (l := T.length) (xs := T.flatMap tcs) tk0 h) fun hs => ?_
   obtain ⟨b, rfl⟩ : ∃ b, A1 = some ⟨b, 0, none⟩ := by
    rcases hs with ⟨_, h⟩ | ⟨b, cap, h, _⟩
    ·omega
    ·injection h with h1; exact ⟨b, h1⟩
   refine swp_skip ?_
   refine then_n ?_
   refine swp_sr ?_
   refine s_mv rfl ?_
   refine s_pu (pu_nilCheck rfl) ?_
   refine s_pu (pu_fieldAddr0 rfl) ?_
   refine s_rd (rd_load rfl rfl) ?_
   refine s_mv rfl ?_
   refine s_pu (pu_indexAddr (0 + k * 1) rfl rfl om0 om0 (by rw [Int.toNat_natCast])) ?_
   refine s_rd (rd_of_ld rfl (by rw [Nat.zero_add]; exact ld_ownN (e := 22) (n := 1) tk0 (tcs_get hx))) ?_
   refine s_as rfl ?_
   refine s_as rfl ?_
   refine swl_sub _ (sc0 4 rfl (sc0 5 rfl .nil)) ?_
   refine swl_nn ?_
   refine swp_ret ?_
   exact done_ret [rsH p ⟨q, .slice (some ⟨b, 0, none⟩) T.length c1, .slice A2 C.length c2, T, C, dead⟩, ttA ⟨q, .slice (some ⟨b, 0, none⟩) T.length c1, .slice A2 C.length c2, T, C, dead⟩, ro μ] (.tmp rfl (.tmp rfl .nil)) ⟨x.1, rfl, hxr, rfl⟩ sp0
set_option maxHeartbeats 2000000 in
theorem rcommit_spec (p : Nat) (W : SW) (μ : PH) (hW : W.Ok μ) (n : Int) : Spec Tryz.prog 59 [pv p, .int .i64 n] [rsH p W, ccA W, ro μ] (fun r L => ∃ v, r = .tuple #[cmV v (comAt W.pl.2 n).1.2, .int .i64 (comAt W.pl.2 n).2] ∧ Row μ v 1 (comAt W.pl.2 n).1.1.length ((comAt W.pl.2 n).1.1.flatMap (icsk .i64)) ∧ L = [rsH p W, ccA W, ro μ]) := by
 have hW0 := hW
 obtain ⟨⟨A1, c1, e1⟩, ⟨A2, c2, e2⟩, htr, hcr, hT, hC⟩ := hW
 obtain ⟨q, tv, cv, T, C, dead⟩ := W
 dsimp only at e1 e2 htr hcr hT hC
 subst e1 e2
 have hlen : (SW.pl ⟨q, .slice A1 T.length c1, .slice A2 C.length c2, T, C, dead⟩).2.length = C.length := List.length_map _
 refine Spec.of 25 Tryz.func59 rfl rfl rfl ?_
 refine swp_sr ?_
 refine s_ef (ef_alloc) ?_
 intro b4
 refine s_as rfl ?_
 refine swl_sub _ (sc0 0 rfl (sc0 1 rfl (sc0 4 rfl .nil))) ?_
 refine swl_nn ?_
 refine swp_seq ?_
 refine swp_sr ?_
 refine s_mv rfl ?_
 refine s_pu (pu_lss rfl rfl) ?_
 refine s_mv rfl ?_
 refine s_split 8 rfl (fun h8 => ?_) (fun h8 => ?_)
 ·skip
  have h12' : n < 0 := of_decide_eq_true h8
  rw [comAt_no (.inl h12')]
  refine s_off rfl rfl rfl ?_
  refine s_off rfl rfl rfl ?_
  refine s_off rfl rfl rfl ?_
  refine s_off rfl rfl rfl ?_
  refine s_off rfl rfl rfl ?_
  refine s_off rfl rfl rfl ?_
  refine s_off rfl rfl rfl ?_
  refine s_pu (pu_pick_t rfl rfl) ?_
  refine swl_sub _ (sc0 0 rfl (sc0 1 rfl (sc0 4 rfl (sc0 16 rfl .nil)))) ?_
  refine swl_nn ?_
  refine swp_cond (b := _) rfl (fun h16 => ?_) (fun h16 => by cases h16)
  refine swp_sr ?_
  refine s_pu (pu_bld (qs := []) rfl) ?_
  refine s_ef0 (ef_storeA rfl rfl rfl rfl) ?_
  refine s_as rfl ?_
  refine swl_sub _ (sc0 4 rfl (sc0 5 rfl .nil)) ?_
  refine swl_nn ?_
  refine swp_ret ?_
  refine then_r ?_
  exact done_ret [rsH p ⟨q, .slice A1 T.length c1, .slice A2 C.length c2, T, C, dead⟩, ccA ⟨q, .slice A1 T.length c1, .slice A2 C.length c2, T, C, dead⟩, ro μ] (.cell rfl (ld_whole rfl) (.tmp rfl .nil)) ⟨.slice none 0 0, rfl, Row.nil _ _, rfl⟩ sp0
 ·skip
  have h12' : 0 ≤ n := by have := of_decide_eq_false h8; omega
  refine s_on rfl rfl ?_
  refine s_mv rfl ?_
  refine s_on rfl rfl ?_
  refine s_mv rfl ?_
  refine s_on rfl rfl ?_
  refine s_pu (pu_nilCheck rfl) ?_
  refine s_on rfl rfl ?_
  refine s_pu (pu_fieldAddr0 rfl) ?_
  refine s_on rfl rfl ?_
  refine s_rd (rd_load rfl rfl) ?_
  refine s_on rfl rfl ?_
  refine s_pu (pu_len rfl) ?_
  refine s_on rfl rfl ?_
  refine s_pu (pu_geq rfl rfl) ?_
  refine s_pu (pu_pick_f rfl rfl) ?_
  refine swl_sub _ (sc0 0 rfl (sc0 1 rfl (sc0 4 rfl (sc0 16 rfl .nil)))) ?_
  refine swl_nn ?_
  refine swp_cond (b := _) rfl (fun h16 => ?_) (fun h16 => ?_)
  ·skip
   refine swp_sr ?_
   refine s_pu (pu_bld (qs := []) rfl) ?_
   refine s_ef0 (ef_storeA rfl rfl rfl rfl) ?_
   refine s_as rfl ?_
   refine swl_sub _ (sc0 4 rfl (sc0 5 rfl .nil)) ?_
   refine swl_nn ?_
   refine swp_ret ?_
   refine then_r ?_
   have h9' : (C.length : Int) ≤ n := of_decide_eq_true h16
   rw [comAt_no (.inr (by rw [hlen]; exact h9'))]
   exact done_ret [rsH p ⟨q, .slice A1 T.length c1, .slice A2 C.length c2, T, C, dead⟩, ccA ⟨q, .slice A1 T.length c1, .slice A2 C.length c2, T, C, dead⟩, ro μ] (.cell rfl (ld_whole rfl) (.tmp rfl .nil)) ⟨.slice none 0 0, rfl, Row.nil _ _, rfl⟩ sp0
  ·skip
   have h9' : ¬ (C.length : Int) ≤ n := of_decide_eq_false h16
   obtain ⟨k, rfl⟩ : ∃ k : Nat, n = (k : Int) := ⟨n.toNat, by omega⟩
   have hk : k < C.length := by omega
   obtain ⟨x, hx⟩ : ∃ x, C[k]? = some x := ⟨_, List.getElem?_eq_getElem hk⟩
   have hxt : (SW.pl ⟨q, .slice A1 T.length c1, .slice A2 C.length c2, T, C, dead⟩).2[k]? = some x.2 := by show (C.map (·.2))[k]? = _; rw [List.getElem?_map, hx]; rfl
   rw [comAt_at hxt]
   have hxm := List.mem_of_getElem? hx
   have hxr := hcr x hxm
   obtain ⟨A6, c6, hx1⟩ := hxr.sl
   have hrow := ccs_row hx
   rw [hx1] at hrow hxr
   refine swp_fact (fun m h => own_shape (e := 25) (n := 2) (v := .slice A2 C.length c2) (l := C.length) (xs := C.flatMap ccs) tk0 h) fun hs => ?_
   obtain ⟨b, rfl⟩ : ∃ b, A2 = some ⟨b, 0, none⟩ := by
    rcases hs with ⟨_, h⟩ | ⟨b, cap, h, _⟩
    ·omega
    ·injection h with h1; exact ⟨b, h1⟩
   refine swp_skip ?_
   refine then_n ?_
   refine swp_sr ?_
   refine s_mv rfl ?_
   refine s_pu (pu_nilCheck rfl) ?_
   refine s_pu (pu_fieldAddr0 rfl) ?_
   refine s_rd (rd_load rfl rfl) ?_
   refine s_mv rfl ?_
   refine s_pu (pu_indexAddr (0 + k * 2) rfl rfl om0 om0 (by rw [Int.toNat_natCast])) ?_
   refine s_rd (rd_of_ld rfl (ld_ownA (e := 25) (n := 2) (vs := [.slice A6 x.2.1.length c6, .int .i64 x.2.2]) tk0 rfl hrow)) ?_
   refine s_ef0 (ef_storeA rfl rfl rfl rfl) ?_
   refine s_as rfl ?_
   refine swl_sub _ (sc0 4 rfl (sc0 5 rfl .nil)) ?_
   refine swl_nn ?_
   refine swp_ret ?_
   exact done_ret [rsH p ⟨q, .slice A1 T.length c1, .slice (some ⟨b, 0, none⟩) C.length c2, T, C, dead⟩, ccA ⟨q, .slice A1 T.length c1, .slice (some ⟨b, 0, none⟩) C.length c2, T, C, dead⟩, ro μ] (.cell rfl (ld_whole rfl) (.tmp rfl .nil)) ⟨.slice A6 x.2.1.length c6, rfl, hxr, rfl⟩ sp0
theorem samel_spec (μ : PH) (u v : Value) (xs ys : List Int) (hu : Row μ u 1 xs.length (xs.flatMap (icsk .i64))) (hv : Row μ v 1 ys.length (ys.flatMap (icsk .i64))) : Spec Tryz.prog 55 [u, v] [ro μ] (fun r L => r = .bool (decide (xs = ys)) ∧ L = [ro μ]) := by
 have hs1 := hu.small
 have hs2 := hv.small
 refine Spec.of 26 Tryz.func55 rfl rfl rfl ?_
 refine swp_sr ?_
 refine s_as rfl ?_
 refine swl_sub _ (sc0 0 rfl (sc0 1 rfl .nil)) ?_
 refine swl_nn ?_
 refine swp_seq ?_
 refine swp_sr ?_
 refine s_mv rfl ?_
 refine s_pu (pu_len_row hu rfl) ?_
 refine s_mv rfl ?_
 refine s_pu (pu_len_row hv rfl) ?_
 refine s_pu (pu_neq rfl rfl) ?_
 refine swl_sub _ (sc0 0 rfl (sc0 1 rfl (sc0 10 rfl .nil))) ?_
 refine swl_nn ?_
 refine swp_cond (b := _) rfl (fun h10 => ?_) (fun h10 => ?_)
 ·skip
  refine swp_sr ?_
  refine s_as rfl ?_
  refine swl_sub _ (sc0 4 rfl .nil) ?_
  refine swl_nn ?_
  refine swp_ret ?_
  refine then_r ?_
  simp only [Bool.not_eq_true', decide_eq_false_iff_not] at h10
  exact done_ret [ro μ] (.tmp rfl .nil) ⟨by rw [decide_eq_false (fun e => h10 (by rw [e]))]; rfl, rfl⟩ sp0
 ·skip
  refine swp_skip ?_
  refine then_n ?_
  refine swp_seq ?_
  refine swp_sr ?_
  refine s_as rfl ?_
  refine swl_sub _ (sc0 0 rfl (sc0 1 rfl (sc0 5 rfl .nil))) ?_
  refine swl_nn ?_
  refine swp_block ?_
  have hlen : xs.length = ys.length := by
   simp only [Bool.not_eq_false', decide_eq_true_eq] at h10; omega
  refine swp_loop (ι := Nat) (fun i env L => Sub env [(0, u), (1, v), (5, .int .i64 (i : Nat))] ∧ L = [ro μ] ∧ i ≤ xs.length ∧ ∀ j, j < i → xs[j]? = ys[j]?) (fun i => xs.length - i) 0 ⟨⟨rfl, rfl, rfl, trivial⟩, rfl, Nat.zero_le _, fun j h => by omega⟩ ?_
  rintro i env L ⟨hsub, rfl, hi, hlo⟩
  refine swp_sub _ hsub ?_
  clear hsub env
  refine swp_seq ?_
  refine swp_sr ?_
  refine s_mv rfl ?_
  refine s_mv rfl ?_
  refine s_pu (pu_len_row hu rfl) ?_
  refine s_pu (pu_lss rfl rfl) ?_
  refine swl_sub _ (sc0 0 rfl (sc0 1 rfl (sc0 5 rfl (sc0 14 rfl .nil)))) ?_
  refine swl_nn ?_
  refine swp_cond (b := _) rfl (fun h14 => ?_) (fun h14 => ?_)
  ·skip
   have h14' : i < xs.length := by have := of_decide_eq_true h14; omega
   obtain ⟨x, hx⟩ : ∃ x, xs[i]? = some x := ⟨_, List.getElem?_eq_getElem h14'⟩
   obtain ⟨y, hy⟩ : ∃ y, ys[i]? = some y := ⟨_, List.getElem?_eq_getElem om0⟩
   obtain ⟨ab, ao, ac, hav, hxl⟩ := int_at hu hx
   obtain ⟨bb, bo, bc, hbv, hyl⟩ := int_at hv hy
   refine swp_skip ?_
   refine then_n ?_
   refine swp_seq ?_
   refine swp_block ?_
   refine swp_seq ?_
   refine swp_draw [3, 7] _ [] (by simp only [List.append_nil]; exact Ent.refl _) kr0 ?_
   refine d_pu 0 rfl (pu_move rfl) kr0 kr0 kr0 ?_
   refine d_pu 1 rfl (pu_move rfl) kr0 kr0 kr0 ?_
   refine d_pu 2 rfl (pu_indexAddr (ao + i * 1) (congrArg some hav) rfl om0 om0 (by rw [Int.toNat_natCast])) kr0 kr0 kr0 ?_
   refine d_rd 3 rfl (rd_ro rfl hxl) rfl kr0 kr0 kr0 ?_
   refine d_pu 4 rfl (pu_move rfl) kr0 kr0 kr0 ?_
   refine d_pu 5 rfl (pu_move rfl) kr0 kr0 kr0 ?_
   refine d_pu 6 rfl (pu_indexAddr (bo + i * 1) (congrArg some hbv) rfl om0 om0 (by rw [Int.toNat_natCast])) kr0 kr0 kr0 ?_
   refine d_rd 7 rfl (rd_ro rfl hyl) rfl kr0 kr0 kr0 ?_
   refine d_pu 8 rfl (pu_neq rfl rfl) kr0 kr0 kr0 ?_
   refine d_sub _ (sc0 0 rfl (sc0 1 rfl (sc0 5 rfl (sc0 25 rfl .nil)))) ?_
   refine d_nilt kr0 ?_
   refine then_n ?_
   refine swp_cond (b := _) rfl (fun h25 => ?_) (fun h25 => ?_)
   ·skip
    refine swp_sr ?_
    refine s_as rfl ?_
    refine swl_sub _ (sc0 4 rfl .nil) ?_
    refine swl_nn ?_
    refine swp_ret ?_
    refine block_r ?_
    refine then_r ?_
    refine then_r ?_
    refine block_r ?_
    refine then_r ?_
    simp only [Bool.not_eq_true', decide_eq_false_iff_not] at h25
    exact done_ret [ro μ] (.tmp rfl .nil) ⟨by rw [decide_eq_false (fun e => h25 (by subst e; rw [hx] at hy; exact Option.some.inj hy))]; rfl, rfl⟩ sp0
   ·skip
    refine swp_skip ?_
    refine block_n ?_
    refine then_n ?_
    refine swp_region ?_
    refine s_mv rfl ?_
    refine s_pu (pu_add_as ((i + 1 : Nat) : Int) rfl rfl om0 om0 om0) ?_
    refine s_as rfl ?_
    refine swl_sub _ (sc0 0 rfl (sc0 1 rfl (sc0 5 rfl .nil))) ?_
    refine swl_nil ?_
    simp only [Bool.not_eq_false', decide_eq_true_eq] at h25
    exact then_n ⟨i + 1, ⟨⟨rfl, rfl, rfl, trivial⟩, rfl, h14', fun j hj => by
     by_cases e : j = i
     ·subst e; rw [hx, hy, h25]
     ·exact hlo j om0⟩, by omega⟩
  ·skip
   have h14' := of_decide_eq_false h14
   obtain rfl : i = xs.length := by omega
   refine swp_exit ?_
   refine then_x ?_
   refine then_x ?_
   refine block_hit rfl ?_
   refine then_n ?_
   refine swp_sr ?_
   refine s_as rfl ?_
   refine swl_sub _ (sc0 4 rfl .nil) ?_
   refine swl_nn ?_
   refine swp_ret ?_
   exact done_ret [ro μ] (.tmp rfl .nil) ⟨by rw [decide_eq_true (List.ext_getElem? fun j => by
    by_cases hj : j < xs.length
    ·exact hlo j hj
    ·rw [List.getElem?_eq_none om0, List.getElem?_eq_none om0])]; rfl, rfl⟩ sp0
theorem samec_spec (μ : PH) (u v : Value) (a c : Cm) (hu : Row μ u 1 a.1.length (a.1.flatMap (icsk .i64))) (hv : Row μ v 1 c.1.length (c.1.flatMap (icsk .i64))) : Spec Tryz.prog 17 [cmV u a.2, cmV v c.2] [ro μ] (fun r L => r = .bool (decide (a = c)) ∧ L = [ro μ]) := by
 obtain ⟨U, cu, hU⟩ := hu.sl
 obtain ⟨V, cw, hV⟩ := hv.sl
 subst hU hV
 refine Spec.of 17 Tryz.func17 rfl rfl rfl ?_
 refine swp_sr ?_
 refine s_ef (ef_box rfl rfl) ?_
 intro b2
 refine s_ef (ef_box rfl rfl) ?_
 intro b3
 refine s_as rfl ?_
 refine swl_sub _ (sc0 2 rfl (sc0 3 rfl .nil)) ?_
 refine swl_nn ?_
 refine swp_sr ?_
 refine s_pu (pu_fieldAddr0 rfl) ?_
 refine s_rd (rd_load rfl rfl) ?_
 refine s_pu (pu_fieldAddr0 rfl) ?_
 refine s_rd (rd_load rfl rfl) ?_
 refine s_pu (pu_eql rfl rfl) ?_
 refine s_mv rfl ?_
 refine s_split 10 rfl (fun h10 => ?_) (fun h10 => ?_)
 ·skip
  have h10' : a.2 = c.2 := of_decide_eq_true h10
  refine s_on rfl rfl ?_
  refine s_pu (pu_fieldAddr0 rfl) ?_
  refine s_on rfl rfl ?_
  refine s_rd (rd_load rfl rfl) ?_
  refine s_on rfl rfl ?_
  refine s_pu (pu_fieldAddr0 rfl) ?_
  refine s_on rfl rfl ?_
  refine s_rd (rd_load rfl rfl) ?_
  refine s_on rfl rfl ?_
  refine s_ef (ef_fn (samel_spec μ (.slice U a.1.length cu) (.slice V c.1.length cw) a.1 c.1 hu hv) rfl rfl sp0) ?_
  rintro v15 L1 ⟨rfl, rfl⟩
  refine swl_app ?_
  refine s_pu (pu_pick_t rfl rfl) ?_
  refine s_as rfl ?_
  refine swl_sub _ (sc0 4 rfl .nil) ?_
  refine swl_nn ?_
  refine swp_ret ?_
  refine done_ret [ro μ] (.tmp rfl .nil) ⟨?_, rfl⟩ sp0
  by_cases e : a.1 = c.1
  ·rw [decide_eq_true e, decide_eq_true (Prod.ext e h10')]; rfl
  ·rw [decide_eq_false e, decide_eq_false (fun k => e (congrArg Prod.fst k))]; rfl
 ·skip
  refine s_off rfl rfl rfl ?_
  refine s_off rfl rfl rfl ?_
  refine s_off rfl rfl rfl ?_
  refine s_off rfl rfl rfl ?_
  refine s_off rfl rfl rfl ?_
  refine s_pu (pu_pick_f rfl rfl) ?_
  refine s_as rfl ?_
  refine swl_sub _ (sc0 4 rfl .nil) ?_
  refine swl_nn ?_
  refine swp_ret ?_
  have h10' : ¬ a.2 = c.2 := of_decide_eq_false h10
  refine done_ret [ro μ] (.tmp rfl .nil) ⟨?_, rfl⟩ sp0
  rw [decide_eq_false (fun k => h10' (congrArg Prod.snd k))]; rfl
end SX
namespace SX
open Go Go.Proofs
set_option maxHeartbeats 2000000 in
theorem rgraph_spec (p : Nat) (W : SW) (μ : PH) (hW : W.Ok μ) (hlt : ∀ x ∈ W.C, x.2.1.length ≤ 1048576) : Spec Tryz.prog 57 [pv p] [rsH p W, ccA W, ro μ] (fun r L => ∃ μ' G, Le μ μ' ∧ Graph μ' r G ∧ nums G = parS W.pl ∧ L = [rsH p W, ccA W, ro μ']) := by
 have hW0 := hW
 obtain ⟨⟨A1, c1, e1⟩, ⟨A2, c2, e2⟩, htr, hcr, hT, hC⟩ := hW
 obtain ⟨q, tv, cv, T, C, dead⟩ := W
 dsimp only at e1 e2 htr hcr hT hC hlt
 subst e1 e2
 refine Spec.of 28 Tryz.func57 rfl rfl rfl ?_
 refine swp_sr ?_
 refine s_as rfl ?_
 refine swl_sub _ (sc0 0 rfl .nil) ?_
 refine swl_nn ?_
 refine swp_sr ?_
 refine s_as rfl ?_
 refine swl_sub _ (sc0 0 rfl (sc0 3 rfl .nil)) ?_
 refine swl_nn ?_
 refine swp_seq ?_
 refine swp_sr ?_
 refine s_as rfl ?_
 refine swl_sub _ (sc0 0 rfl (sc0 3 rfl (sc0 4 rfl .nil))) ?_
 refine swl_nn ?_
 refine swp_block ?_
 refine swp_ent (own_nil_ent (e := 23) (n := 1)) ?_
 refine swp_loop (ι := Nat × Value × List (Value × List Int) × PH) (fun k env L => Sub env [(0, pv p), (3, k.2.1), (4, .int .i64 (k.1 : Nat))] ∧ Ent L [own 23 1 k.2.1 k.1 (k.2.2.1.flatMap gcs), rsH p ⟨q, .slice A1 T.length c1, .slice A2 C.length c2, T, C, dead⟩, ccA ⟨q, .slice A1 T.length c1, .slice A2 C.length c2, T, C, dead⟩, ro k.2.2.2] ∧ k.1 ≤ C.length ∧ Le μ k.2.2.2 ∧ nums k.2.2.1 = ((C.take k.1).map (·.2)).map (·.1) ∧ (∀ x ∈ k.2.2.1, Row k.2.2.2 x.1 1 x.2.length (x.2.flatMap (icsk .i64)))) (fun k => C.length - k.1) (0, .slice none 0 0, [], μ) ⟨⟨rfl, rfl, rfl, trivial⟩, by show Ent _ [own 23 1 (.slice none 0 0) 0 [], rsH p ⟨q, .slice A1 T.length c1, .slice A2 C.length c2, T, C, dead⟩, ccA ⟨q, .slice A1 T.length c1, .slice A2 C.length c2, T, C, dead⟩, ro μ]; exact Split.ent' sp0, Nat.zero_le _, Le.refl _, rfl, fun x hx => (by cases hx)⟩ ?_
 rintro ⟨k, v3, Gk, μk⟩ env L ⟨hsub, hE, hk, hle, hnk, hrk⟩
 dsimp only at hsub hE hk hle hnk hrk ⊢
 refine swp_sub _ hsub ?_
 refine swp_ent hE ?_
 clear hsub hE env L
 refine swp_seq ?_
 refine swp_sr ?_
 refine s_mv rfl ?_
 refine s_mv rfl ?_
 refine s_pu (pu_nilCheck rfl) ?_
 refine s_pu (pu_fieldAddr0 rfl) ?_
 refine s_rd (rd_load rfl rfl) ?_
 refine s_pu (pu_len rfl) ?_
 refine s_pu (pu_lss rfl rfl) ?_
 refine swl_sub _ (sc0 0 rfl (sc0 3 rfl (sc0 4 rfl (sc0 11 rfl .nil)))) ?_
 refine swl_nn ?_
 refine swp_cond (b := _) rfl (fun h11 => ?_) (fun h11 => ?_)
 ·skip
  have h8' : k < C.length := by have := of_decide_eq_true h11; omega
  obtain ⟨x, hx⟩ : ∃ x, C[k]? = some x := ⟨_, List.getElem?_eq_getElem h8'⟩
  have hxm := List.mem_of_getElem? hx
  have hxr := (hcr x hxm).le hle
  have hlx := hlt x hxm
  have hx0 := (ccs_get hx).1
  refine swp_fact (fun m h => own_shape (e := 25) (n := 2) (v := .slice A2 C.length c2) (l := C.length) (xs := C.flatMap ccs) tk0 h) fun hs => ?_
  obtain ⟨b, hA2⟩ : ∃ b, A2 = some ⟨b, 0, none⟩ := by
   rcases hs with ⟨_, h⟩ | ⟨b, cap, h, _⟩
   ·omega
   ·injection h with h1; exact ⟨b, h1⟩
  rw [hA2]
  refine swp_skip ?_
  refine then_n ?_
  refine swp_seq ?_
  refine swp_block ?_
  refine swp_region ?_
  refine s_mv rfl ?_
  refine s_ef (ef_bldS (qs := []) rfl rfl rfl) ?_
  intro b15
  refine swl_ent (own_empty (n := 1)) ?_
  refine s_mv rfl ?_
  refine s_pu (pu_nilCheck rfl) ?_
  refine s_pu (pu_fieldAddr0 rfl) ?_
  refine s_rd (rd_load rfl rfl) ?_
  refine s_mv rfl ?_
  refine s_pu (pu_indexAddr (0 + k * 2) rfl rfl om0 om0 (by rw [Int.toNat_natCast])) ?_
  refine s_pu (pu_fieldAddr rfl) ?_
  refine s_rd (rd_of_ld rfl (by rw [Nat.zero_add]; exact ld_ownN (e := 25) (n := 2) tk0 hx0)) ?_
  refine s_ef (ef_append_ro hxr rfl rfl sp0 (icsk_one _) (by simp only [maxLen]; omega) om0) ?_
  rintro v24 -
  rw [Nat.zero_add x.2.1.length, List.nil_append]
  refine swl_fact (fun m h => own_form h) fun ⟨A3, c3, hv3⟩ => ?_
  subst hv3
  refine s_ef (ef_bldS (qs := [(0, _)]) rfl rfl rfl) ?_
  intro b25
  refine s_ef (ef_append_lit (l := k) (m := 1) rfl rfl sp0 (by simp only [maxLen]; omega) om0) ?_
  rintro v26 -
  skip
  refine s_as rfl ?_
  refine swl_sub _ (sc0 0 rfl (sc0 3 rfl (sc0 4 rfl .nil))) ?_
  rw [← hA2]
  refine swl_share_own (μ := μk) (v := .slice A3 x.2.1.length c3) (e := 3) (n := 1) sp0 fun μ' hle' hrow' => ?_
  refine swl_nil ?_
  refine block_n ?_
  refine then_n ?_
  refine swp_region ?_
  refine s_mv rfl ?_
  refine s_pu (pu_add_as ((k + 1 : Nat) : Int) rfl rfl om0 om0 om0) ?_
  refine s_as rfl ?_
  refine swl_sub _ (sc0 0 rfl (sc0 3 rfl (sc0 4 rfl .nil))) ?_
  refine swl_nil ?_
  refine then_n ⟨(k + 1, v26, Gk ++ [(.slice A3 x.2.1.length c3, x.2.1)], μ'), ⟨⟨rfl, rfl, rfl, trivial⟩, ?_, h8', hle.trans hle', ?_, fun y hy => ?_⟩, by show C.length - (k + 1) < C.length - k; omega⟩
  ·show Ent _ [own 23 1 v26 (k + 1) ((Gk ++ [(Value.slice A3 x.2.1.length c3, x.2.1)]).flatMap gcs), rsH p ⟨q, .slice A1 T.length c1, .slice A2 C.length c2, T, C, dead⟩, ccA ⟨q, .slice A1 T.length c1, .slice A2 C.length c2, T, C, dead⟩, ro μ']
   rw [show (Gk ++ [(Value.slice A3 x.2.1.length c3, x.2.1)]).flatMap gcs = Gk.flatMap gcs ++ [Value.slice A3 x.2.1.length c3] by rw [List.flatMap_append]; rfl]
   exact Split.ent' sp0
  ·show List.map (·.2) (Gk ++ [((_ : Value), x.2.1)]) = ((C.take (k + 1)).map (·.2)).map (·.1)
   rw [List.map_append, List.take_add_one, hx, List.map_append, List.map_append, ← hnk]; rfl
  ·rcases List.mem_append.1 hy with hy | hy
   ·exact (hrk y hy).le hle'
   ·obtain rfl : y = (Value.slice A3 x.2.1.length c3, x.2.1) := by simpa using hy
    exact hrow'
 ·skip
  have h8' := of_decide_eq_false h11
  obtain rfl : k = C.length := by omega
  rw [List.take_length] at hnk
  refine swp_exit ?_
  refine then_x ?_
  refine then_x ?_
  refine block_hit rfl ?_
  refine then_n ?_
  refine swp_seq ?_
  refine swp_share_own (μ := μk) (v := v3) (e := 23) (n := 1) sp0 fun μ' hle' hrow' => ?_
  refine swp_region ?_
  refine s_mv rfl ?_
  refine s_as rfl ?_
  refine swl_sub _ (sc0 2 rfl .nil) ?_
  refine swl_nn ?_
  refine swp_ret ?_
  have hGl : C.length = Gk.length := by
   have := congrArg List.length hnk
   simp only [nums, List.length_map] at this
   exact this.symm
  rw [hGl] at hrow'
  exact done_ret [rsH p ⟨q, .slice A1 T.length c1, .slice A2 C.length c2, T, C, dead⟩, ccA ⟨q, .slice A1 T.length c1, .slice A2 C.length c2, T, C, dead⟩, ro μ'] (.tmp rfl .nil) ⟨μ', Gk, hle.trans hle', ⟨hrow', fun x hx => (hrk x hx).le hle'⟩, hnk, rfl⟩ sp0
theorem gr_at {μ : PH} {v : Value} {G : List (Value × List Int)} (h : Graph μ v G) {i : Nat} {x : Value × List Int} (hi : G[i]? = some x) : ∃ b off cap, v = .slice (some ⟨b, off, none⟩) G.length cap ∧ CellAt μ b (off + i * 1) x.1 ∧ Row μ x.1 1 x.2.length (x.2.flatMap (icsk .i64)) ∧ (nums G)[i]? = some x.2 := by
  have hl := (List.getElem?_eq_some_iff.1 hi).1
  obtain ⟨b, off, cap, hv, _, _, hr⟩ := h.1.pos om0
  refine ⟨b, off, cap, hv, (hr.elem (f := gcs) (n := 1) (fun _ => rfl) hi).cell, h.2 x (List.mem_of_getElem? hi), ?_⟩
  show (G.map (·.2))[i]? = _
  rw [List.getElem?_map, hi]; rfl
theorem sameg_spec (μ : PH) (u v : Value) (Ga Gb : List (Value × List Int)) (hu : Graph μ u Ga) (hv : Graph μ v Gb) : Spec Tryz.prog 56 [u, v] [ro μ] (fun r L => r = .bool (decide (nums Ga = nums Gb)) ∧ L = [ro μ]) := by
 have hs1 := hu.1.small
 have hs2 := hv.1.small
 have hla : (nums Ga).length = Ga.length := List.length_map _
 have hlb : (nums Gb).length = Gb.length := List.length_map _
 refine Spec.of 27 Tryz.func56 rfl rfl rfl ?_
 refine swp_sr ?_
 refine s_as rfl ?_
 refine swl_sub _ (sc0 0 rfl (sc0 1 rfl .nil)) ?_
 refine swl_nn ?_
 refine swp_seq ?_
 refine swp_sr ?_
 refine s_mv rfl ?_
 refine s_pu (pu_len_row hu.1 rfl) ?_
 refine s_mv rfl ?_
 refine s_pu (pu_len_row hv.1 rfl) ?_
 refine s_pu (pu_neq rfl rfl) ?_
 refine swl_sub _ (sc0 0 rfl (sc0 1 rfl (sc0 10 rfl .nil))) ?_
 refine swl_nn ?_
 refine swp_cond (b := _) rfl (fun h10 => ?_) (fun h10 => ?_)
 ·skip
  refine swp_sr ?_
  refine s_as rfl ?_
  refine swl_sub _ (sc0 4 rfl .nil) ?_
  refine swl_nn ?_
  refine swp_ret ?_
  refine then_r ?_
  simp only [Bool.not_eq_true', decide_eq_false_iff_not] at h10
  exact done_ret [ro μ] (.tmp rfl .nil) ⟨by rw [decide_eq_false (fun e => h10 (by rw [← hla, ← hlb, e]))]; rfl, rfl⟩ sp0
 ·skip
  refine swp_skip ?_
  refine then_n ?_
  refine swp_seq ?_
  refine swp_sr ?_
  refine s_as rfl ?_
  refine swl_sub _ (sc0 0 rfl (sc0 1 rfl (sc0 5 rfl .nil))) ?_
  refine swl_nn ?_
  refine swp_block ?_
  have hlen : Ga.length = Gb.length := by
   simp only [Bool.not_eq_false', decide_eq_true_eq] at h10; omega
  refine swp_loop (ι := Nat) (fun i env L => Sub env [(0, u), (1, v), (5, .int .i64 (i : Nat))] ∧ L = [ro μ] ∧ i ≤ Ga.length ∧ ∀ j, j < i → (nums Ga)[j]? = (nums Gb)[j]?) (fun i => Ga.length - i) 0 ⟨⟨rfl, rfl, rfl, trivial⟩, rfl, Nat.zero_le _, fun j h => by omega⟩ ?_
  rintro i env L ⟨hsub, rfl, hi, hlo⟩
  refine swp_sub _ hsub ?_
  clear hsub env
  refine swp_seq ?_
  refine swp_sr ?_
  refine s_mv rfl ?_
  refine s_mv rfl ?_
  refine s_pu (pu_len_row hu.1 rfl) ?_
  refine s_pu (pu_lss rfl rfl) ?_
  refine swl_sub _ (sc0 0 rfl (sc0 1 rfl (sc0 5 rfl (sc0 14 rfl .nil)))) ?_
  refine swl_nn ?_
  refine swp_cond (b := _) rfl (fun h14 => ?_) (fun h14 => ?_)
  ·skip
   have h14' : i < Ga.length := by have := of_decide_eq_true h14; omega
   obtain ⟨x, hx⟩ : ∃ x, Ga[i]? = some x := ⟨_, List.getElem?_eq_getElem h14'⟩
   obtain ⟨y, hy⟩ : ∃ y, Gb[i]? = some y := ⟨_, List.getElem?_eq_getElem om0⟩
   obtain ⟨ab, ao, ac, hav, hxl, hxr, hxn⟩ := gr_at hu hx
   obtain ⟨bb, bo, bc, hbv, hyl, hyr, hyn⟩ := gr_at hv hy
   refine swp_skip ?_
   refine then_n ?_
   refine swp_seq ?_
   refine swp_block ?_
   refine swp_seq ?_
   refine swp_draw [3, 7] _ [] (by simp only [List.append_nil]; exact Ent.refl _) kr0 ?_
   refine d_pu 0 rfl (pu_move rfl) kr0 kr0 kr0 ?_
   refine d_pu 1 rfl (pu_move rfl) kr0 kr0 kr0 ?_
   refine d_pu 2 rfl (pu_indexAddr (ao + i * 1) (congrArg some hav) rfl om0 om0 (by rw [Int.toNat_natCast])) kr0 kr0 kr0 ?_
   refine d_rd 3 rfl (rd_ro rfl hxl) rfl kr0 kr0 kr0 ?_
   refine d_pu 4 rfl (pu_move rfl) kr0 kr0 kr0 ?_
   refine d_pu 5 rfl (pu_move rfl) kr0 kr0 kr0 ?_
   refine d_pu 6 rfl (pu_indexAddr (bo + i * 1) (congrArg some hbv) rfl om0 om0 (by rw [Int.toNat_natCast])) kr0 kr0 kr0 ?_
   refine d_rd 7 rfl (rd_ro rfl hyl) rfl kr0 kr0 kr0 ?_
   refine d_fint 8 rfl kr0 kr0 (ef_fn (samel_spec μ x.1 y.1 x.2 y.2 hxr hyr) rfl rfl sp0) ?_
   rintro v25 L1 ⟨rfl, rfl⟩
   refine swd_app ?_
   refine d_pu 9 rfl (pu_not rfl) kr0 kr0 kr0 ?_
   refine d_sub _ (sc0 0 rfl (sc0 1 rfl (sc0 5 rfl (sc0 26 rfl .nil)))) ?_
   refine d_nilf kr0 ?_
   refine then_n ?_
   refine swp_cond (b := _) rfl (fun h26 => ?_) (fun h26 => ?_)
   ·skip
    refine swp_sr ?_
    refine s_as rfl ?_
    refine swl_sub _ (sc0 4 rfl .nil) ?_
    refine swl_nn ?_
    refine swp_ret ?_
    refine block_r ?_
    refine then_r ?_
    refine then_r ?_
    refine block_r ?_
    refine then_r ?_
    simp only [Bool.not_eq_true', decide_eq_false_iff_not] at h26
    exact done_ret [ro μ] (.tmp rfl .nil) ⟨by rw [decide_eq_false (fun e => h26 (by rw [e, hyn] at hxn; exact (Option.some.inj hxn).symm))]; rfl, rfl⟩ sp0
   ·skip
    refine swp_skip ?_
    refine block_n ?_
    refine then_n ?_
    refine swp_region ?_
    refine s_mv rfl ?_
    refine s_pu (pu_add_as ((i + 1 : Nat) : Int) rfl rfl om0 om0 om0) ?_
    refine s_as rfl ?_
    refine swl_sub _ (sc0 0 rfl (sc0 1 rfl (sc0 5 rfl .nil))) ?_
    refine swl_nil ?_
    simp only [Bool.not_eq_false', decide_eq_true_eq] at h26
    exact then_n ⟨i + 1, ⟨⟨rfl, rfl, rfl, trivial⟩, rfl, h14', fun j hj => by
     by_cases e : j = i
     ·subst e; rw [hxn, hyn, h26]
     ·exact hlo j om0⟩, by omega⟩
  ·skip
   have h14' := of_decide_eq_false h14
   obtain rfl : i = Ga.length := by omega
   refine swp_exit ?_
   refine then_x ?_
   refine then_x ?_
   refine block_hit rfl ?_
   refine then_n ?_
   refine swp_sr ?_
   refine s_as rfl ?_
   refine swl_sub _ (sc0 4 rfl .nil) ?_
   refine swl_nn ?_
   refine swp_ret ?_
   exact done_ret [ro μ] (.tmp rfl .nil) ⟨by rw [decide_eq_true (List.ext_getElem? fun j => by
    by_cases hj : j < Ga.length
    ·exact hlo j hj
    ·rw [List.getElem?_eq_none om0, List.getElem?_eq_none om0])]; rfl, rfl⟩ sp0
end SX
namespace SX
open Go Go.Proofs
/-- trees and parents of which a copy may be made -/
def SW.Small (W : SW) : Prop := (∀ x ∈ W.T, x.2.length ≤ 1048576) ∧ ∀ x ∈ W.C, x.2.1.length ≤ 1048576
theorem trees_eq {a b : List (List En)} (hl : a.length = b.length) (h : ∀ j : Nat, j < a.length + 2 → treeAt a ((j : Int) - 1) = treeAt b ((j : Int) - 1)) : a = b := by
  apply List.ext_getElem? 
  intro k
  by_cases hk : k < a.length
  · obtain ⟨x, hx⟩ : ∃ x, a[k]? = some x := ⟨_, List.getElem?_eq_getElem hk⟩
    obtain ⟨y, hy⟩ : ∃ y, b[k]? = some y := ⟨_, List.getElem?_eq_getElem om0⟩
    have := h (k + 1) om0
    rw [show (((k + 1 : Nat) : Int) - 1) = (k : Nat) by omega, treeAt_at hx, treeAt_at hy] at this
    rw [hx, hy, (Prod.mk.inj this).1]
  · rw [List.getElem?_eq_none om0, List.getElem?_eq_none om0]
theorem coms_eq {a b : List Cm} (hl : a.length = b.length) (h : ∀ j : Nat, j < a.length + 2 → comAt a ((j : Int) - 1) = comAt b ((j : Int) - 1)) : a = b := by
  apply List.ext_getElem? 
  intro k
  by_cases hk : k < a.length
  · obtain ⟨x, hx⟩ : ∃ x, a[k]? = some x := ⟨_, List.getElem?_eq_getElem hk⟩
    obtain ⟨y, hy⟩ : ∃ y, b[k]? = some y := ⟨_, List.getElem?_eq_getElem om0⟩
    have := h (k + 1) om0
    rw [show (((k + 1 : Nat) : Int) - 1) = (k : Nat) by omega, comAt_at hx, comAt_at hy] at this
    rw [hx, hy, (Prod.mk.inj this).1]
  · rw [List.getElem?_eq_none om0, List.getElem?_eq_none om0]
def sameW (a b : SW) : Bool := decide (a.pl = b.pl ∧ a.dead = b.dead)
theorem sameW_no {a b : SW} (h : ¬ (a.pl = b.pl ∧ a.dead = b.dead)) : Value.bool (sameW a b) = .bool false := by unfold sameW; rw [decide_eq_false h]
theorem pl_len1 (W : SW) : W.pl.1.length = W.T.length := List.length_map _
theorem pl_len2 (W : SW) : W.pl.2.length = W.C.length := List.length_map _
set_option maxHeartbeats 8000000 in
theorem lsame_spec (μ : PH) (p w : Nat) (Wa Wb : SW) (hA : Wa.Ok μ) (hB : Wb.Ok μ) (sA : Wa.Small) (sB : Wb.Small) : Spec Tryz.prog 18 [pv p, pv w] [stH p Wa, ttA Wa, ccA Wa, rsH w Wb, ttA Wb, ccA Wb, ro μ]
  (fun r L => ∃ μ', Le μ μ' ∧ r = .bool (sameW Wa Wb) ∧ L = [stH p Wa, ttA Wa, ccA Wa, rsH w Wb, ttA Wb, ccA Wb, ro μ']) := by
 have hB0 := hB
 have h1a := pl_len1 Wa
 have h2a := pl_len2 Wa
 have h1b := pl_len1 Wb
 have h2b := pl_len2 Wb
 obtain ⟨⟨A1, c1, e1⟩, ⟨A2, c2, e2⟩, htr, hcr, hT, hC⟩ := hB
 obtain ⟨q, tv, cv, T, C, dead⟩ := Wb
 dsimp only at e1 e2 htr hcr hT hC h1b h2b
 subst e1 e2
 have hTa := hA.tl
 have hCa := hA.cl
 refine Spec.of 110 Tryz.func18 rfl rfl rfl ?_
 refine swp_sr ?_
 refine s_as rfl ?_
 refine swl_sub _ (sc0 0 rfl (sc0 1 rfl .nil)) ?_
 refine swl_nn ?_
 refine swp_seq ?_
 refine swp_seq ?_
 refine swp_draw [5, 14, 24] ([rsH w ⟨q, .slice A1 T.length c1, .slice A2 C.length c2, T, C, dead⟩]) ([stH p Wa, ttA Wa, ccA Wa, ttA ⟨q, .slice A1 T.length c1, .slice A2 C.length c2, T, C, dead⟩, ccA ⟨q, .slice A1 T.length c1, .slice A2 C.length c2, T, C, dead⟩, ro μ]) (Split.ent sp0) kr0 ?_
 refine d_pu 0 rfl (pu_move rfl) kr0 kr0 kr0 ?_
 refine d_pu 2 rfl (pu_move rfl) kr0 kr0 kr0 ?_
 refine d_pu 3 rfl (pu_nilCheck rfl) kr0 kr0 kr0 ?_
 refine d_pu 4 rfl (pu_fieldAddr0 rfl) kr0 kr0 kr0 ?_
 refine d_rd 5 rfl (rd_load rfl rfl) rfl kr0 kr0 kr0 ?_
 refine d_pu 6 rfl (pu_len rfl) kr0 kr0 kr0 ?_
 refine d_eft 1 rfl kr0 (ef_fn (trees_spec p Wa μ hA) rfl rfl sp0) ?_
 rintro v16 L1 ⟨rfl, rfl⟩
 refine ⟨_, ent_appC (Split.ent sp0), ?_⟩
 refine d_pu 7 rfl (pu_neq rfl rfl) kr0 kr0 kr0 ?_
 refine d_pu 8 rfl (pu_move rfl) kr0 kr0 kr0 ?_
 refine d_split 23 rfl (fun h23 => ?_) (fun h23 => ?_)
 ·skip
  have hn : ¬ Wa.T.length = T.length := fun e => by rw [e] at h23; simp at h23
  refine d_off 9 rfl rfl rfl rfl kr0 kr0 kr0 ?_
  refine d_off 10 rfl rfl rfl rfl kr0 kr0 kr0 ?_
  refine d_off 11 rfl rfl rfl rfl kr0 kr0 kr0 ?_
  refine d_off 12 rfl rfl rfl rfl kr0 kr0 kr0 ?_
  refine d_off 13 rfl rfl rfl rfl kr0 kr0 kr0 ?_
  refine d_off 14 rfl rfl rfl rfl kr0 kr0 kr0 ?_
  refine d_off 15 rfl rfl rfl rfl kr0 kr0 kr0 ?_
  refine d_off 16 rfl rfl rfl rfl kr0 kr0 kr0 ?_
  refine d_pu 17 rfl (pu_pick_t rfl rfl) kr0 kr0 kr0 ?_
  refine d_pu 18 rfl (pu_move rfl) kr0 kr0 kr0 ?_
  refine d_split 33 rfl (fun h33 => ?_) (fun h33 => by cases h33)
  refine d_off 19 rfl rfl rfl rfl kr0 kr0 kr0 ?_
  refine d_off 20 rfl rfl rfl rfl kr0 kr0 kr0 ?_
  refine d_off 21 rfl rfl rfl rfl kr0 kr0 kr0 ?_
  refine d_off 22 rfl rfl rfl rfl kr0 kr0 kr0 ?_
  refine d_off 23 rfl rfl rfl rfl kr0 kr0 kr0 ?_
  refine d_off 24 rfl rfl rfl rfl kr0 kr0 kr0 ?_
  refine d_off 25 rfl rfl rfl rfl kr0 kr0 kr0 ?_
  refine d_pu 26 rfl (pu_pick_t rfl rfl) kr0 kr0 kr0 ?_
  refine d_pu 27 rfl (pu_move rfl) kr0 kr0 kr0 ?_
  refine d_split 42 rfl (fun h42 => ?_) (fun h42 => by cases h42)
  refine d_off 28 rfl rfl rfl rfl kr0 kr0 kr0 ?_
  refine d_off 29 rfl rfl rfl rfl kr0 kr0 kr0 ?_
  refine d_off 30 rfl rfl rfl rfl kr0 kr0 kr0 ?_
  refine d_off 31 rfl rfl rfl rfl kr0 kr0 kr0 ?_
  refine d_off 32 rfl rfl rfl rfl kr0 kr0 kr0 ?_
  refine d_off 33 rfl rfl rfl rfl kr0 kr0 kr0 ?_
  refine d_pu 34 rfl (pu_pick_t rfl rfl) kr0 kr0 kr0 ?_
  refine d_sub _ (sc0 0 rfl (sc0 1 rfl (sc0 49 rfl .nil))) ?_
  refine d_nilt kr0 ?_
  refine then_n ?_
  refine swp_cond (b := _) rfl (fun h49 => ?_) (fun h49 => by cases h49)
  refine swp_sr ?_
  refine s_as rfl ?_
  refine swl_sub _ (sc0 4 rfl .nil) ?_
  refine swl_nn ?_
  refine swp_ret ?_
  refine then_r ?_
  exact done_ret [stH p Wa, ttA Wa, ccA Wa, rsH w ⟨q, .slice A1 T.length c1, .slice A2 C.length c2, T, C, dead⟩, ttA ⟨q, .slice A1 T.length c1, .slice A2 C.length c2, T, C, dead⟩, ccA ⟨q, .slice A1 T.length c1, .slice A2 C.length c2, T, C, dead⟩, ro μ] (.tmp rfl .nil) ⟨μ, Le.refl _, (sameW_no fun k => hn (by rw [← h1a, ← h1b, k.1])).symm, rfl⟩ sp0
 ·skip
  have hnT : Wa.T.length = T.length := by
   have : ((Wa.T.length : Nat) : Int) = (T.length : Nat) := by simpa using h23
   omega
  refine d_pu_on 9 rfl rfl rfl (pu_move rfl) kr0 kr0 kr0 ?_
  refine d_pu_on 11 rfl rfl rfl (pu_move rfl) kr0 kr0 kr0 ?_
  refine d_pu_on 12 rfl rfl rfl (pu_nilCheck rfl) kr0 kr0 kr0 ?_
  refine d_pu_on 13 rfl rfl rfl (pu_fieldAddr0 rfl) kr0 kr0 kr0 ?_
  refine d_rd_on 14 rfl rfl rfl (rd_load rfl rfl) rfl kr0 kr0 kr0 ?_
  refine d_pu_on 15 rfl rfl rfl (pu_len rfl) kr0 kr0 kr0 ?_
  refine d_amb [10] kr0 rfl ?_
  refine dA_ef 10 rfl (GOn.some rfl rfl) (ef_fn (coms_spec p Wa μ hA) rfl rfl sp0) ?_
  rintro v25 L1 ⟨rfl, rfl⟩
  refine ⟨_, ent_appC (Split.ent sp0), ?_⟩
  refine d_pu_on 16 rfl rfl rfl (pu_neq rfl rfl) kr0 kr0 kr0 ?_
  refine d_pu 17 rfl (pu_pick_f rfl rfl) kr0 kr0 kr0 ?_
  refine d_pu 18 rfl (pu_move rfl) kr0 kr0 kr0 ?_
  refine d_split 33 rfl (fun h33 => ?_) (fun h33 => ?_)
  ·skip
   have hn : ¬ Wa.C.length = C.length := fun e => by rw [e] at h33; simp at h33
   refine d_off 19 rfl rfl rfl rfl kr0 kr0 kr0 ?_
   refine d_off 20 rfl rfl rfl rfl kr0 kr0 kr0 ?_
   refine d_off 21 rfl rfl rfl rfl kr0 kr0 kr0 ?_
   refine d_off 22 rfl rfl rfl rfl kr0 kr0 kr0 ?_
   refine d_off 23 rfl rfl rfl rfl kr0 kr0 kr0 ?_
   refine d_off 24 rfl rfl rfl rfl kr0 kr0 kr0 ?_
   refine d_off 25 rfl rfl rfl rfl kr0 kr0 kr0 ?_
   refine d_pu 26 rfl (pu_pick_t rfl rfl) kr0 kr0 kr0 ?_
   refine d_pu 27 rfl (pu_move rfl) kr0 kr0 kr0 ?_
   refine d_split 42 rfl (fun h42 => ?_) (fun h42 => by cases h42)
   refine d_off 28 rfl rfl rfl rfl kr0 kr0 kr0 ?_
   refine d_off 29 rfl rfl rfl rfl kr0 kr0 kr0 ?_
   refine d_off 30 rfl rfl rfl rfl kr0 kr0 kr0 ?_
   refine d_off 31 rfl rfl rfl rfl kr0 kr0 kr0 ?_
   refine d_off 32 rfl rfl rfl rfl kr0 kr0 kr0 ?_
   refine d_off 33 rfl rfl rfl rfl kr0 kr0 kr0 ?_
   refine d_pu 34 rfl (pu_pick_t rfl rfl) kr0 kr0 kr0 ?_
   refine d_sub _ (sc0 0 rfl (sc0 1 rfl (sc0 49 rfl .nil))) ?_
   refine d_nilt kr0 ?_
   refine then_n ?_
   refine swp_cond (b := _) rfl (fun h49 => ?_) (fun h49 => by cases h49)
   refine swp_sr ?_
   refine s_as rfl ?_
   refine swl_sub _ (sc0 4 rfl .nil) ?_
   refine swl_nn ?_
   refine swp_ret ?_
   refine then_r ?_
   exact done_ret [stH p Wa, ttA Wa, ccA Wa, rsH w ⟨q, .slice A1 T.length c1, .slice A2 C.length c2, T, C, dead⟩, ttA ⟨q, .slice A1 T.length c1, .slice A2 C.length c2, T, C, dead⟩, ccA ⟨q, .slice A1 T.length c1, .slice A2 C.length c2, T, C, dead⟩, ro μ] (.tmp rfl .nil) ⟨μ, Le.refl _, (sameW_no fun k => hn (by rw [← h2a, ← h2b, k.1])).symm, rfl⟩ sp0
  ·skip
   have hnC : Wa.C.length = C.length := by
    have : ((Wa.C.length : Nat) : Int) = (C.length : Nat) := by simpa using h33
    omega
   refine d_pu_on 19 rfl rfl rfl (pu_move rfl) kr0 kr0 kr0 ?_
   refine d_pu_on 21 rfl rfl rfl (pu_move rfl) kr0 kr0 kr0 ?_
   refine d_pu_on 22 rfl rfl rfl (pu_nilCheck rfl) kr0 kr0 kr0 ?_
   refine d_pu_on 23 rfl rfl rfl (pu_fieldAddr0 rfl) kr0 kr0 kr0 ?_
   refine d_rd_on 24 rfl rfl rfl (rd_load rfl rfl) rfl kr0 kr0 kr0 ?_
   refine d_amb [20] kr0 rfl ?_
   refine dA_ef 20 rfl (GOn.some rfl rfl) (ef_fn (dead_spec p Wa) rfl rfl sp0) ?_
   rintro v35 L1 ⟨rfl, rfl⟩
   refine ⟨_, ent_appC (Split.ent sp0), ?_⟩
   refine d_pu_on 25 rfl rfl rfl (pu_bool_ne rfl rfl) kr0 kr0 kr0 ?_
   refine d_pu 26 rfl (pu_pick_f rfl rfl) kr0 kr0 kr0 ?_
   refine d_pu 27 rfl (pu_move rfl) kr0 kr0 kr0 ?_
   refine d_split 42 rfl (fun h42 => ?_) (fun h42 => ?_)
   ·skip
    have hn : ¬ Wa.dead = dead := fun e => by rw [e] at h42; simp at h42
    refine d_off 28 rfl rfl rfl rfl kr0 kr0 kr0 ?_
    refine d_off 29 rfl rfl rfl rfl kr0 kr0 kr0 ?_
    refine d_off 30 rfl rfl rfl rfl kr0 kr0 kr0 ?_
    refine d_off 31 rfl rfl rfl rfl kr0 kr0 kr0 ?_
    refine d_off 32 rfl rfl rfl rfl kr0 kr0 kr0 ?_
    refine d_off 33 rfl rfl rfl rfl kr0 kr0 kr0 ?_
    refine d_pu 34 rfl (pu_pick_t rfl rfl) kr0 kr0 kr0 ?_
    refine d_sub _ (sc0 0 rfl (sc0 1 rfl (sc0 49 rfl .nil))) ?_
    refine d_nilt kr0 ?_
    refine then_n ?_
    refine swp_cond (b := _) rfl (fun h49 => ?_) (fun h49 => by cases h49)
    refine swp_sr ?_
    refine s_as rfl ?_
    refine swl_sub _ (sc0 4 rfl .nil) ?_
    refine swl_nn ?_
    refine swp_ret ?_
    refine then_r ?_
    exact done_ret [stH p Wa, ttA Wa, ccA Wa, rsH w ⟨q, .slice A1 T.length c1, .slice A2 C.length c2, T, C, dead⟩, ttA ⟨q, .slice A1 T.length c1, .slice A2 C.length c2, T, C, dead⟩, ccA ⟨q, .slice A1 T.length c1, .slice A2 C.length c2, T, C, dead⟩, ro μ] (.tmp rfl .nil) ⟨μ, Le.refl _, (sameW_no fun k => hn k.2).symm, rfl⟩ sp0
   ·skip
    have hnd : Wa.dead = dead := by
     cases ha : Wa.dead <;> cases hb : dead <;> rw [ha, hb] at h42 <;> first | rfl | simp at h42
    refine d_pu_on 28 rfl rfl rfl (pu_move rfl) kr0 kr0 kr0 ?_
    refine d_pu_on 30 rfl rfl rfl (pu_move rfl) kr0 kr0 kr0 ?_
    refine d_amb [29] kr0 rfl ?_
    refine dA_fint 29 rfl (GOn.some rfl rfl) kr0 (ef_fn (graph_spec p Wa μ hA sA.2) rfl rfl sp0) ?_
    rintro v44 L1 ⟨μ1, Ga, l1, hGa, hna, rfl⟩
    refine swd_app ?_
    refine d_amb [31] kr0 rfl ?_
    refine dA_finf 31 rfl (GOn.some rfl rfl) kr0 (ef_fn (rgraph_spec w ⟨q, .slice A1 T.length c1, .slice A2 C.length c2, T, C, dead⟩ μ1 (hB0.le l1) sB.2) rfl rfl sp0) ?_
    rintro v46 L2 ⟨μ2, Gb, l2, hGb, hnb, rfl⟩
    refine swd_app ?_
    refine d_amb [32] kr0 rfl ?_
    refine dA_finf 32 rfl (GOn.some rfl rfl) kr0 (ef_fn (sameg_spec μ2 v44 v46 Ga Gb (hGa.le l2) hGb) rfl rfl sp0) ?_
    rintro v47 L3 ⟨rfl, rfl⟩
    refine swd_app ?_
    refine d_pu_on 33 rfl rfl rfl (pu_not rfl) kr0 kr0 kr0 ?_
    refine d_pu 34 rfl (pu_pick_f rfl rfl) kr0 kr0 kr0 ?_
    refine d_sub _ (sc0 0 rfl (sc0 1 rfl (sc0 49 rfl .nil))) ?_
    refine d_nilf kr0 ?_
    refine then_n ?_
    refine swp_cond (b := _) rfl (fun h49 => ?_) (fun h49 => ?_)
    ·skip
     refine swp_sr ?_
     refine s_as rfl ?_
     refine swl_sub _ (sc0 4 rfl .nil) ?_
     refine swl_nn ?_
     refine swp_ret ?_
     refine then_r ?_
     have hn : ¬ nums Ga = nums Gb := by simpa using h49
     exact done_ret [stH p Wa, ttA Wa, ccA Wa, rsH w ⟨q, .slice A1 T.length c1, .slice A2 C.length c2, T, C, dead⟩, ttA ⟨q, .slice A1 T.length c1, .slice A2 C.length c2, T, C, dead⟩, ccA ⟨q, .slice A1 T.length c1, .slice A2 C.length c2, T, C, dead⟩, ro μ2] (.tmp rfl .nil) ⟨μ2, l1.trans l2, (sameW_no fun k => hn (by rw [hna, hnb, k.1])).symm, rfl⟩ sp0
    ·skip
     refine swp_skip ?_
     refine then_n ?_
     refine swp_seq ?_
     refine swp_sr ?_
     refine s_as rfl ?_
     refine swl_sub _ (sc0 0 rfl (sc0 1 rfl (sc0 5 rfl .nil))) ?_
     refine swl_nn ?_
     refine swp_block ?_
     refine swp_loop (ι := Nat × PH) (fun x env L => Sub env [(0, pv p), (1, pv w), (5, .int .i64 ((x.1 : Int) - 1))] ∧ Ent L [stH p Wa, ttA Wa, ccA Wa, rsH w ⟨q, .slice A1 T.length c1, .slice A2 C.length c2, T, C, dead⟩, ttA ⟨q, .slice A1 T.length c1, .slice A2 C.length c2, T, C, dead⟩, ccA ⟨q, .slice A1 T.length c1, .slice A2 C.length c2, T, C, dead⟩, ro x.2] ∧ Le μ x.2 ∧ x.1 ≤ T.length + 2 ∧ ∀ j : Nat, j < x.1 → treeAt Wa.pl.1 ((j : Int) - 1) = treeAt (SW.pl ⟨q, .slice A1 T.length c1, .slice A2 C.length c2, T, C, dead⟩).1 ((j : Int) - 1)) (fun x => T.length + 2 - x.1) (0, μ2) ⟨⟨rfl, rfl, rfl, trivial⟩, Split.ent' sp0, l1.trans l2, Nat.zero_le _, fun j hj => by omega⟩ ?_
     clear hGa hGb hna hnb l1 l2
     rintro ⟨k, μk⟩ env L ⟨hsub, hE, hle, hk, hlo⟩
     dsimp only at hsub hE hle hk hlo
     refine swp_sub _ hsub ?_
     refine swp_ent hE ?_
     clear hsub hE env L
     dsimp only
     refine swp_seq ?_
     refine swp_sr ?_
     refine s_mv rfl ?_
     refine s_mv rfl ?_
     refine s_pu (pu_nilCheck rfl) ?_
     refine s_pu (pu_fieldAddr0 rfl) ?_
     refine s_rd (rd_load rfl rfl) ?_
     refine s_pu (pu_len rfl) ?_
     refine s_pu (pu_leq rfl rfl) ?_
     refine swl_sub _ (sc0 0 rfl (sc0 1 rfl (sc0 5 rfl (sc0 56 rfl .nil)))) ?_
     refine swl_nn ?_
     refine swp_cond (b := _) rfl (fun h56 => ?_) (fun h56 => ?_)
     ·skip
      have h56' : k < T.length + 2 := by have := of_decide_eq_true h56; omega
      refine swp_skip ?_
      refine then_n ?_
      refine swp_seq ?_
      refine swp_block ?_
      refine swp_sr ?_
      refine s_mv rfl ?_
      refine s_mv rfl ?_
      refine s_ef (ef_fn (tree_spec p Wa μk (hA.le hle) sA.1 ((k : Int) - 1)) rfl rfl sp0) ?_
      rintro v62 L1 ⟨A3, c3, rfl, rfl⟩
      refine swl_app ?_
      refine s_mv rfl ?_
      refine s_pu (pu_extractL rfl) ?_
      refine s_pu (pu_extractL rfl) ?_
      refine s_as rfl ?_
      refine s_as rfl ?_
      refine swl_sub _ (sc0 0 rfl (sc0 1 rfl (sc0 5 rfl (sc0 6 rfl (sc0 7 rfl .nil))))) ?_
      refine swl_nn ?_
      refine swp_sr ?_
      refine s_mv rfl ?_
      refine s_mv rfl ?_
      refine s_ef (ef_fn (rtree_spec w ⟨q, .slice A1 T.length c1, .slice A2 C.length c2, T, C, dead⟩ μk (hB0.le hle) ((k : Int) - 1)) rfl rfl sp0) ?_
      rintro v68 L1 ⟨v8, rfl, hrb, rfl⟩
      refine swl_app ?_
      refine s_mv rfl ?_
      refine s_pu (pu_extractL rfl) ?_
      refine s_pu (pu_extractL rfl) ?_
      refine s_as rfl ?_
      refine s_as rfl ?_
      refine swl_sub _ (sc0 0 rfl (sc0 1 rfl (sc0 5 rfl (sc0 6 rfl (sc0 7 rfl (sc0 8 rfl (sc0 9 rfl .nil))))))) ?_
      refine swl_nn ?_
      refine swp_seq ?_
      generalize hta : treeAt Wa.pl.1 ((k : Int) - 1) = ta at *
      generalize htb : treeAt (SW.pl ⟨q, .slice A1 T.length c1, .slice A2 C.length c2, T, C, dead⟩).1 ((k : Int) - 1) = tb at *
      refine swp_share_own (μ := μk) (v := .slice A3 ta.1.length c3) (e := 47) (n := 2) sp0 fun μ' hl' hra => ?_
      refine swp_region ?_
      refine s_mv rfl ?_
      refine s_mv rfl ?_
      refine s_pu (pu_neq rfl rfl) ?_
      refine s_mv rfl ?_
      refine s_split 74 rfl (fun h74 => ?_) (fun h74 => ?_)
      ·skip
       refine s_off rfl rfl rfl ?_
       refine s_off rfl rfl rfl ?_
       refine s_off rfl rfl rfl ?_
       refine s_off rfl rfl rfl ?_
       refine s_pu (pu_pick_t rfl rfl) ?_
       refine swl_sub _ (sc0 0 rfl (sc0 1 rfl (sc0 5 rfl (sc0 79 rfl .nil)))) ?_
       refine swl_nn ?_
       refine swp_cond (b := _) rfl (fun h79 => ?_) (fun h79 => by cases h79)
       refine swp_sr ?_
       refine s_as rfl ?_
       refine swl_sub _ (sc0 4 rfl .nil) ?_
       refine swl_nn ?_
       refine swp_ret ?_
       refine block_r ?_
       refine then_r ?_
       refine then_r ?_
       refine block_r ?_
       refine then_r ?_
       have hn : ¬ ta.2 = tb.2 := by simpa using h74
       exact done_ret [stH p Wa, ttA Wa, ccA Wa, rsH w ⟨q, .slice A1 T.length c1, .slice A2 C.length c2, T, C, dead⟩, ttA ⟨q, .slice A1 T.length c1, .slice A2 C.length c2, T, C, dead⟩, ccA ⟨q, .slice A1 T.length c1, .slice A2 C.length c2, T, C, dead⟩, ro μ'] (.tmp rfl .nil) ⟨μ', hle.trans hl', (sameW_no fun k => hn (by rw [← hta, ← htb, k.1])).symm, rfl⟩ sp0
      ·skip
       refine s_on rfl rfl ?_
       refine s_mv rfl ?_
       refine s_on rfl rfl ?_
       refine s_mv rfl ?_
       refine s_on rfl rfl ?_
       refine s_ef (ef_fn (same_spec μ' (.slice A3 ta.1.length c3) v8 ta.1 tb.1 hra (hrb.le hl')) rfl rfl sp0) ?_
       rintro v77 L1 ⟨rfl, rfl⟩
       refine swl_app ?_
       refine s_on rfl rfl ?_
       refine s_pu (pu_not rfl) ?_
       refine s_pu (pu_pick_f rfl rfl) ?_
       refine swl_sub _ (sc0 0 rfl (sc0 1 rfl (sc0 5 rfl (sc0 79 rfl .nil)))) ?_
       refine swl_nn ?_
       refine swp_cond (b := _) rfl (fun h79 => ?_) (fun h79 => ?_)
       ·skip
        refine swp_sr ?_
        refine s_as rfl ?_
        refine swl_sub _ (sc0 4 rfl .nil) ?_
        refine swl_nn ?_
        refine swp_ret ?_
        refine block_r ?_
        refine then_r ?_
        refine then_r ?_
        refine block_r ?_
        refine then_r ?_
        have hn : ¬ ta.1 = tb.1 := by simpa using h79
        exact done_ret [stH p Wa, ttA Wa, ccA Wa, rsH w ⟨q, .slice A1 T.length c1, .slice A2 C.length c2, T, C, dead⟩, ttA ⟨q, .slice A1 T.length c1, .slice A2 C.length c2, T, C, dead⟩, ccA ⟨q, .slice A1 T.length c1, .slice A2 C.length c2, T, C, dead⟩, ro μ'] (.tmp rfl .nil) ⟨μ', hle.trans hl', (sameW_no fun k => hn (by rw [← hta, ← htb, k.1])).symm, rfl⟩ sp0
       ·skip
        refine swp_skip ?_
        refine block_n ?_
        refine then_n ?_
        refine swp_region ?_
        refine s_mv rfl ?_
        refine s_pu (pu_add_as (((k + 1 : Nat) : Int) - 1) rfl rfl om0 om0 om0) ?_
        refine s_as rfl ?_
        refine swl_sub _ (sc0 0 rfl (sc0 1 rfl (sc0 5 rfl .nil))) ?_
        refine swl_nil ?_
        have q2 : ta.2 = tb.2 := by simpa using h74
        have q1 : ta.1 = tb.1 := by simpa using h79
        refine then_n ⟨(k + 1, μ'), ⟨⟨rfl, rfl, rfl, trivial⟩, Split.ent' sp0, hle.trans hl', h56', fun j hj => ?_⟩, by show T.length + 2 - (k + 1) < T.length + 2 - k; omega⟩
        by_cases e : j = k
        ·subst e; rw [hta, htb]; exact Prod.ext q1 q2
        ·exact hlo j om0
     ·skip
      have h56' := of_decide_eq_false h56
      obtain rfl : k = T.length + 2 := by omega
      have hpT : Wa.pl.1 = (SW.pl ⟨q, .slice A1 T.length c1, .slice A2 C.length c2, T, C, dead⟩).1 := trees_eq (by rw [h1a, h1b, hnT]) (fun j hj => hlo j (by rw [h1a] at hj; omega))
      clear hlo hk h56 h56'
      refine swp_exit ?_
      refine then_x ?_
      refine then_x ?_
      refine block_hit rfl ?_
      refine then_n ?_
      refine swp_seq ?_
      refine swp_sr ?_
      refine s_as rfl ?_
      refine swl_sub _ (sc0 0 rfl (sc0 1 rfl (sc0 10 rfl .nil))) ?_
      refine swl_nn ?_
      refine swp_block ?_
      refine swp_loop (ι := Nat × PH) (fun x env L => Sub env [(0, pv p), (1, pv w), (10, .int .i64 ((x.1 : Int) - 1))] ∧ Ent L [stH p Wa, ttA Wa, ccA Wa, rsH w ⟨q, .slice A1 T.length c1, .slice A2 C.length c2, T, C, dead⟩, ttA ⟨q, .slice A1 T.length c1, .slice A2 C.length c2, T, C, dead⟩, ccA ⟨q, .slice A1 T.length c1, .slice A2 C.length c2, T, C, dead⟩, ro x.2] ∧ Le μ x.2 ∧ x.1 ≤ C.length + 2 ∧ ∀ j : Nat, j < x.1 → comAt Wa.pl.2 ((j : Int) - 1) = comAt (SW.pl ⟨q, .slice A1 T.length c1, .slice A2 C.length c2, T, C, dead⟩).2 ((j : Int) - 1)) (fun x => C.length + 2 - x.1) (0, μk) ⟨⟨rfl, rfl, rfl, trivial⟩, Split.ent' sp0, hle, Nat.zero_le _, fun j hj => by omega⟩ ?_
      clear hle μk
      rintro ⟨k, μk⟩ env L ⟨hsub, hE, hle, hk, hlo⟩
      dsimp only at hsub hE hle hk hlo
      refine swp_sub _ hsub ?_
      refine swp_ent hE ?_
      clear hsub hE env L
      dsimp only
      refine swp_seq ?_
      refine swp_sr ?_
      refine s_mv rfl ?_
      refine s_mv rfl ?_
      refine s_pu (pu_nilCheck rfl) ?_
      refine s_pu (pu_fieldAddr0 rfl) ?_
      refine s_rd (rd_load rfl rfl) ?_
      refine s_pu (pu_len rfl) ?_
      refine s_pu (pu_leq rfl rfl) ?_
      refine swl_sub _ (sc0 0 rfl (sc0 1 rfl (sc0 10 rfl (sc0 86 rfl .nil)))) ?_
      refine swl_nn ?_
      refine swp_cond (b := _) rfl (fun h86 => ?_) (fun h86 => ?_)
      ·skip
       have h86' : k < C.length + 2 := by have := of_decide_eq_true h86; omega
       refine swp_skip ?_
       refine then_n ?_
       refine swp_seq ?_
       refine swp_block ?_
       refine swp_sr ?_
       refine s_mv rfl ?_
       refine s_mv rfl ?_
       refine s_ef (ef_fn (commit_spec p Wa μk (hA.le hle) sA.2 ((k : Int) - 1)) rfl rfl sp0) ?_
       rintro v92 L1 ⟨A3, c3, rfl, rfl⟩
       refine swl_app ?_
       refine s_mv rfl ?_
       refine s_pu (pu_extractL rfl) ?_
       refine s_pu (pu_extractL rfl) ?_
       refine s_ef (ef_alloc) ?_
       intro b11
       refine s_ef0 (ef_storeA rfl rfl rfl rfl) ?_
       refine s_as rfl ?_
       refine swl_sub _ (sc0 0 rfl (sc0 1 rfl (sc0 10 rfl (sc0 11 rfl (sc0 12 rfl .nil))))) ?_
       refine swl_nn ?_
       refine swp_sr ?_
       refine s_mv rfl ?_
       refine s_mv rfl ?_
       refine s_ef (ef_fn (rcommit_spec w ⟨q, .slice A1 T.length c1, .slice A2 C.length c2, T, C, dead⟩ μk (hB0.le hle) ((k : Int) - 1)) rfl rfl sp0) ?_
       rintro v98 L1 ⟨v8, rfl, hrb, rfl⟩
       obtain ⟨A4, c4, rfl⟩ := hrb.sl
       refine swl_app ?_
       refine s_mv rfl ?_
       refine s_pu (pu_extractL rfl) ?_
       refine s_pu (pu_extractL rfl) ?_
       refine s_ef (ef_alloc) ?_
       intro b13
       refine s_ef0 (ef_storeA rfl rfl rfl rfl) ?_
       refine s_as rfl ?_
       refine swl_sub _ (sc0 0 rfl (sc0 1 rfl (sc0 10 rfl (sc0 11 rfl (sc0 12 rfl (sc0 13 rfl (sc0 14 rfl .nil))))))) ?_
       refine swl_nn ?_
       refine swp_seq ?_
       generalize hta : comAt Wa.pl.2 ((k : Int) - 1) = ta at *
       generalize htb : comAt (SW.pl ⟨q, .slice A1 T.length c1, .slice A2 C.length c2, T, C, dead⟩).2 ((k : Int) - 1) = tb at *
       refine swp_share_own (μ := μk) (v := .slice A3 ta.1.1.length c3) (e := 3) (n := 1) sp0 fun μ' hl' hra => ?_
       refine swp_region ?_
       refine s_mv rfl ?_
       refine s_mv rfl ?_
       refine s_pu (pu_neq rfl rfl) ?_
       refine s_mv rfl ?_
       refine s_split 104 rfl (fun h104 => ?_) (fun h104 => ?_)
       ·skip
        refine s_off rfl rfl rfl ?_
        refine s_off rfl rfl rfl ?_
        refine s_off rfl rfl rfl ?_
        refine s_off rfl rfl rfl ?_
        refine s_pu (pu_pick_t rfl rfl) ?_
        refine swl_sub _ (sc0 0 rfl (sc0 1 rfl (sc0 10 rfl (sc0 109 rfl .nil)))) ?_
        refine swl_nn ?_
        refine swp_cond (b := _) rfl (fun h109 => ?_) (fun h109 => by cases h109)
        refine swp_sr ?_
        refine s_as rfl ?_
        refine swl_sub _ (sc0 4 rfl .nil) ?_
        refine swl_nn ?_
        refine swp_ret ?_
        refine block_r ?_
        refine then_r ?_
        refine then_r ?_
        refine block_r ?_
        refine then_r ?_
        have hn : ¬ ta.2 = tb.2 := by simpa using h104
        exact done_ret [stH p Wa, ttA Wa, ccA Wa, rsH w ⟨q, .slice A1 T.length c1, .slice A2 C.length c2, T, C, dead⟩, ttA ⟨q, .slice A1 T.length c1, .slice A2 C.length c2, T, C, dead⟩, ccA ⟨q, .slice A1 T.length c1, .slice A2 C.length c2, T, C, dead⟩, ro μ'] (.tmp rfl .nil) ⟨μ', hle.trans hl', (sameW_no fun k => hn (by rw [← hta, ← htb, k.1])).symm, rfl⟩ sp0
       ·skip
        refine s_on rfl rfl ?_
        refine s_rd (rd_loadW rfl rfl) ?_
        refine s_on rfl rfl ?_
        refine s_rd (rd_loadW rfl rfl) ?_
        refine s_on rfl rfl ?_
        refine s_ef (ef_fn (samec_spec μ' (.slice A3 ta.1.1.length c3) (.slice A4 tb.1.1.length c4) ta.1 tb.1 hra (hrb.le hl')) rfl rfl sp0) ?_
        rintro v107 L1 ⟨rfl, rfl⟩
        refine swl_app ?_
        refine s_on rfl rfl ?_
        refine s_pu (pu_not rfl) ?_
        refine s_pu (pu_pick_f rfl rfl) ?_
        refine swl_sub _ (sc0 0 rfl (sc0 1 rfl (sc0 10 rfl (sc0 109 rfl .nil)))) ?_
        refine swl_nn ?_
        refine swp_cond (b := _) rfl (fun h109 => ?_) (fun h109 => ?_)
        ·skip
         refine swp_sr ?_
         refine s_as rfl ?_
         refine swl_sub _ (sc0 4 rfl .nil) ?_
         refine swl_nn ?_
         refine swp_ret ?_
         refine block_r ?_
         refine then_r ?_
         refine then_r ?_
         refine block_r ?_
         refine then_r ?_
         have hn : ¬ ta.1 = tb.1 := by simpa using h109
         exact done_ret [stH p Wa, ttA Wa, ccA Wa, rsH w ⟨q, .slice A1 T.length c1, .slice A2 C.length c2, T, C, dead⟩, ttA ⟨q, .slice A1 T.length c1, .slice A2 C.length c2, T, C, dead⟩, ccA ⟨q, .slice A1 T.length c1, .slice A2 C.length c2, T, C, dead⟩, ro μ'] (.tmp rfl .nil) ⟨μ', hle.trans hl', (sameW_no fun k => hn (by rw [← hta, ← htb, k.1])).symm, rfl⟩ sp0
        ·skip
         refine swp_skip ?_
         refine block_n ?_
         refine then_n ?_
         refine swp_region ?_
         refine s_mv rfl ?_
         refine s_pu (pu_add_as (((k + 1 : Nat) : Int) - 1) rfl rfl om0 om0 om0) ?_
         refine s_as rfl ?_
         refine swl_sub _ (sc0 0 rfl (sc0 1 rfl (sc0 10 rfl .nil))) ?_
         refine swl_nil ?_
         have q2 : ta.2 = tb.2 := by simpa using h104
         have q1 : ta.1 = tb.1 := by simpa using h109
         refine then_n ⟨(k + 1, μ'), ⟨⟨rfl, rfl, rfl, trivial⟩, Split.ent' sp0, hle.trans hl', h86', fun j hj => ?_⟩, by show C.length + 2 - (k + 1) < C.length + 2 - k; omega⟩
         by_cases e : j = k
         ·subst e; rw [hta, htb]; exact Prod.ext q1 q2
         ·exact hlo j om0
      ·skip
       have h86' := of_decide_eq_false h86
       obtain rfl : k = C.length + 2 := by omega
       have hpC : Wa.pl.2 = (SW.pl ⟨q, .slice A1 T.length c1, .slice A2 C.length c2, T, C, dead⟩).2 := coms_eq (by rw [h2a, h2b, hnC]) (fun j hj => hlo j (by rw [h2a] at hj; omega))
       refine swp_exit ?_
       refine then_x ?_
       refine then_x ?_
       refine block_hit rfl ?_
       refine then_n ?_
       refine swp_sr ?_
       refine s_as rfl ?_
       refine swl_sub _ (sc0 4 rfl .nil) ?_
       refine swl_nn ?_
       refine swp_ret ?_
       have hy : sameW Wa ⟨q, .slice A1 T.length c1, .slice A2 C.length c2, T, C, dead⟩ = true := by unfold sameW; exact decide_eq_true ⟨Prod.ext hpT hpC, hnd⟩
       exact done_ret [stH p Wa, ttA Wa, ccA Wa, rsH w ⟨q, .slice A1 T.length c1, .slice A2 C.length c2, T, C, dead⟩, ttA ⟨q, .slice A1 T.length c1, .slice A2 C.length c2, T, C, dead⟩, ccA ⟨q, .slice A1 T.length c1, .slice A2 C.length c2, T, C, dead⟩, ro μk] (.tmp rfl .nil) ⟨μk, hle, congrArg Value.bool hy.symm, rfl⟩ sp0
end SX
namespace SX
open Go Go.Proofs
/-- a disk with a log alone -/
abbrev lg (q : Int) (B : List UInt8) : Dk := one1 q logN ⟨B, B.length⟩ 0 false
theorem lg_write {q : Int} {B : List UInt8} {f : Fm} (h : (B.length : Int) + ((f.2.length + 9 : Nat) : Int) ≤ q) : writeD (lg q B) f = (lg q (B ++ encFm f), 0) := by
  have e : appendD (lg q B) logN (encFm f) = (one1 q logN ⟨B ++ encFm f, B.length⟩ 0 false, 0) := by
    rw [one_append (by show (B.length : Int) + (encFm f).length ≤ q; rw [encFm_len]; exact h)]; rfl
  unfold writeD
  rw [e, if_neg (fun k => k rfl)]
  rw [one_sync]
theorem lg_open (q : Int) : openD (newD q) = (lg q [], 0) := by
  have e1 : readD (newD q) logN = ([], 6) := rfl
  have e2 : createD (newD q) logN = (⟨q, [⟨[], 0⟩], [(logN, 0)], [], [⟨nos, logN, 0⟩], 0, false⟩, 0) := by kernel_rfl
  have e3 : freshD (newD q) = (lg q [], 0) := by
    unfold freshD
    rw [e2, if_neg (fun k => k rfl)]
    rfl
  unfold openD
  rw [e1, if_pos rfl]
  exact e3
theorem lg_openS (q : Int) : openS (newD q) = ([], []) := by
  have e1 : readD (newD q) logN = ([], 6) := rfl
  unfold openS
  rw [e1]
  rfl
theorem lg_addT {q : Int} {B : List UInt8} {s : St2} {t : List En} (h0 : encErr t = 0) (hn : s.1.length < 65536) (h : (B.length : Int) + (((encT t).length + 9 : Nat) : Int) ≤ q) :
    addT ⟨lg q B, s, false⟩ t = ((⟨lg q (B ++ encFm (1, encT t)), (s.1 ++ [t], s.2), false⟩ : PSt), ((s.1.length : Nat) : Int), (0 : Int)) := by
  have hw := lg_write (f := (1, encT t)) h
  unfold addT
  rw [addR_ok (x := ⟨lg q B, s, false⟩) rfl h0 hn (by rw [hw])]
  rw [hw]
theorem lg_addC {q : Int} {B : List UInt8} {s : St2} {c : Cm} (h0 : checkC c = 0) (h1 : knownS s.1.length s.2.length c = true) (hn : s.2.length < 65536) (h : (B.length : Int) + (((encC' c).length + 9 : Nat) : Int) ≤ q) :
    addC ⟨lg q B, s, false⟩ c = ((⟨lg q (B ++ encFm (2, encC' c)), (s.1, s.2 ++ [c]), false⟩ : PSt), ((s.2.length : Nat) : Int), (0 : Int)) := by
  have hw := lg_write (f := (2, encC' c)) h
  unfold addC
  rw [addR_ok (x := ⟨lg q B, s, false⟩) rfl (by rw [if_neg (not_not_intro h0), if_neg (by rw [h1]; decide)]) hn (by rw [hw])]
  rw [hw]
theorem settle_ok {d : Dk} (hd : d.Ok) (n len : Nat) : (settleD d n len).1.Ok := by
  rw [settle_two]
  split
  · exact settle2_ok hd n len
  · exact syncNamesD_ok (settle2_ok hd n len)
theorem fresh_ok {d : Dk} (hd : d.Ok) : (freshD d).1.Ok := by
  unfold freshD
  split
  · exact createD_ok hd _
  · exact syncNamesD_ok (createD_ok hd _)
theorem open_ok {d : Dk} (hd : d.Ok) : (openD d).1.Ok := by
  unfold openD
  split
  · exact fresh_ok hd
  · split
    · exact hd
    · exact settle_ok hd _ _
theorem addR_okD {x : PSt} {e0 : Int} {n : Nat} {f : Fm} {s' : St2} (h : x.d.Ok) : (addR x e0 n f s').1.d.Ok := by
  unfold addR
  repeat' split
  · exact h
  · exact h
  · exact h
  · exact writeD_ok h f
  · exact writeD_ok h f
theorem addT_ok {x : PSt} (h : x.d.Ok) (t : List En) : (addT x t).1.d.Ok := addR_okD h
theorem addC_ok {x : PSt} (h : x.d.Ok) (c : Cm) : (addC x c).1.d.Ok := addR_okD h
abbrev ta1 : List En := [(⟨#[97]⟩, 1)]
theorem ta1_err : encErr ta1 = 0 := by decide
theorem ta1_len : (encT ta1).length ≤ 300 := by
  have := encEs_len [] ta1 (fun e he => (check_paths (t := ta1) (by decide) e he).1)
  unfold encT
  rw [List.length_append, numB_len]
  have h1 : ta1.length = 1 := rfl
  omega
theorem encC_fit (c : Cm) (h : c.1.length ≤ 1) : (encC' c).length ≤ 9 := by
  unfold encC'
  simp only [List.length_append, numB_len, encPs_len]
  omega
theorem u32_ta1 : U32s ta1 := fun e he => by
  obtain rfl : e = (⟨#[97]⟩, 1) := by simpa using he
  exact ⟨by decide, by decide⟩
set_option maxHeartbeats 8000000 in
theorem opens_spec : Spec Tryz.prog 7 [] [] (fun r L => r = .bool true ∧ L = []) := by
 have hn0 : (newD 1000).Ok := newD_ok (by decide)
 have ho0 : (lg 1000 []).Ok := by have := open_ok hn0; rwa [lg_open] at this
 have hl1 := ta1_len
 have a1 := lg_addT (q := 1000) (B := []) (s := ([], [])) ta1_err (by decide) (by have := ta1_len; show (0 : Int) + _ ≤ 1000; omega)
 have b1 := encFm_len (1, encT ta1)
 generalize hB1 : ([] : List UInt8) ++ encFm (1, encT ta1) = B1 at a1
 have b1' : B1.length ≤ 309 := by rw [← hB1, List.nil_append, b1]; show (encT ta1).length + 9 ≤ 309; omega
 have ho1 : (lg 1000 B1).Ok := by have := addT_ok (x := ⟨lg 1000 [], ([], []), false⟩) ho0 ta1; rwa [a1] at this
 have a2 := lg_addC (q := 1000) (B := B1) (s := ([ta1], [])) (c := ([], 0)) (by decide) (by decide) (by decide) (by have := encC_fit ([], 0) (by decide); omega)
 generalize hB2 : B1 ++ encFm (2, encC' ([], 0)) = B2 at a2
 have b2' : B2.length ≤ 327 := by rw [← hB2, List.length_append, encFm_len]; have := encC_fit ([], 0) (by decide); show B1.length + ((encC' ([], 0)).length + 9) ≤ 327; omega
 have ho2 : (lg 1000 B2).Ok := by have := addC_ok (x := ⟨lg 1000 B1, ([ta1], []), false⟩) ho1 ([], 0); rwa [a2] at this
 have a3 := lg_addC (q := 1000) (B := B2) (s := ([ta1], [([], 0)])) (c := ([0], 0)) (by decide) (by decide) (by decide) (by have := encC_fit ([0], 0) (by decide); omega)
 generalize hB3 : B2 ++ encFm (2, encC' ([0], 0)) = B3 at a3
 have ho3 : (lg 1000 B3).Ok := by have := addC_ok (x := ⟨lg 1000 B2, ([ta1], [([], 0)]), false⟩) ho2 ([0], 0); rwa [a3] at this
 have a4 : addC ⟨lg 1000 B3, ([ta1], [([], 0), ([0], 0)]), false⟩ ([2], 0) = ((⟨lg 1000 B3, ([ta1], [([], 0), ([0], 0)]), false⟩ : PSt), (0 : Int), (9 : Int)) := by
  unfold addC
  exact addR_err rfl (by show (if checkC (([2], 0) : Cm) ≠ 0 then checkC (([2], 0) : Cm) else if knownS 1 2 (([2], 0) : Cm) = false then 9 else 0) ≠ 0; decide)
 refine Spec.of 90 Tryz.func7 rfl rfl rfl ?_
 refine swp_ent ent_roZ ?_
 generalize (fun _ => none : PH) = μ
 refine swp_sr ?_
 refine s_as rfl ?_
 refine swl_sub _ .nil ?_
 refine swl_nn ?_
 refine swp_sr ?_
 refine s_ef (ef_fn (new_spec 1000) rfl rfl sp0) ?_
 rintro v13 L1 hnw
 obtain ⟨q, rfl, rfl⟩ : ∃ q, v13 = .tuple #[pv q, .int .i64 0] ∧ L1 = [FSA q (newD 1000)] := by
  rcases hnw with ⟨h, _⟩ | ⟨_, q, h1, h2⟩
  ·exact absurd (show newOk 1000 from ⟨by decide, by decide⟩) h
  ·exact ⟨q, h1, h2⟩
 refine swl_app ?_
 refine s_mv rfl ?_
 refine s_pu (pu_extractL rfl) ?_
 refine s_pu (pu_extractL rfl) ?_
 refine s_as rfl ?_
 refine s_as rfl ?_
 refine swl_sub _ (sc0 1 rfl .nil) ?_
 refine swl_nn ?_
 refine swp_sr ?_
 refine s_mv rfl ?_
 refine s_ef (ef_fn (open_spec μ q (newD 1000) hn0 ⟨by decide, by decide⟩) rfl rfl sp0) ?_
 rintro v18 L1 ⟨p, W0, μ0, e, hq, rfl, rfl⟩
 obtain ⟨l0, hW0, hq0, hd0, he, hpl⟩ := hq
 rw [lg_open] at he
 have he' : e = 0 := he
 subst he'
 have hpl0 : W0.pl = ([], []) := by rw [hpl rfl, lg_openS]
 rw [if_pos rfl, lg_open, ← hq0]
 refine swl_app ?_
 refine s_mv rfl ?_
 refine s_pu (pu_extractL rfl) ?_
 refine s_pu (pu_extractL rfl) ?_
 refine s_as rfl ?_
 refine s_as rfl ?_
 refine swl_sub _ (sc0 3 rfl (sc0 4 rfl .nil)) ?_
 refine swl_nn ?_
 refine swp_seq ?_
 refine swp_sr ?_
 refine s_mv rfl ?_
 refine s_pu (pu_ptr_eq_nil rfl rfl) ?_
 refine s_mv rfl ?_
 refine s_split 23 rfl (fun h23 => by cases h23) (fun h23 => ?_)
 refine s_on rfl rfl ?_
 refine s_mv rfl ?_
 refine s_on rfl rfl ?_
 refine s_pu (pu_neq rfl rfl) ?_
 refine s_pu (pu_pick_f rfl rfl) ?_
 refine swl_sub _ (sc0 3 rfl (sc0 26 rfl .nil)) ?_
 refine swl_nn ?_
 refine swp_cond (b := _) rfl (fun h26 => by cases h26) (fun h26 => ?_)
 refine swp_skip ?_
 refine then_n ?_
 refine swp_sr ?_
 refine s_mv rfl ?_
 refine s_pu (pu_bld (qs := [(0, _), (1, _)]) rfl) ?_
 refine s_ef (ef_bldS (qs := [(0, _)]) rfl rfl rfl) ?_
 intro b30
 refine swl_share (b := b30) (μ := μ0) sp0 fun μ1 l1 k1 => ?_
 have r1 := row_of_blk (n := 2) (l := 1) (cs := ens ta1) k1 (by rfl) (by decide)
 refine s_ef (ef_fn (addtree_spec μ1 p W0 (hW0.le l1) (lg 1000 []) ho0 (.slice (some ⟨b30, 0, none⟩) 1 1) ta1 r1 u32_ta1) rfl rfl sp0) ?_
 rintro v31 L1 ⟨W1, μ2, hq1, rfl⟩
 rw [hpl0, hd0, a1] at hq1
 rw [hpl0, hd0, a1]
 obtain ⟨l2, hW1, hqq1, hp1, hd1, rfl⟩ := hq1
 refine swl_app ?_
 replace hp1 : W1.pl = (([ta1], []) : St2) := hp1
 replace hd1 : W1.dead = false := hd1
 refine s_mv rfl ?_
 refine s_pu (pu_extractL rfl) ?_
 refine s_pu (pu_extractL rfl) ?_
 refine s_as rfl ?_
 refine s_as rfl ?_
 refine swl_sub _ (sc0 3 rfl (sc0 4 rfl (sc0 5 rfl .nil))) ?_
 refine swl_nn ?_
 refine swp_sr ?_
 refine s_mv rfl ?_
 refine s_pu (pu_bld (qs := []) rfl) ?_
 refine s_ef (ef_fn (addcommit_spec μ2 p W1 hW1 (lg 1000 B1) ho1 (.slice none 0 0) ([], 0) (Row.nil _ _)) rfl rfl sp0) ?_
 rintro v37 L1 ⟨W2, μ3, hq2, rfl⟩
 rw [hp1, hd1, a2] at hq2
 rw [hp1, hd1, a2]
 obtain ⟨l3, hW2, hqq2, hp2, hd2, rfl⟩ := hq2
 refine swl_app ?_
 replace hp2 : W2.pl = (([ta1], [([], 0)]) : St2) := hp2
 replace hd2 : W2.dead = false := hd2
 refine s_mv rfl ?_
 refine s_pu (pu_extractL rfl) ?_
 refine s_pu (pu_extractL rfl) ?_
 refine s_as rfl ?_
 refine s_as rfl ?_
 refine swl_sub _ (sc0 3 rfl (sc0 4 rfl (sc0 5 rfl (sc0 6 rfl (sc0 7 rfl .nil))))) ?_
 refine swl_nn ?_
 refine swp_sr ?_
 refine s_mv rfl ?_
 refine s_ef (ef_bldS (qs := [(0, _)]) rfl rfl rfl) ?_
 intro b42
 refine s_pu (pu_bld (qs := [(0, _)]) rfl) ?_
 refine swl_share (b := b42) (μ := μ3) sp0 fun μ4 l4 k4 => ?_
 have r4 := row_of_blk (n := 1) (l := 1) (cs := ([0] : List Int).flatMap (icsk .i64)) k4 (by rfl) (by decide)
 refine s_ef (ef_fn (addcommit_spec μ4 p W2 (hW2.le l4) (lg 1000 B2) ho2 (.slice (some ⟨b42, 0, none⟩) 1 1) ([0], 0) r4) rfl rfl sp0) ?_
 rintro v44 L1 ⟨W3, μ5, hq3, rfl⟩
 rw [hp2, hd2, a3] at hq3
 rw [hp2, hd2, a3]
 obtain ⟨l5, hW3, hqq3, hp3, hd3, rfl⟩ := hq3
 refine swl_app ?_
 replace hp3 : W3.pl = (([ta1], [([], 0), ([0], 0)]) : St2) := hp3
 replace hd3 : W3.dead = false := hd3
 refine s_mv rfl ?_
 refine s_pu (pu_extractL rfl) ?_
 refine s_pu (pu_extractL rfl) ?_
 refine s_as rfl ?_
 refine s_as rfl ?_
 refine swl_sub _ (sc0 3 rfl (sc0 4 rfl (sc0 5 rfl (sc0 6 rfl (sc0 7 rfl (sc0 8 rfl (sc0 9 rfl .nil))))))) ?_
 refine swl_nn ?_
 refine swp_sr ?_
 refine s_mv rfl ?_
 refine s_ef (ef_bldS (qs := [(0, _)]) rfl rfl rfl) ?_
 intro b49
 refine s_pu (pu_bld (qs := [(0, _)]) rfl) ?_
 refine swl_share (b := b49) (μ := μ5) sp0 fun μ6 l6 k6 => ?_
 have r6 := row_of_blk (n := 1) (l := 1) (cs := ([2] : List Int).flatMap (icsk .i64)) k6 (by rfl) (by decide)
 refine s_ef (ef_fn (addcommit_spec μ6 p W3 (hW3.le l6) (lg 1000 B3) ho3 (.slice (some ⟨b49, 0, none⟩) 1 1) ([2], 0) r6) rfl rfl sp0) ?_
 rintro v51 L1 ⟨W4, μ7, hq4, rfl⟩
 rw [hp3, hd3] at hq4
 rw [a4] at hq4
 obtain ⟨l7, hW4, hqq4, hp4, hd4, rfl⟩ := hq4
 refine swl_app ?_
 replace hp4 : W4.pl = (([ta1], [([], 0), ([0], 0)]) : St2) := hp4
 have hC4 : W4.C.length = 2 := by rw [← pl_len2, hp4]; rfl
 have hT4 : W4.T.length = 1 := by rw [← pl_len1, hp4]; rfl
 refine s_mv rfl ?_
 refine s_pu (pu_extractL rfl) ?_
 refine s_pu (pu_extractL rfl) ?_
 refine s_as rfl ?_
 refine s_as rfl ?_
 refine swl_sub _ (sc0 3 rfl (sc0 4 rfl (sc0 5 rfl (sc0 6 rfl (sc0 7 rfl (sc0 8 rfl (sc0 9 rfl (sc0 11 rfl .nil)))))))) ?_
 refine swl_nn ?_
 refine swp_sr ?_
 refine s_mv rfl ?_
 refine s_pu (pu_eql rfl rfl) ?_
 refine s_mv rfl ?_
 refine s_split 56 rfl (fun h56 => ?_) (fun h56 => by cases h56)
 refine s_on rfl rfl ?_
 refine s_mv rfl ?_
 refine s_on rfl rfl ?_
 refine s_pu (pu_eql rfl rfl) ?_
 refine s_pu (pu_pick_t rfl rfl) ?_
 refine s_mv rfl ?_
 refine s_split 60 rfl (fun h60 => ?_) (fun h60 => by cases h60)
 refine s_on rfl rfl ?_
 refine s_mv rfl ?_
 refine s_on rfl rfl ?_
 refine s_pu (pu_eql rfl rfl) ?_
 refine s_pu (pu_pick_t rfl rfl) ?_
 refine s_mv rfl ?_
 refine s_split 64 rfl (fun h64 => ?_) (fun h64 => by cases h64)
 refine s_on rfl rfl ?_
 refine s_mv rfl ?_
 refine s_on rfl rfl ?_
 refine s_pu (pu_eql rfl rfl) ?_
 refine s_pu (pu_pick_t rfl rfl) ?_
 refine s_mv rfl ?_
 refine s_split 68 rfl (fun h68 => ?_) (fun h68 => by cases h68)
 refine s_on rfl rfl ?_
 refine s_mv rfl ?_
 refine s_on rfl rfl ?_
 refine s_pu (pu_eql rfl rfl) ?_
 refine s_pu (pu_pick_t rfl rfl) ?_
 refine s_mv rfl ?_
 refine s_split 72 rfl (fun h72 => ?_) (fun h72 => by cases h72)
 refine s_on rfl rfl ?_
 refine s_mv rfl ?_
 refine s_on rfl rfl ?_
 refine s_pu (pu_eql rfl rfl) ?_
 refine s_pu (pu_pick_t rfl rfl) ?_
 refine s_mv rfl ?_
 refine s_split 76 rfl (fun h76 => ?_) (fun h76 => by cases h76)
 refine s_on rfl rfl ?_
 refine s_mv rfl ?_
 refine s_on rfl rfl ?_
 refine s_pu (pu_eql rfl rfl) ?_
 refine s_pu (pu_pick_t rfl rfl) ?_
 refine s_mv rfl ?_
 refine s_split 80 rfl (fun h80 => ?_) (fun h80 => by cases h80)
 refine s_on rfl rfl ?_
 refine s_mv rfl ?_
 refine s_on rfl rfl ?_
 refine s_ef (ef_fn (coms_spec p W4 μ7 hW4) rfl rfl sp0) ?_
 rintro v82 L1 ⟨rfl, rfl⟩
 refine swl_app ?_
 refine s_on rfl rfl ?_
 refine s_pu (pu_eql rfl rfl) ?_
 refine s_pu (pu_pick_t rfl rfl) ?_
 refine s_mv rfl ?_
 refine s_split 85 rfl (fun h85 => ?_) (fun h85 => by rw [hC4] at h85; cases h85)
 refine s_on rfl rfl ?_
 refine s_mv rfl ?_
 refine s_on rfl rfl ?_
 refine s_ef (ef_fn (trees_spec p W4 μ7 hW4) rfl rfl sp0) ?_
 rintro v87 L1 ⟨rfl, rfl⟩
 refine swl_app ?_
 refine s_on rfl rfl ?_
 refine s_pu (pu_eql rfl rfl) ?_
 refine s_pu (pu_pick_t rfl rfl) ?_
 refine s_as rfl ?_
 refine swl_sub _ (sc0 0 rfl .nil) ?_
 refine swl_nn ?_
 refine swp_ret ?_
 exact done_ret [] (.tmp rfl .nil) ⟨by rw [hT4]; rfl, rfl⟩ sp0
end SX
namespace SX
open Go Go.Proofs
end SX
namespace SX
open Go Go.Proofs
end SX
namespace SX
open Go Go.Proofs
end SX
namespace SX
open Go Go.Proofs
abbrev sf : ByteArray := ⟨#[102]⟩
end SX
namespace SX
open Go Go.Proofs
theorem Within.few {m : Nat} {d : Dk} (h : Within m d) (k : m ≤ 1000000) : Few d := h.mono k
end SX
namespace SX
open Go Go.Proofs
end SX
namespace SX
open Go Go.Proofs
end SX
namespace SX
open Go Go.Proofs
/-- both stores -/
abbrev Two : Type := Nat × SW × Nat × SW
/-- both stores have this -/
def TwoOk (μ : PH) (pd pr : Nat) (s : St2) (dead : Bool) (x : Two) : Prop := x.2.1.Ok μ ∧ x.2.2.2.Ok μ ∧ x.2.1.q = pd ∧ x.2.2.2.q = pr ∧ x.2.1.pl = s ∧ x.2.2.2.pl = s ∧ x.2.1.dead = dead ∧ x.2.2.2.dead = dead
end SX
namespace SX
open Go Go.Proofs
def SmallS (s : St2) : Prop := (∀ t ∈ s.1, t.length ≤ 1048576) ∧ ∀ c ∈ s.2, c.1.length ≤ 1048576
theorem SmallS.w {W : SW} (h : SmallS W.pl) : W.Small := ⟨fun x hx => h.1 x.2 (List.mem_map.2 ⟨x, hx, rfl⟩), fun x hx => h.2 x.2 (List.mem_map.2 ⟨x, hx, rfl⟩)⟩
def OptOk (μ : PH) (pd pr : Nat) (o : Option (St2 × Bool)) (t : Option Two) : Prop := match o, t with
  | none, none => True
  | some y, some x => TwoOk μ pd pr y.1 y.2 x ∧ SmallS y.1
  | _, _ => False
theorem TwoOk.le {μ μ' : PH} {pd pr : Nat} {s : St2} {dead : Bool} {x : Two} (h : TwoOk μ pd pr s dead x) (k : Le μ μ') : TwoOk μ' pd pr s dead x := ⟨h.1.le k, h.2.1.le k, h.2.2⟩
theorem OptOk.le {μ μ' : PH} {pd pr : Nat} {o : Option (St2 × Bool)} {t : Option Two} (h : OptOk μ pd pr o t) (k : Le μ μ') : OptOk μ' pd pr o t := by
  cases o with
  | none => cases t with
    | none => trivial
    | some x => exact h
  | some y => cases t with
    | none => exact h
    | some x => exact ⟨h.1.le k, h.2⟩
end SX
namespace SX
open Go Go.Proofs
theorem SmallS.addT {s : St2} (h : SmallS s) {t : List En} (ht : t.length ≤ 1048576) : SmallS (s.1 ++ [t], s.2) := ⟨fun x hx => by
  rcases List.mem_append.1 hx with hx | hx
  · exact h.1 x hx
  · obtain rfl : x = t := by simpa using hx
    exact ht, h.2⟩
theorem SmallS.addC {s : St2} (h : SmallS s) {c : Cm} (hc : c.1.length ≤ 1048576) : SmallS (s.1, s.2 ++ [c]) := ⟨h.1, fun x hx => by
  rcases List.mem_append.1 hx with hx | hx
  · exact h.2 x hx
  · obtain rfl : x = c := by simpa using hx
    exact hc⟩
end SX
namespace SX
open Go Go.Proofs
end SX
namespace SX
open Go Go.Proofs
theorem rnewd_spec (q : Int) : Spec Tryz.prog 10 [.int .i64 q] [] (fun r L => (¬ newOk q ∧ r = .tuple #[.pointer none, .int .i64 1] ∧ L = []) ∨ (newOk q ∧ ∃ p, r = .tuple #[pv p, .int .i64 0] ∧ L = [RDA p (newD q)])) := rnew_spec q
end SX
namespace SX
open Go Go.Proofs
end SX

namespace SX
open Go Go.Proofs
/-- what a call that adds leaves, where the new row is not yet among those that are read -/
def AddX (W : SW) (y : PSt × Int × Int) (r : Value) (W' : SW) (m : Nat) (nv : Value) (n : Nat) (xs : List Value) : Prop := (∀ ν : PH, W.Ok ν → Row ν nv m n xs → W'.Ok ν) ∧ W'.q = W.q ∧ W'.pl = y.1.s ∧ W'.dead = y.1.dead ∧ r = .tuple #[.int .i64 y.2.1, .int .i64 y.2.2]
set_option maxHeartbeats 4000000 in
theorem addtreeX_spec (μ : PH) (p : Nat) (W : SW) (hW : W.Ok μ) (d : Dk) (hd : d.Ok) (v : Value) (t : List En) (hv : Row μ v 2 t.length (ens t)) (hu : U32s t) : Spec Tryz.prog 12 [pv p, v] [FSA W.q d, stH p W, ttA W, ccA W, ro μ]
  (fun r L => ∃ W' n xs nv, AddX W (addT ⟨d, W.pl, W.dead⟩ t) r W' 2 nv n xs ∧ L = [own 47 2 nv n xs, FSA W'.q (addT ⟨d, W.pl, W.dead⟩ t).1.d, stH p W', ttA W', ccA W', ro μ]) := by
 have hW0 := hW
 obtain ⟨⟨A1, c1, e1⟩, ⟨A2, c2, e2⟩, _, _, hT, hC⟩ := hW
 obtain ⟨q, tv, cv, T, C, dead⟩ := W
 dsimp only at e1 e2 hT hC
 subst e1 e2
 have hlen : (SW.pl ⟨q, .slice A1 T.length c1, .slice A2 C.length c2, T, C, dead⟩).1.length = T.length := List.length_map _
 generalize hy : addT ⟨d, SW.pl ⟨q, .slice A1 T.length c1, .slice A2 C.length c2, T, C, dead⟩, dead⟩ t = y
 refine Spec.of 54 Tryz.func12 rfl rfl rfl ?_
 refine swp_sr ?_
 refine s_as rfl ?_
 refine s_as rfl ?_
 refine swl_sub _ (sc0 0 rfl (sc0 1 rfl .nil)) ?_
 refine swl_nn ?_
 refine swp_seq ?_
 refine swp_sr ?_
 refine s_mv rfl ?_
 refine s_ef (ef_fn (live_spec p ⟨q, .slice A1 T.length c1, .slice A2 C.length c2, T, C, dead⟩) rfl rfl sp0) ?_
 rintro v10 L1 ⟨rfl, rfl⟩
 refine swl_app ?_
 refine s_as rfl ?_
 refine swl_sub _ (sc0 0 rfl (sc0 1 rfl (sc0 6 rfl .nil))) ?_
 refine swl_nn ?_
 refine swp_sr ?_
 refine s_mv rfl ?_
 refine s_pu (pu_neq rfl rfl) ?_
 refine swl_sub _ (sc0 0 rfl (sc0 1 rfl (sc0 6 rfl (sc0 12 rfl .nil)))) ?_
 refine swl_nn ?_
 refine swp_cond (b := _) rfl (fun h12 => ?_) (fun h12 => ?_)
 ·skip
  refine swp_sr ?_
  refine s_mv rfl ?_
  refine s_as rfl ?_
  refine s_as rfl ?_
  refine swl_sub _ (sc0 4 rfl (sc0 5 rfl .nil)) ?_
  refine swl_nn ?_
  refine swp_ret ?_
  refine then_r ?_
  have hdd : dead = true := by
   cases dead with
   | true => rfl
   | false => simp at h12
  have ha : (⟨d, SW.pl ⟨q, .slice A1 T.length c1, .slice A2 C.length c2, T, C, dead⟩, dead⟩, 0, 8) = y := by rw [← hy]; exact (addR_dead (x := ⟨d, SW.pl ⟨q, .slice A1 T.length c1, .slice A2 C.length c2, T, C, dead⟩, dead⟩) hdd).symm
  subst ha
  exact done_retE (own 47 2 (.slice none 0 0) 0 [] :: [FSA q d, stH p ⟨q, .slice A1 T.length c1, .slice A2 C.length c2, T, C, dead⟩, ttA ⟨q, .slice A1 T.length c1, .slice A2 C.length c2, T, C, dead⟩, ccA ⟨q, .slice A1 T.length c1, .slice A2 C.length c2, T, C, dead⟩, ro μ]) (.tmp rfl (.tmp rfl .nil)) ⟨⟨q, .slice A1 T.length c1, .slice A2 C.length c2, T, C, dead⟩, 0, [], .slice none 0 0, ⟨fun ν h _ => h, rfl, rfl, rfl, by rw [if_pos hdd]; rfl⟩, rfl⟩ ((Split.ent' (K := [FSA q d, stH p ⟨q, .slice A1 T.length c1, .slice A2 C.length c2, T, C, dead⟩, ttA ⟨q, .slice A1 T.length c1, .slice A2 C.length c2, T, C, dead⟩, ccA ⟨q, .slice A1 T.length c1, .slice A2 C.length c2, T, C, dead⟩, ro μ]) sp0).trans own_nil_ent)
 ·skip
  have hdd : dead = false := by
   cases dead with
   | true => simp at h12
   | false => rfl
  refine swp_skip ?_
  refine then_n ?_
  refine swp_sr ?_
  refine s_mv rfl ?_
  refine s_ef (ef_fn (tenc_spec μ v t hv hu) rfl rfl sp0) ?_
  rintro v16 L1 ⟨rfl, rfl⟩
  refine swl_app ?_
  refine s_mv rfl ?_
  first | refine s_pu (pu_extractL rfl) ?_ | refine s_pu (pu_extract rfl rfl) ?_
  first | refine s_pu (pu_extractL rfl) ?_ | refine s_pu (pu_extract rfl rfl) ?_
  refine s_as rfl ?_
  refine s_as rfl ?_
  refine swl_sub _ (sc0 0 rfl (sc0 1 rfl (sc0 7 rfl (sc0 8 rfl .nil)))) ?_
  refine swl_nn ?_
  refine swp_seq ?_
  refine swp_sr ?_
  refine s_mv rfl ?_
  refine s_pu (pu_eql rfl rfl) ?_
  refine s_mv rfl ?_
  refine s_split 21 rfl (fun h21 => ?_) (fun h21 => ?_)
  ·skip
   have h21' : encErr t = 0 := of_decide_eq_true h21
   obtain ⟨hl1, hl2⟩ := encErr_ok h21'
   have hev : encV t = encT t := by unfold encV; rw [if_pos h21']
   refine s_on rfl rfl ?_
   refine s_mv rfl ?_
   refine s_on rfl rfl ?_
   first | refine s_pu (pu_nilCheck rfl) ?_ | refine s_pu (pu_nilCheck_fn rfl) ?_ | refine s_pu (pu_nilCheck_if rfl) ?_
   refine s_on rfl rfl ?_
   first | refine s_pu (pu_fieldAddr0 rfl) ?_ | refine s_pu (pu_fieldAddr rfl) ?_
   refine s_on rfl rfl ?_
   refine s_rd (rd_load rfl rfl) ?_
   refine s_on rfl rfl ?_
   refine s_pu (pu_len rfl) ?_
   refine s_on rfl rfl ?_
   refine s_pu (pu_geq rfl rfl) ?_
   first | refine s_pu (pu_pick_t rfl rfl) ?_ | refine s_pu (pu_pick_f rfl rfl) ?_
   refine swl_sub _ (sc0 0 rfl (sc0 1 rfl (sc0 7 rfl (sc0 8 rfl (sc0 28 rfl .nil))))) ?_
   refine swl_nn ?_
   refine swp_cond (b := _) rfl (fun h28 => ?_) (fun h28 => ?_)
   ·skip
    have h28' : 65536 ≤ T.length := by have := of_decide_eq_true h28; omega
    refine swp_region ?_
    refine s_as rfl ?_
    refine swl_sub _ (sc0 0 rfl (sc0 1 rfl (sc0 7 rfl (sc0 8 rfl .nil)))) ?_
    refine swl_nn ?_
    refine swp_seq ?_
    refine swp_sr ?_
    refine s_mv rfl ?_
    refine s_pu (pu_eql rfl rfl) ?_
    refine swl_sub _ (sc0 0 rfl (sc0 1 rfl (sc0 7 rfl (sc0 8 rfl (sc0 30 rfl .nil))))) ?_
    refine swl_nn ?_
    refine swp_cond (b := _) rfl (fun h30 => by cases h30) (fun h30 => ?_)
    refine swp_skip ?_
    refine then_n ?_
    refine swp_seq ?_
    refine swp_sr ?_
    refine s_mv rfl ?_
    refine s_pu (pu_neq rfl rfl) ?_
    refine swl_sub _ (sc0 0 rfl (sc0 1 rfl (sc0 8 rfl (sc0 35 rfl .nil)))) ?_
    refine swl_nn ?_
    refine swp_cond (b := _) rfl (fun h35 => ?_) (fun h35 => by cases h35)
    refine swp_sr ?_
    refine s_mv rfl ?_
    refine s_as rfl ?_
    refine s_as rfl ?_
    refine swl_sub _ (sc0 4 rfl (sc0 5 rfl .nil)) ?_
    refine swl_nn ?_
    refine swp_ret ?_
    refine then_r ?_
    have ha : (⟨d, SW.pl ⟨q, .slice A1 T.length c1, .slice A2 C.length c2, T, C, dead⟩, dead⟩, 0, 7) = y := by rw [← hy]; exact (addR_full (x := ⟨d, SW.pl ⟨q, .slice A1 T.length c1, .slice A2 C.length c2, T, C, dead⟩, dead⟩) hdd h21' (by first | (show (SW.pl ⟨q, .slice A1 T.length c1, .slice A2 C.length c2, T, C, dead⟩).1.length < 65536; rw [hlen]; exact h28') | (show 65536 ≤ (SW.pl ⟨q, .slice A1 T.length c1, .slice A2 C.length c2, T, C, dead⟩).1.length; rw [hlen]; exact h28'))).symm
    subst ha
    exact done_retE (own 47 2 (.slice none 0 0) 0 [] :: [FSA q d, stH p ⟨q, .slice A1 T.length c1, .slice A2 C.length c2, T, C, dead⟩, ttA ⟨q, .slice A1 T.length c1, .slice A2 C.length c2, T, C, dead⟩, ccA ⟨q, .slice A1 T.length c1, .slice A2 C.length c2, T, C, dead⟩, ro μ]) (.tmp rfl (.tmp rfl .nil)) ⟨⟨q, .slice A1 T.length c1, .slice A2 C.length c2, T, C, dead⟩, 0, [], .slice none 0 0, ⟨fun ν h _ => h, rfl, rfl, rfl, rfl⟩, rfl⟩ ((Split.ent' (K := [FSA q d, stH p ⟨q, .slice A1 T.length c1, .slice A2 C.length c2, T, C, dead⟩, ttA ⟨q, .slice A1 T.length c1, .slice A2 C.length c2, T, C, dead⟩, ccA ⟨q, .slice A1 T.length c1, .slice A2 C.length c2, T, C, dead⟩, ro μ]) sp0).trans own_nil_ent)
   ·skip
    have h28' : T.length < 65536 := by have := of_decide_eq_false h28; omega
    refine swp_skip ?_
    refine then_n ?_
    refine swp_seq ?_
    refine swp_sr ?_
    refine s_mv rfl ?_
    refine s_pu (pu_eql rfl rfl) ?_
    refine swl_sub _ (sc0 0 rfl (sc0 1 rfl (sc0 7 rfl (sc0 8 rfl (sc0 30 rfl .nil))))) ?_
    refine swl_nn ?_
    refine swp_cond (b := _) rfl (fun h30 => ?_) (fun h30 => by rw [h21'] at h30; cases h30)
    refine swp_region ?_
    refine s_mv rfl ?_
    refine s_mv rfl ?_
    refine s_ef (ef_fn (write_spec p ⟨q, .slice A1 T.length c1, .slice A2 C.length c2, T, C, dead⟩ d hd (1, encV t) (by show 0 < 1; decide) (by show 1 < 256; decide) (by rw [hev]; exact encT_len h21')) rfl rfl sp0) ?_
    rintro v33 L1 ⟨rfl, rfl⟩
    rw [hev]
    refine swl_app ?_
    dsimp only
    refine s_as rfl ?_
    refine swl_sub _ (sc0 0 rfl (sc0 1 rfl (sc0 8 rfl .nil))) ?_
    refine swl_nn ?_
    refine swp_seq ?_
    refine swp_sr ?_
    refine s_mv rfl ?_
    refine s_pu (pu_neq rfl rfl) ?_
    refine swl_sub _ (sc0 0 rfl (sc0 1 rfl (sc0 8 rfl (sc0 35 rfl .nil)))) ?_
    refine swl_nn ?_
    refine swp_cond (b := _) rfl (fun h35 => ?_) (fun h35 => ?_)
    ·skip
     refine swp_sr ?_
     refine s_mv rfl ?_
     refine s_as rfl ?_
     refine s_as rfl ?_
     refine swl_sub _ (sc0 4 rfl (sc0 5 rfl .nil)) ?_
     refine swl_nn ?_
     refine swp_ret ?_
     refine then_r ?_
     have h35' : (writeD d (1, encT t)).2 ≠ 0 := by simpa using h35
     have ha : (⟨(writeD d (1, encT t)).1, SW.pl ⟨q, .slice A1 T.length c1, .slice A2 C.length c2, T, C, dead⟩, decide ((writeD d (1, encT t)).2 = 8)⟩, 0, (writeD d (1, encT t)).2) = y := by rw [← hy]; exact (addR_wr (x := ⟨d, SW.pl ⟨q, .slice A1 T.length c1, .slice A2 C.length c2, T, C, dead⟩, dead⟩) hdd h21' (by first | (show (SW.pl ⟨q, .slice A1 T.length c1, .slice A2 C.length c2, T, C, dead⟩).1.length < 65536; rw [hlen]; exact h28') | (show 65536 ≤ (SW.pl ⟨q, .slice A1 T.length c1, .slice A2 C.length c2, T, C, dead⟩).1.length; rw [hlen]; exact h28')) h35').symm
     subst ha
     exact done_retE (own 47 2 (.slice none 0 0) 0 [] :: [FSA q (writeD d (1, encT t)).1, stH p ⟨q, .slice A1 T.length c1, .slice A2 C.length c2, T, C, decide ((writeD d (1, encT t)).2 = 8)⟩, ttA ⟨q, .slice A1 T.length c1, .slice A2 C.length c2, T, C, dead⟩, ccA ⟨q, .slice A1 T.length c1, .slice A2 C.length c2, T, C, dead⟩, ro μ]) (.tmp rfl (.tmp rfl .nil)) ⟨⟨q, .slice A1 T.length c1, .slice A2 C.length c2, T, C, decide ((writeD d (1, encT t)).2 = 8)⟩, 0, [], .slice none 0 0, ⟨fun ν h _ => SW.Ok.dead h _, rfl, rfl, rfl, rfl⟩, rfl⟩ ((Split.ent' (K := [FSA q (writeD d (1, encT t)).1, stH p ⟨q, .slice A1 T.length c1, .slice A2 C.length c2, T, C, decide ((writeD d (1, encT t)).2 = 8)⟩, ttA ⟨q, .slice A1 T.length c1, .slice A2 C.length c2, T, C, dead⟩, ccA ⟨q, .slice A1 T.length c1, .slice A2 C.length c2, T, C, dead⟩, ro μ]) sp0).trans own_nil_ent)
    ·skip
     have h35' : (writeD d (1, encT t)).2 = 0 := by simpa using h35
     have ha : (⟨(writeD d (1, encT t)).1, ((SW.pl ⟨q, .slice A1 T.length c1, .slice A2 C.length c2, T, C, dead⟩).1 ++ [t], (SW.pl ⟨q, .slice A1 T.length c1, .slice A2 C.length c2, T, C, dead⟩).2), false⟩, ((SW.pl ⟨q, .slice A1 T.length c1, .slice A2 C.length c2, T, C, dead⟩).1.length : Int), 0) = y := by rw [← hy]; exact (addR_ok (x := ⟨d, SW.pl ⟨q, .slice A1 T.length c1, .slice A2 C.length c2, T, C, dead⟩, dead⟩) hdd h21' (by first | (show (SW.pl ⟨q, .slice A1 T.length c1, .slice A2 C.length c2, T, C, dead⟩).1.length < 65536; rw [hlen]; exact h28') | (show 65536 ≤ (SW.pl ⟨q, .slice A1 T.length c1, .slice A2 C.length c2, T, C, dead⟩).1.length; rw [hlen]; exact h28')) h35').symm
     have hd8 : decide ((writeD d (1, encT t)).2 = 8) = false := by rw [h35']; rfl
     rw [hd8]
     subst ha
     refine swp_skip ?_
     refine then_n ?_
     refine swp_seq ?_
     refine swp_draw [4] ([stH p ⟨q, .slice A1 T.length c1, .slice A2 C.length c2, T, C, false⟩]) ([FSA q (writeD d (1, encT t)).1, ro μ, ttA ⟨q, .slice A1 T.length c1, .slice A2 C.length c2, T, C, dead⟩, ccA ⟨q, .slice A1 T.length c1, .slice A2 C.length c2, T, C, dead⟩]) (Split.ent sp0) kr0 ?_
     refine d_pu 0 rfl (pu_move rfl) kr0 kr0 kr0 ?_
     refine d_pu 1 rfl (pu_move rfl) kr0 kr0 kr0 ?_
     first | refine d_pu 2 rfl (pu_nilCheck rfl) kr0 kr0 kr0 ?_ | refine d_pu 2 rfl (pu_nilCheck_fn rfl) kr0 kr0 kr0 ?_ | refine d_pu 2 rfl (pu_nilCheck_if rfl) kr0 kr0 kr0 ?_
     first | refine d_pu 3 rfl (pu_fieldAddr0 rfl) kr0 kr0 kr0 ?_ | refine d_pu 3 rfl (pu_fieldAddr rfl) kr0 kr0 kr0 ?_
     refine d_rd 4 rfl (rd_load rfl rfl) rfl kr0 kr0 kr0 ?_
     refine d_pu 5 rfl (pu_move rfl) kr0 kr0 kr0 ?_
     refine d_eft 6 rfl kr0 (ef_fn (cloneT_spec μ v t hv om0) rfl rfl sp0) ?_
     rintro v43 L1 ⟨A3, c3, rfl, rfl⟩
     refine ⟨_, ent_appC (Split.ent sp0), ?_⟩
     refine d_eft 7 rfl kr0 (ef_bldS (qs := [(0, _)]) rfl rfl rfl) ?_
     intro b44
     refine ⟨_, Split.ent sp0, ?_⟩
     first | refine d_fint 8 rfl kr0 kr0 (ef_append_lit (l := T.length) (m := 1) rfl rfl sp0 (by simp only [maxLen]; omega) om0) ?_ | refine d_finf 8 rfl kr0 kr0 (ef_append_lit (l := T.length) (m := 1) rfl rfl sp0 (by simp only [maxLen]; omega) om0) ?_
     rintro v45 -
     first | refine swd_factf (fun m h => own_form h) fun ⟨A45, c45, hv45⟩ => ?_ | refine swd_factt (fun m h => own_form h) fun ⟨A45, c45, hv45⟩ => ?_
     subst hv45
     first | refine d_pu 9 rfl (pu_nilCheck rfl) kr0 kr0 kr0 ?_ | refine d_pu 9 rfl (pu_nilCheck_fn rfl) kr0 kr0 kr0 ?_ | refine d_pu 9 rfl (pu_nilCheck_if rfl) kr0 kr0 kr0 ?_
     first | refine d_pu 10 rfl (pu_fieldAddr0 rfl) kr0 kr0 kr0 ?_ | refine d_pu 10 rfl (pu_fieldAddr rfl) kr0 kr0 kr0 ?_
     first | refine d_fin0t 11 rfl kr0 kr0 (ef_store rfl rfl rfl) ?_ | refine d_fin0f 11 rfl kr0 kr0 (ef_store rfl rfl rfl) ?_
     refine d_sub _ (sc0 0 rfl .nil) ?_
     first | refine d_nilt kr0 ?_ | refine d_nilf kr0 ?_
     refine then_n ?_
     refine swp_sr ?_
     refine s_mv rfl ?_
     first | refine s_pu (pu_nilCheck rfl) ?_ | refine s_pu (pu_nilCheck_fn rfl) ?_ | refine s_pu (pu_nilCheck_if rfl) ?_
     first | refine s_pu (pu_fieldAddr0 rfl) ?_ | refine s_pu (pu_fieldAddr rfl) ?_
     refine s_rd (rd_load rfl rfl) ?_
     refine s_pu (pu_len rfl) ?_
     refine s_pu (pu_sub_as ((T.length : Nat) : Int) rfl rfl om0 om0 om0) ?_
     refine s_as rfl ?_
     refine s_as rfl ?_
     refine swl_sub _ (sc0 4 rfl (sc0 5 rfl .nil)) ?_
     refine swl_nn ?_
     refine swp_ret ?_
     refine done_ret [own 47 2 (.slice A3 t.length c3) t.length (ens t), FSA q (writeD d (1, encT t)).1, stH p ⟨q, .slice A45 (T.length + 1) c45, .slice A2 C.length c2, T ++ [(.slice A3 t.length c3, t)], C, false⟩, own 22 1 (.slice A45 (T.length + 1) c45) (T.length + 1) (T.flatMap tcs ++ [.slice A3 t.length c3]), ccA ⟨q, .slice A1 T.length c1, .slice A2 C.length c2, T, C, dead⟩, ro μ] (.tmp rfl (.tmp rfl .nil)) ⟨⟨q, .slice A45 (T.length + 1) c45, .slice A2 C.length c2, T ++ [(.slice A3 t.length c3, t)], C, false⟩, t.length, ens t, .slice A3 t.length c3, ⟨fun ν h hrow => SW.Ok.dead (Ok.addT h (Le.refl _) hrow h28') false, rfl, ?_, rfl, ?_⟩, ?_⟩ sp0
     ·unfold SW.pl; rw [List.map_append]; rfl
     ·rw [hlen]; rfl
     ·simp only [ttA, List.length_append, List.length_singleton, List.flatMap_append]; rfl
  ·skip
   have h21' : encErr t ≠ 0 := of_decide_eq_false h21
   refine s_off rfl rfl rfl ?_
   refine s_off rfl rfl rfl ?_
   refine s_off rfl rfl rfl ?_
   refine s_off rfl rfl rfl ?_
   refine s_off rfl rfl rfl ?_
   refine s_off rfl rfl rfl ?_
   first | refine s_pu (pu_pick_t rfl rfl) ?_ | refine s_pu (pu_pick_f rfl rfl) ?_
   refine swl_sub _ (sc0 0 rfl (sc0 1 rfl (sc0 7 rfl (sc0 8 rfl (sc0 28 rfl .nil))))) ?_
   refine swl_nn ?_
   refine swp_cond (b := _) rfl (fun h28 => by cases h28) (fun h28 => ?_)
   refine swp_skip ?_
   refine then_n ?_
   refine swp_seq ?_
   refine swp_sr ?_
   refine s_mv rfl ?_
   refine s_pu (pu_eql rfl rfl) ?_
   refine swl_sub _ (sc0 0 rfl (sc0 1 rfl (sc0 7 rfl (sc0 8 rfl (sc0 30 rfl .nil))))) ?_
   refine swl_nn ?_
   refine swp_cond (b := _) rfl (fun h30 => by exact absurd (of_decide_eq_true h30) h21') (fun h30 => ?_)
   refine swp_skip ?_
   refine then_n ?_
   refine swp_seq ?_
   refine swp_sr ?_
   refine s_mv rfl ?_
   refine s_pu (pu_neq rfl rfl) ?_
   refine swl_sub _ (sc0 0 rfl (sc0 1 rfl (sc0 8 rfl (sc0 35 rfl .nil)))) ?_
   refine swl_nn ?_
   refine swp_cond (b := _) rfl (fun h35 => ?_) (fun h35 => by rw [decide_eq_false h21'] at h35; cases h35)
   refine swp_sr ?_
   refine s_mv rfl ?_
   refine s_as rfl ?_
   refine s_as rfl ?_
   refine swl_sub _ (sc0 4 rfl (sc0 5 rfl .nil)) ?_
   refine swl_nn ?_
   refine swp_ret ?_
   refine then_r ?_
   have ha : (⟨d, SW.pl ⟨q, .slice A1 T.length c1, .slice A2 C.length c2, T, C, dead⟩, dead⟩, 0, encErr t) = y := by rw [← hy]; exact (addR_err (x := ⟨d, SW.pl ⟨q, .slice A1 T.length c1, .slice A2 C.length c2, T, C, dead⟩, dead⟩) hdd h21').symm
   subst ha
   exact done_retE (own 47 2 (.slice none 0 0) 0 [] :: [FSA q d, stH p ⟨q, .slice A1 T.length c1, .slice A2 C.length c2, T, C, dead⟩, ttA ⟨q, .slice A1 T.length c1, .slice A2 C.length c2, T, C, dead⟩, ccA ⟨q, .slice A1 T.length c1, .slice A2 C.length c2, T, C, dead⟩, ro μ]) (.tmp rfl (.tmp rfl .nil)) ⟨⟨q, .slice A1 T.length c1, .slice A2 C.length c2, T, C, dead⟩, 0, [], .slice none 0 0, ⟨fun ν h _ => h, rfl, rfl, rfl, rfl⟩, rfl⟩ ((Split.ent' (K := [FSA q d, stH p ⟨q, .slice A1 T.length c1, .slice A2 C.length c2, T, C, dead⟩, ttA ⟨q, .slice A1 T.length c1, .slice A2 C.length c2, T, C, dead⟩, ccA ⟨q, .slice A1 T.length c1, .slice A2 C.length c2, T, C, dead⟩, ro μ]) sp0).trans own_nil_ent)
set_option maxHeartbeats 4000000 in
theorem addcommitX_spec (μ : PH) (p : Nat) (W : SW) (hW : W.Ok μ) (d : Dk) (hd : d.Ok) (v : Value) (c : Cm) (hv : Row μ v 1 c.1.length (c.1.flatMap (icsk .i64))) : Spec Tryz.prog 13 [pv p, cmV v c.2] [FSA W.q d, stH p W, ttA W, ccA W, ro μ]
  (fun r L => ∃ W' n xs nv, AddX W (addC ⟨d, W.pl, W.dead⟩ c) r W' 1 nv n xs ∧ L = [own 3 1 nv n xs, FSA W'.q (addC ⟨d, W.pl, W.dead⟩ c).1.d, stH p W', ttA W', ccA W', ro μ]) := by
 have hW0 := hW
 obtain ⟨⟨A1, c1, e1⟩, ⟨A2, c2, e2⟩, _, _, hT, hC⟩ := hW
 obtain ⟨A5, c5, rfl⟩ := hv.sl
 obtain ⟨q, tv, cv, T, C, dead⟩ := W
 dsimp only at e1 e2 hT hC
 subst e1 e2
 have hlen : (SW.pl ⟨q, .slice A1 T.length c1, .slice A2 C.length c2, T, C, dead⟩).1.length = T.length := List.length_map _
 have hlen2 : (SW.pl ⟨q, .slice A1 T.length c1, .slice A2 C.length c2, T, C, dead⟩).2.length = C.length := List.length_map _
 generalize hy : addC ⟨d, SW.pl ⟨q, .slice A1 T.length c1, .slice A2 C.length c2, T, C, dead⟩, dead⟩ c = y
 unfold addC at hy
 dsimp only at hy
 rw [hlen, hlen2] at hy
 refine Spec.of 61 Tryz.func13 rfl rfl rfl ?_
 refine swp_sr ?_
 refine s_ef (ef_box rfl rfl) ?_
 intro b3
 refine s_as rfl ?_
 refine s_as rfl ?_
 refine swl_sub _ (sc0 0 rfl (sc0 3 rfl .nil)) ?_
 refine swl_nn ?_
 refine swp_seq ?_
 refine swp_sr ?_
 refine s_mv rfl ?_
 refine s_ef (ef_fn (live_spec p ⟨q, .slice A1 T.length c1, .slice A2 C.length c2, T, C, dead⟩) rfl rfl sp0) ?_
 rintro v10 L1 ⟨rfl, rfl⟩
 refine swl_app ?_
 refine s_as rfl ?_
 refine swl_sub _ (sc0 0 rfl (sc0 3 rfl (sc0 6 rfl .nil))) ?_
 refine swl_nn ?_
 refine swp_sr ?_
 refine s_mv rfl ?_
 refine s_pu (pu_neq rfl rfl) ?_
 refine swl_sub _ (sc0 0 rfl (sc0 3 rfl (sc0 6 rfl (sc0 12 rfl .nil)))) ?_
 refine swl_nn ?_
 refine swp_cond (b := _) rfl (fun h12 => ?_) (fun h12 => ?_)
 ·skip
  refine swp_sr ?_
  refine s_mv rfl ?_
  refine s_as rfl ?_
  refine s_as rfl ?_
  refine swl_sub _ (sc0 4 rfl (sc0 5 rfl .nil)) ?_
  refine swl_nn ?_
  refine swp_ret ?_
  refine then_r ?_
  have hdd : dead = true := by
   cases dead with
   | true => rfl
   | false => simp at h12
  have ha : (⟨d, SW.pl ⟨q, .slice A1 T.length c1, .slice A2 C.length c2, T, C, dead⟩, dead⟩, 0, 8) = y := by rw [← hy]; exact (addR_dead (x := ⟨d, SW.pl ⟨q, .slice A1 T.length c1, .slice A2 C.length c2, T, C, dead⟩, dead⟩) hdd).symm
  subst ha
  exact done_retE (own 3 1 (.slice none 0 0) 0 [] :: [FSA q d, stH p ⟨q, .slice A1 T.length c1, .slice A2 C.length c2, T, C, dead⟩, ttA ⟨q, .slice A1 T.length c1, .slice A2 C.length c2, T, C, dead⟩, ccA ⟨q, .slice A1 T.length c1, .slice A2 C.length c2, T, C, dead⟩, ro μ]) (.tmp rfl (.tmp rfl .nil)) ⟨⟨q, .slice A1 T.length c1, .slice A2 C.length c2, T, C, dead⟩, 0, [], .slice none 0 0, ⟨fun ν h _ => h, rfl, rfl, rfl, by rw [if_pos hdd]; rfl⟩, rfl⟩ ((Split.ent' (K := [FSA q d, stH p ⟨q, .slice A1 T.length c1, .slice A2 C.length c2, T, C, dead⟩, ttA ⟨q, .slice A1 T.length c1, .slice A2 C.length c2, T, C, dead⟩, ccA ⟨q, .slice A1 T.length c1, .slice A2 C.length c2, T, C, dead⟩, ro μ]) sp0).trans own_nil_ent)
 ·skip
  have hdd : dead = false := by
   cases dead with
   | true => simp at h12
   | false => rfl
  refine swp_skip ?_
  refine then_n ?_
  refine swp_sr ?_
  first | refine s_rd (rd_loadW rfl rfl) ?_ | refine s_rd (rd_loadX rfl rfl rfl) ?_
  refine s_ef (ef_fn (cenc_spec μ (.slice A5 c.1.length c5) c hv) rfl rfl sp0) ?_
  rintro v16 L1 ⟨rfl, rfl⟩
  refine swl_app ?_
  refine s_mv rfl ?_
  first | refine s_pu (pu_extractL rfl) ?_ | refine s_pu (pu_extract rfl rfl) ?_
  first | refine s_pu (pu_extractL rfl) ?_ | refine s_pu (pu_extract rfl rfl) ?_
  refine s_as rfl ?_
  refine s_as rfl ?_
  refine swl_sub _ (sc0 0 rfl (sc0 3 rfl (sc0 7 rfl (sc0 8 rfl .nil)))) ?_
  refine swl_nn ?_
  refine swp_seq ?_
  refine swp_block ?_
  refine swp_sr ?_
  refine s_mv rfl ?_
  refine s_pu (pu_neq rfl rfl) ?_
  refine s_as rfl ?_
  refine swl_sub _ (sc0 0 rfl (sc0 3 rfl (sc0 7 rfl (sc0 8 rfl (sc0 22 rfl .nil))))) ?_
  refine swl_nn ?_
  refine swp_cond (b := _) rfl (fun h22 => ?_) (fun h22 => ?_)
  ·skip
   have h22' : checkC c ≠ 0 := by simpa using h22
   rw [if_pos h22'] at hy
   refine swp_skip ?_
   refine block_n ?_
   refine then_n ?_
   refine swp_seq ?_
   refine swp_sr ?_
   refine s_mv rfl ?_
   refine s_pu (pu_neq rfl rfl) ?_
   refine swl_sub _ (sc0 0 rfl (sc0 3 rfl (sc0 8 rfl (sc0 38 rfl .nil)))) ?_
   refine swl_nn ?_
   refine swp_cond (b := _) rfl (fun h38 => ?_) (fun h38 => by rw [decide_eq_false h22'] at h38; cases h38)
   refine swp_sr ?_
   refine s_mv rfl ?_
   refine s_as rfl ?_
   refine s_as rfl ?_
   refine swl_sub _ (sc0 4 rfl (sc0 5 rfl .nil)) ?_
   refine swl_nn ?_
   refine swp_ret ?_
   refine then_r ?_
   have ha : (⟨d, SW.pl ⟨q, .slice A1 T.length c1, .slice A2 C.length c2, T, C, dead⟩, dead⟩, 0, checkC c) = y := by rw [← hy]; exact (addR_err (x := ⟨d, SW.pl ⟨q, .slice A1 T.length c1, .slice A2 C.length c2, T, C, dead⟩, dead⟩) hdd h22').symm
   subst ha
   exact done_retE (own 3 1 (.slice none 0 0) 0 [] :: [FSA q d, stH p ⟨q, .slice A1 T.length c1, .slice A2 C.length c2, T, C, dead⟩, ttA ⟨q, .slice A1 T.length c1, .slice A2 C.length c2, T, C, dead⟩, ccA ⟨q, .slice A1 T.length c1, .slice A2 C.length c2, T, C, dead⟩, ro μ]) (.tmp rfl (.tmp rfl .nil)) ⟨⟨q, .slice A1 T.length c1, .slice A2 C.length c2, T, C, dead⟩, 0, [], .slice none 0 0, ⟨fun ν h _ => h, rfl, rfl, rfl, rfl⟩, rfl⟩ ((Split.ent' (K := [FSA q d, stH p ⟨q, .slice A1 T.length c1, .slice A2 C.length c2, T, C, dead⟩, ttA ⟨q, .slice A1 T.length c1, .slice A2 C.length c2, T, C, dead⟩, ccA ⟨q, .slice A1 T.length c1, .slice A2 C.length c2, T, C, dead⟩, ro μ]) sp0).trans own_nil_ent)
  ·skip
   have h22' : checkC c = 0 := by simpa using h22
   rw [if_neg (not_not_intro h22')] at hy
   refine swp_sr ?_
   refine s_mv rfl ?_
   first | refine s_rd (rd_loadW rfl rfl) ?_ | refine s_rd (rd_loadX rfl rfl rfl) ?_
   refine s_ef (ef_fn (known_spec μ p ⟨q, .slice A1 T.length c1, .slice A2 C.length c2, T, C, dead⟩ hW0 (.slice A5 c.1.length c5) c hv) rfl rfl sp0) ?_
   rintro v28 L1 ⟨rfl, rfl⟩
   refine swl_app ?_
   refine s_pu (pu_not rfl) ?_
   refine s_as rfl ?_
   refine swl_sub _ (sc0 0 rfl (sc0 3 rfl (sc0 7 rfl (sc0 25 rfl .nil)))) ?_
   refine swl_nn ?_
   refine swp_cond (b := _) rfl (fun h25 => ?_) (fun h25 => ?_)
   ·skip
    have h25' : knownS T.length C.length c = false := by simpa using h25
    rw [if_pos h25'] at hy
    refine swp_region ?_
    refine s_as rfl ?_
    refine swl_sub _ (sc0 0 rfl (sc0 3 rfl (sc0 8 rfl .nil))) ?_
    refine swl_nil ?_
    refine block_n ?_
    refine then_n ?_
    refine swp_seq ?_
    refine swp_sr ?_
    refine s_mv rfl ?_
    refine s_pu (pu_neq rfl rfl) ?_
    refine swl_sub _ (sc0 0 rfl (sc0 3 rfl (sc0 8 rfl (sc0 38 rfl .nil)))) ?_
    refine swl_nn ?_
    refine swp_cond (b := _) rfl (fun h38 => ?_) (fun h38 => by cases h38)
    refine swp_sr ?_
    refine s_mv rfl ?_
    refine s_as rfl ?_
    refine s_as rfl ?_
    refine swl_sub _ (sc0 4 rfl (sc0 5 rfl .nil)) ?_
    refine swl_nn ?_
    refine swp_ret ?_
    refine then_r ?_
    have ha : (⟨d, SW.pl ⟨q, .slice A1 T.length c1, .slice A2 C.length c2, T, C, dead⟩, dead⟩, 0, 9) = y := by rw [← hy]; exact (addR_err (x := ⟨d, SW.pl ⟨q, .slice A1 T.length c1, .slice A2 C.length c2, T, C, dead⟩, dead⟩) hdd (by decide)).symm
    subst ha
    exact done_retE (own 3 1 (.slice none 0 0) 0 [] :: [FSA q d, stH p ⟨q, .slice A1 T.length c1, .slice A2 C.length c2, T, C, dead⟩, ttA ⟨q, .slice A1 T.length c1, .slice A2 C.length c2, T, C, dead⟩, ccA ⟨q, .slice A1 T.length c1, .slice A2 C.length c2, T, C, dead⟩, ro μ]) (.tmp rfl (.tmp rfl .nil)) ⟨⟨q, .slice A1 T.length c1, .slice A2 C.length c2, T, C, dead⟩, 0, [], .slice none 0 0, ⟨fun ν h _ => h, rfl, rfl, rfl, rfl⟩, rfl⟩ ((Split.ent' (K := [FSA q d, stH p ⟨q, .slice A1 T.length c1, .slice A2 C.length c2, T, C, dead⟩, ttA ⟨q, .slice A1 T.length c1, .slice A2 C.length c2, T, C, dead⟩, ccA ⟨q, .slice A1 T.length c1, .slice A2 C.length c2, T, C, dead⟩, ro μ]) sp0).trans own_nil_ent)
   ·skip
    have h25' : knownS T.length C.length c = true := by simpa using h25
    rw [if_neg (by rw [h25']; decide)] at hy
    refine swp_sr ?_
    refine s_mv rfl ?_
    first | refine s_pu (pu_nilCheck rfl) ?_ | refine s_pu (pu_nilCheck_fn rfl) ?_ | refine s_pu (pu_nilCheck_if rfl) ?_
    first | refine s_pu (pu_fieldAddr0 rfl) ?_ | refine s_pu (pu_fieldAddr rfl) ?_
    refine s_rd (rd_load rfl rfl) ?_
    refine s_pu (pu_len rfl) ?_
    refine s_pu (pu_geq rfl rfl) ?_
    refine s_as rfl ?_
    refine swl_sub _ (sc0 0 rfl (sc0 3 rfl (sc0 7 rfl (sc0 30 rfl .nil)))) ?_
    refine swl_nn ?_
    refine swp_cond (b := _) rfl (fun h30 => ?_) (fun h30 => ?_)
    ·skip
     have h30' : 65536 ≤ C.length := by have := of_decide_eq_true h30; omega
     refine swp_region ?_
     refine s_as rfl ?_
     refine swl_sub _ (sc0 0 rfl (sc0 3 rfl (sc0 8 rfl .nil))) ?_
     refine swl_nil ?_
     refine block_n ?_
     refine then_n ?_
     refine swp_seq ?_
     refine swp_sr ?_
     refine s_mv rfl ?_
     refine s_pu (pu_neq rfl rfl) ?_
     refine swl_sub _ (sc0 0 rfl (sc0 3 rfl (sc0 8 rfl (sc0 38 rfl .nil)))) ?_
     refine swl_nn ?_
     refine swp_cond (b := _) rfl (fun h38 => ?_) (fun h38 => by cases h38)
     refine swp_sr ?_
     refine s_mv rfl ?_
     refine s_as rfl ?_
     refine s_as rfl ?_
     refine swl_sub _ (sc0 4 rfl (sc0 5 rfl .nil)) ?_
     refine swl_nn ?_
     refine swp_ret ?_
     refine then_r ?_
     have ha : (⟨d, SW.pl ⟨q, .slice A1 T.length c1, .slice A2 C.length c2, T, C, dead⟩, dead⟩, 0, 7) = y := by rw [← hy]; exact (addR_full (x := ⟨d, SW.pl ⟨q, .slice A1 T.length c1, .slice A2 C.length c2, T, C, dead⟩, dead⟩) hdd rfl h30').symm
     subst ha
     exact done_retE (own 3 1 (.slice none 0 0) 0 [] :: [FSA q d, stH p ⟨q, .slice A1 T.length c1, .slice A2 C.length c2, T, C, dead⟩, ttA ⟨q, .slice A1 T.length c1, .slice A2 C.length c2, T, C, dead⟩, ccA ⟨q, .slice A1 T.length c1, .slice A2 C.length c2, T, C, dead⟩, ro μ]) (.tmp rfl (.tmp rfl .nil)) ⟨⟨q, .slice A1 T.length c1, .slice A2 C.length c2, T, C, dead⟩, 0, [], .slice none 0 0, ⟨fun ν h _ => h, rfl, rfl, rfl, rfl⟩, rfl⟩ ((Split.ent' (K := [FSA q d, stH p ⟨q, .slice A1 T.length c1, .slice A2 C.length c2, T, C, dead⟩, ttA ⟨q, .slice A1 T.length c1, .slice A2 C.length c2, T, C, dead⟩, ccA ⟨q, .slice A1 T.length c1, .slice A2 C.length c2, T, C, dead⟩, ro μ]) sp0).trans own_nil_ent)
    ·skip
     have h30' : C.length < 65536 := by have := of_decide_eq_false h30; omega
     have hbl := (checkC_ok h22').1
     refine swp_region ?_
     refine s_mv rfl ?_
     refine s_mv rfl ?_
     refine s_ef (ef_fn (write_spec p ⟨q, .slice A1 T.length c1, .slice A2 C.length c2, T, C, dead⟩ d hd (2, comV c) (by show 0 < 2; decide) (by show 2 < 256; decide) (by rw [comV_ok h22']; exact encC_len h22')) rfl rfl sp0) ?_
     rintro v21 L1 ⟨rfl, rfl⟩
     rw [comV_ok h22']
     refine swl_app ?_
     dsimp only
     refine s_as rfl ?_
     refine swl_sub _ (sc0 0 rfl (sc0 3 rfl (sc0 8 rfl .nil))) ?_
     refine swl_nil ?_
     refine block_n ?_
     refine then_n ?_
     refine swp_seq ?_
     refine swp_sr ?_
     refine s_mv rfl ?_
     refine s_pu (pu_neq rfl rfl) ?_
     refine swl_sub _ (sc0 0 rfl (sc0 3 rfl (sc0 8 rfl (sc0 38 rfl .nil)))) ?_
     refine swl_nn ?_
     refine swp_cond (b := _) rfl (fun h38 => ?_) (fun h38 => ?_)
     ·skip
      refine swp_sr ?_
      refine s_mv rfl ?_
      refine s_as rfl ?_
      refine s_as rfl ?_
      refine swl_sub _ (sc0 4 rfl (sc0 5 rfl .nil)) ?_
      refine swl_nn ?_
      refine swp_ret ?_
      refine then_r ?_
      have h38' : (writeD d (2, encC' c)).2 ≠ 0 := by simpa using h38
      have ha : (⟨(writeD d (2, encC' c)).1, SW.pl ⟨q, .slice A1 T.length c1, .slice A2 C.length c2, T, C, dead⟩, decide ((writeD d (2, encC' c)).2 = 8)⟩, 0, (writeD d (2, encC' c)).2) = y := by rw [← hy]; exact (addR_wr (x := ⟨d, SW.pl ⟨q, .slice A1 T.length c1, .slice A2 C.length c2, T, C, dead⟩, dead⟩) hdd rfl h30' h38').symm
      subst ha
      exact done_retE (own 3 1 (.slice none 0 0) 0 [] :: [FSA q (writeD d (2, encC' c)).1, stH p ⟨q, .slice A1 T.length c1, .slice A2 C.length c2, T, C, decide ((writeD d (2, encC' c)).2 = 8)⟩, ttA ⟨q, .slice A1 T.length c1, .slice A2 C.length c2, T, C, dead⟩, ccA ⟨q, .slice A1 T.length c1, .slice A2 C.length c2, T, C, dead⟩, ro μ]) (.tmp rfl (.tmp rfl .nil)) ⟨⟨q, .slice A1 T.length c1, .slice A2 C.length c2, T, C, decide ((writeD d (2, encC' c)).2 = 8)⟩, 0, [], .slice none 0 0, ⟨fun ν h _ => SW.Ok.dead h _, rfl, rfl, rfl, rfl⟩, rfl⟩ ((Split.ent' (K := [FSA q (writeD d (2, encC' c)).1, stH p ⟨q, .slice A1 T.length c1, .slice A2 C.length c2, T, C, decide ((writeD d (2, encC' c)).2 = 8)⟩, ttA ⟨q, .slice A1 T.length c1, .slice A2 C.length c2, T, C, dead⟩, ccA ⟨q, .slice A1 T.length c1, .slice A2 C.length c2, T, C, dead⟩, ro μ]) sp0).trans own_nil_ent)
     ·skip
      have h38' : (writeD d (2, encC' c)).2 = 0 := by simpa using h38
      have ha : (⟨(writeD d (2, encC' c)).1, ((SW.pl ⟨q, .slice A1 T.length c1, .slice A2 C.length c2, T, C, dead⟩).1, (SW.pl ⟨q, .slice A1 T.length c1, .slice A2 C.length c2, T, C, dead⟩).2 ++ [c]), false⟩, ((C.length : Nat) : Int), 0) = y := by rw [← hy]; exact (addR_ok (x := ⟨d, SW.pl ⟨q, .slice A1 T.length c1, .slice A2 C.length c2, T, C, dead⟩, dead⟩) hdd rfl h30' h38').symm
      have hd8 : decide ((writeD d (2, encC' c)).2 = 8) = false := by rw [h38']; rfl
      rw [hd8]
      subst ha
      refine swp_skip ?_
      refine then_n ?_
      refine swp_seq ?_
      refine swp_draw [4, 6, 9] ([stH p ⟨q, .slice A1 T.length c1, .slice A2 C.length c2, T, C, false⟩, blk b3 25 [.slice A5 c.1.length c5, .int .i64 c.2]]) ([FSA q (writeD d (2, encC' c)).1, ro μ, ttA ⟨q, .slice A1 T.length c1, .slice A2 C.length c2, T, C, dead⟩, ccA ⟨q, .slice A1 T.length c1, .slice A2 C.length c2, T, C, dead⟩]) (Split.ent sp0) kr0 ?_
      refine d_pu 0 rfl (pu_move rfl) kr0 kr0 kr0 ?_
      refine d_pu 1 rfl (pu_move rfl) kr0 kr0 kr0 ?_
      first | refine d_pu 2 rfl (pu_nilCheck rfl) kr0 kr0 kr0 ?_ | refine d_pu 2 rfl (pu_nilCheck_fn rfl) kr0 kr0 kr0 ?_ | refine d_pu 2 rfl (pu_nilCheck_if rfl) kr0 kr0 kr0 ?_
      first | refine d_pu 3 rfl (pu_fieldAddr0 rfl) kr0 kr0 kr0 ?_ | refine d_pu 3 rfl (pu_fieldAddr rfl) kr0 kr0 kr0 ?_
      refine d_rd 4 rfl (rd_load rfl rfl) rfl kr0 kr0 kr0 ?_
      first | refine d_pu 5 rfl (pu_fieldAddr0 rfl) kr0 kr0 kr0 ?_ | refine d_pu 5 rfl (pu_fieldAddr rfl) kr0 kr0 kr0 ?_
      refine d_rd 6 rfl (rd_load rfl rfl) rfl kr0 kr0 kr0 ?_
      first | refine d_pu 8 rfl (pu_fieldAddr0 rfl) kr0 kr0 kr0 ?_ | refine d_pu 8 rfl (pu_fieldAddr rfl) kr0 kr0 kr0 ?_
      refine d_rd 9 rfl (rd_load rfl rfl) rfl kr0 kr0 kr0 ?_
      refine d_eft 7 rfl kr0 (ef_fn (cloneI_spec μ (.slice A5 c.1.length c5) c.1 hv om0) rfl rfl sp0) ?_
      rintro v47 L1 ⟨A3, c3, rfl, rfl⟩
      refine ⟨_, ent_appC (Split.ent sp0), ?_⟩
      refine d_pu 10 rfl (pu_bld (qs := [(0, _), (1, _)]) rfl) kr0 kr0 kr0 ?_
      refine d_eft 11 rfl kr0 (ef_bldS (qs := [(0, _)]) rfl rfl rfl) ?_
      intro b51
      refine ⟨_, Split.ent sp0, ?_⟩
      first | refine d_fint 12 rfl kr0 kr0 (ef_append_lit (l := C.length) (m := 1) rfl rfl sp0 (by simp only [maxLen]; omega) om0) ?_ | refine d_finf 12 rfl kr0 kr0 (ef_append_lit (l := C.length) (m := 1) rfl rfl sp0 (by simp only [maxLen]; omega) om0) ?_
      rintro v52 -
      first | refine swd_factf (fun m h => own_form h) fun ⟨A45, c45, hv45⟩ => ?_ | refine swd_factt (fun m h => own_form h) fun ⟨A45, c45, hv45⟩ => ?_
      subst hv45
      first | refine d_pu 13 rfl (pu_nilCheck rfl) kr0 kr0 kr0 ?_ | refine d_pu 13 rfl (pu_nilCheck_fn rfl) kr0 kr0 kr0 ?_ | refine d_pu 13 rfl (pu_nilCheck_if rfl) kr0 kr0 kr0 ?_
      first | refine d_pu 14 rfl (pu_fieldAddr0 rfl) kr0 kr0 kr0 ?_ | refine d_pu 14 rfl (pu_fieldAddr rfl) kr0 kr0 kr0 ?_
      first | refine d_fin0t 15 rfl kr0 kr0 (ef_store rfl rfl rfl) ?_ | refine d_fin0f 15 rfl kr0 kr0 (ef_store rfl rfl rfl) ?_
      refine d_sub _ (sc0 0 rfl .nil) ?_
      first | refine d_nilt kr0 ?_ | refine d_nilf kr0 ?_
      refine then_n ?_
      refine swp_sr ?_
      refine s_mv rfl ?_
      first | refine s_pu (pu_nilCheck rfl) ?_ | refine s_pu (pu_nilCheck_fn rfl) ?_ | refine s_pu (pu_nilCheck_if rfl) ?_
      first | refine s_pu (pu_fieldAddr0 rfl) ?_ | refine s_pu (pu_fieldAddr rfl) ?_
      refine s_rd (rd_load rfl rfl) ?_
      refine s_pu (pu_len rfl) ?_
      refine s_pu (pu_sub_as ((C.length : Nat) : Int) rfl rfl om0 om0 om0) ?_
      refine s_as rfl ?_
      refine s_as rfl ?_
      refine swl_sub _ (sc0 4 rfl (sc0 5 rfl .nil)) ?_
      refine swl_nn ?_
      refine swp_ret ?_
      refine done_ret [own 3 1 (.slice A3 c.1.length c3) c.1.length (c.1.flatMap (icsk .i64)), FSA q (writeD d (2, encC' c)).1, stH p ⟨q, .slice A1 T.length c1, .slice A45 (C.length + 1) c45, T, C ++ [(.slice A3 c.1.length c3, c)], false⟩, ttA ⟨q, .slice A1 T.length c1, .slice A2 C.length c2, T, C, dead⟩, own 25 2 (.slice A45 (C.length + 1) c45) (C.length + 1) (C.flatMap ccs ++ [.slice A3 c.1.length c3, .int .i64 c.2]), ro μ] (.tmp rfl (.tmp rfl .nil)) ⟨⟨q, .slice A1 T.length c1, .slice A45 (C.length + 1) c45, T, C ++ [(.slice A3 c.1.length c3, c)], false⟩, c.1.length, c.1.flatMap (icsk .i64), .slice A3 c.1.length c3, ⟨fun ν h hrow => SW.Ok.dead (Ok.addC h (Le.refl _) hrow h30') false, rfl, ?_, rfl, rfl⟩, ?_⟩ sp0
      ·unfold SW.pl; rw [List.map_append]; rfl
      ·simp only [ccA, List.length_append, List.length_singleton, List.flatMap_append]; rfl
end SX
namespace SX
open Go Go.Proofs
abbrev ownR (x : Value × List Int) : Assn := own 3 1 x.1 x.2.length (x.2.flatMap (icsk .i64))
/-- rows of the call's own -/
def rowsA (G : List (Value × List Int)) : Assn := exA fun _ : Unit => G.map ownR
theorem rows_nil {L : List Assn} : Ent L (rowsA [] :: L) := exA_close (F := fun _ : Unit => ([] : List (Value × List Int)).map ownR) ()
theorem rows_open {G : List (Value × List Int)} {L : List Assn} : Ent (rowsA G :: L) (G.map ownR ++ L) := fun m h => by
  obtain ⟨_, h⟩ := exA_open h
  exact h
theorem rows_close {G : List (Value × List Int)} {L : List Assn} : Ent (G.map ownR ++ L) (rowsA G :: L) := exA_close (F := fun _ : Unit => G.map ownR) ()
theorem rows_take {x : Value × List Int} {G : List (Value × List Int)} {L : List Assn} : Ent (rowsA (x :: G) :: L) (ownR x :: rowsA G :: L) := by
  refine rows_open.trans ?_
  refine Ent.trans ?_ (Ent.perm (List.Perm.swap (ownR x) (rowsA G) L))
  refine Ent.trans ?_ (rows_close (G := G))
  exact Ent.perm (List.perm_middle (l₁ := G.map ownR) (l₂ := L) (a := ownR x)).symm
theorem rows_snoc {x : Value × List Int} {G : List (Value × List Int)} {L : List Assn} : Ent (rowsA G :: ownR x :: L) (rowsA (G ++ [x]) :: L) := by
  refine rows_open.trans ?_
  refine Ent.trans ?_ rows_close
  rw [List.map_append, List.append_assoc]
  exact Ent.refl _
set_option maxHeartbeats 2000000 in
/-- Graph: all of it is the caller's own -/
theorem graphO_spec (p : Nat) (W : SW) (μ : PH) (hW : W.Ok μ) (hlt : ∀ x ∈ W.C, x.2.1.length ≤ 1048576) : Spec Tryz.prog 19 [pv p] [stH p W, ccA W, ro μ] (fun r L => ∃ G, nums G = parS W.pl ∧ L = [own 23 1 r G.length (G.flatMap gcs), rowsA G, stH p W, ccA W, ro μ]) := by
 have hW0 := hW
 obtain ⟨⟨A1, c1, e1⟩, ⟨A2, c2, e2⟩, htr, hcr, hT, hC⟩ := hW
 obtain ⟨q, tv, cv, T, C, dead⟩ := W
 dsimp only at e1 e2 htr hcr hT hC hlt
 subst e1 e2
 refine Spec.of 24 Tryz.func19 rfl rfl rfl ?_
 refine swp_sr ?_
 refine s_as rfl ?_
 refine swl_sub _ (sc0 0 rfl .nil) ?_
 refine swl_nn ?_
 refine swp_sr ?_
 refine s_as rfl ?_
 refine swl_sub _ (sc0 0 rfl (sc0 3 rfl .nil)) ?_
 refine swl_nn ?_
 refine swp_seq ?_
 refine swp_sr ?_
 refine s_mv rfl ?_
 refine s_ef (ef_fn (coms_spec p ⟨q, .slice A1 T.length c1, .slice A2 C.length c2, T, C, dead⟩ μ hW0) rfl rfl sp0) ?_
 rintro v6 L1 ⟨rfl, rfl⟩
 refine swl_app ?_
 refine s_mv rfl ?_
 refine swl_sub _ (sc0 0 rfl (sc0 3 rfl (sc0 6 rfl (sc0 7 rfl .nil)))) ?_
 refine swl_nn ?_
 refine swp_block ?_
 refine swp_ent (own_nil_ent (e := 23) (n := 1)) ?_
 refine swp_ent rows_nil ?_
 refine swp_loop (ι := Nat × Value × List (Value × List Int)) (fun k env L => Sub env [(0, pv p), (3, k.2.1), (6, .int .i64 (C.length : Nat)), (7, .int .i64 (k.1 : Nat))] ∧ Ent L [own 23 1 k.2.1 k.1 (k.2.2.flatMap gcs), rowsA k.2.2, stH p ⟨q, .slice A1 T.length c1, .slice A2 C.length c2, T, C, dead⟩, ccA ⟨q, .slice A1 T.length c1, .slice A2 C.length c2, T, C, dead⟩, ro μ] ∧ k.1 ≤ C.length ∧ nums k.2.2 = ((C.take k.1).map (·.2)).map (·.1)) (fun k => C.length - k.1) (0, .slice none 0 0, []) ⟨⟨rfl, rfl, rfl, rfl, trivial⟩, by show Ent _ [own 23 1 (.slice none 0 0) 0 [], rowsA [], stH p ⟨q, .slice A1 T.length c1, .slice A2 C.length c2, T, C, dead⟩, ccA ⟨q, .slice A1 T.length c1, .slice A2 C.length c2, T, C, dead⟩, ro μ]; exact Split.ent' sp0, Nat.zero_le _, rfl⟩ ?_
 rintro ⟨k, v3, Gk⟩ env L ⟨hsub, hE, hk, hnk⟩
 dsimp only at hsub hE hk hnk ⊢
 refine swp_sub _ hsub ?_
 refine swp_ent hE ?_
 clear hsub hE env L
 refine swp_sr ?_
 refine s_pu (pu_lss rfl rfl) ?_
 refine swl_sub _ (sc0 0 rfl (sc0 3 rfl (sc0 6 rfl (sc0 7 rfl (sc0 8 rfl .nil))))) ?_
 refine swl_nn ?_
 refine swp_seq ?_
 refine swp_cond (b := _) rfl (fun h8 => ?_) (fun h8 => ?_)
 ·skip
  have h8' : k < C.length := by have := of_decide_eq_true h8; omega
  obtain ⟨x, hx⟩ : ∃ x, C[k]? = some x := ⟨_, List.getElem?_eq_getElem h8'⟩
  have hxm := List.mem_of_getElem? hx
  have hxr := hcr x hxm
  have hx0 := (ccs_get hx).1
  refine swp_fact (fun m h => own_shape (e := 25) (n := 2) (v := .slice A2 C.length c2) (l := C.length) (xs := C.flatMap ccs) tk0 h) fun hs => ?_
  obtain ⟨b, hA2⟩ : ∃ b, A2 = some ⟨b, 0, none⟩ := by
   rcases hs with ⟨_, h⟩ | ⟨b, cap, h, _⟩
   ·omega
   ·injection h with h1; exact ⟨b, h1⟩
  rw [hA2]
  refine swp_skip ?_
  refine then_n ?_
  refine swp_seq ?_
  refine swp_block ?_
  refine swp_sr ?_
  refine s_mv rfl ?_
  refine s_as rfl ?_
  refine swl_sub _ (sc0 0 rfl (sc0 3 rfl (sc0 4 rfl (sc0 6 rfl (sc0 7 rfl .nil))))) ?_
  refine swl_nn ?_
  refine swp_region ?_
  refine s_mv rfl ?_
  refine s_mv rfl ?_
  first | refine s_pu (pu_nilCheck rfl) ?_ | refine s_pu (pu_nilCheck_fn rfl) ?_ | refine s_pu (pu_nilCheck_if rfl) ?_
  first | refine s_pu (pu_fieldAddr0 rfl) ?_ | refine s_pu (pu_fieldAddr rfl) ?_
  refine s_rd (rd_load rfl rfl) ?_
  refine s_mv rfl ?_
  refine s_pu (pu_indexAddr (0 + k * 2) rfl rfl om0 om0 (by rw [Int.toNat_natCast])) ?_
  first | refine s_pu (pu_fieldAddr0 rfl) ?_ | refine s_pu (pu_fieldAddr rfl) ?_
  refine s_rd (rd_of_ld rfl (by rw [Nat.zero_add]; exact ld_ownN (e := 25) (n := 2) tk0 hx0)) ?_
  refine s_ef (ef_fn (cloneI_spec μ x.1 x.2.1 hxr (hlt x hxm)) rfl rfl sp0) ?_
  rintro v19 L1 ⟨A3, c3, rfl, rfl⟩
  refine swl_app ?_
  refine s_ef (ef_bldS (qs := [(0, _)]) rfl rfl rfl) ?_
  intro b20
  refine s_ef (ef_append_lit (l := k) (m := 1) rfl rfl sp0 (by simp only [maxLen]; omega) om0) ?_
  rintro v21 -
  skip
  refine s_as rfl ?_
  refine swl_sub _ (sc0 0 rfl (sc0 3 rfl (sc0 6 rfl (sc0 7 rfl .nil)))) ?_
  rw [← hA2]
  refine swl_nil ?_
  refine block_n ?_
  refine then_n ?_
  refine swp_region ?_
  refine s_pu (pu_add_as ((k + 1 : Nat) : Int) rfl rfl om0 om0 om0) ?_
  refine s_mv rfl ?_
  refine swl_sub _ (sc0 0 rfl (sc0 3 rfl (sc0 6 rfl (sc0 7 rfl .nil)))) ?_
  refine swl_nil ?_
  refine then_n ⟨(k + 1, v21, Gk ++ [(.slice A3 x.2.1.length c3, x.2.1)]), ⟨⟨rfl, rfl, rfl, rfl, trivial⟩, ?_, h8', ?_⟩, by show C.length - (k + 1) < C.length - k; omega⟩
  ·show Ent _ [own 23 1 v21 (k + 1) ((Gk ++ [(Value.slice A3 x.2.1.length c3, x.2.1)]).flatMap gcs), rowsA (Gk ++ [(Value.slice A3 x.2.1.length c3, x.2.1)]), stH p ⟨q, .slice A1 T.length c1, .slice A2 C.length c2, T, C, dead⟩, ccA ⟨q, .slice A1 T.length c1, .slice A2 C.length c2, T, C, dead⟩, ro μ]
   rw [show (Gk ++ [(Value.slice A3 x.2.1.length c3, x.2.1)]).flatMap gcs = Gk.flatMap gcs ++ [Value.slice A3 x.2.1.length c3] by rw [List.flatMap_append]; rfl]
   refine (Split.ent' (K := [rowsA Gk, ownR (Value.slice A3 x.2.1.length c3, x.2.1), own 23 1 v21 (k + 1) (Gk.flatMap gcs ++ [Value.slice A3 x.2.1.length c3]), stH p ⟨q, .slice A1 T.length c1, .slice A2 C.length c2, T, C, dead⟩, ccA ⟨q, .slice A1 T.length c1, .slice A2 C.length c2, T, C, dead⟩, ro μ]) sp0).trans (rows_snoc.trans ?_)
   exact Ent.swap
  ·show List.map (·.2) (Gk ++ [((_ : Value), x.2.1)]) = ((C.take (k + 1)).map (·.2)).map (·.1)
   rw [List.map_append, List.take_add_one, hx, List.map_append, List.map_append, ← hnk]; rfl
 ·skip
  have h8' := of_decide_eq_false h8
  obtain rfl : k = C.length := by omega
  rw [List.take_length] at hnk
  refine swp_exit ?_
  refine then_x ?_
  refine then_x ?_
  refine block_hit rfl ?_
  refine then_n ?_
  refine swp_sr ?_
  refine s_mv rfl ?_
  refine s_as rfl ?_
  refine swl_sub _ (sc0 2 rfl .nil) ?_
  refine swl_nn ?_
  refine swp_ret ?_
  have hGl : C.length = Gk.length := by
   have := congrArg List.length hnk
   simp only [nums, List.length_map] at this
   exact this.symm
  exact done_ret [own 23 1 v3 C.length (Gk.flatMap gcs), rowsA Gk, stH p ⟨q, .slice A1 T.length c1, .slice A2 C.length c2, T, C, dead⟩, ccA ⟨q, .slice A1 T.length c1, .slice A2 C.length c2, T, C, dead⟩, ro μ] (.tmp rfl .nil) ⟨Gk, hnk, by rw [hGl]; rfl⟩ sp0
end SX
