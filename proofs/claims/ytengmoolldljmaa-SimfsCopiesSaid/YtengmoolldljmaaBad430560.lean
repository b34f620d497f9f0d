/- A part of the proof: walks of the program's functions, and the rules by which they go. -/
import Derived.Test.YtengmoolldljmaaB2fd29fe1
import Derived.Test.YtengmoolldljmaaBd6f8e813
namespace SX
open Go Go.Proofs
theorem rd_set {p : Nat} {d : Dk} {b c : Nat} {sv av wv : Value} {k : Nat} {f : Fl} {L : List Assn} :
    Ent (blk p 64 (rdC d.quota (.slice (some ⟨b, 0, none⟩) d.files.length c) sv av wv d.falls d.off) :: own 99 2 (.slice (some ⟨b, 0, none⟩) d.files.length c) d.files.length ((d.files.set k f).flatMap rF1) :: own 97 2 sv d.seen.length (d.seen.flatMap rN1) :: own 97 2 av d.safe.length (d.safe.flatMap rN1) :: own 95 3 wv d.pend.length (d.pend.flatMap rC1) :: L) (RDA p (d.setF k f) :: L) := by
  have e1 : (d.files.set k f).length = d.files.length := List.length_set
  have := rd_close (p := p) (L := L) (d := d.setF k f) (x := ⟨.slice (some ⟨b, 0, none⟩) d.files.length c, sv, av, wv⟩)
  rw [show (d.setF k f).files = d.files.set k f from rfl, e1] at this
  exact this
set_option maxHeartbeats 4000000 in
theorem rappend_spec (p : Nat) (d : Dk) (hd : d.Ok) (hw : Few d) (s t : ByteArray) (ht : t.size ≤ 140737488351232) : Spec Try.prog 55 [pv p, .string s, .string t] [RDA p d] (fun r L => r = .int .i64 (appendD d s t.data.toList).2 ∧ L = [RDA p (appendD d s t.data.toList).1]) := by
  refine RDA.open' fun ⟨fv, sv, av, wv⟩ => ?_
  have hff := hw.1
  have hul := Dk.used_le hd
  have hbt := bsize t
  have hq := hd.q
  refine Spec.of 55 Try.func55 rfl rfl rfl ?_
  refine swp_seq ?_
  refine swp_region ?_
  refine s_pu (pu_assign rfl) ?_
  refine swl_sub _ (.cons (t := 0) rfl (.cons (t := 1) rfl (.cons (t := 2) rfl .nil))) ?_
  refine swl_nil ?_
  refine then_n ?_
  refine swp_seq ?_
  refine swp_region ?_
  refine s_pu (pu_move rfl) ?_
  refine s_pu (pu_move rfl) ?_
  refine s_ef (ef_fn (rfile_spec p d hd ⟨fv, sv, av, wv⟩ s) rfl rfl (by repeat (first | exact Split.nil | (apply Split.cons; (repeat (first | with_reducible exact Take.here | apply Take.there)))))) ?_
  rintro v12 L1 ⟨⟨k, e, rfl, hR⟩, rfl⟩
  refine swl_app ?_
  refine s_pu (pu_move rfl) ?_
  first | refine s_pu (pu_extractL rfl) ?_ | refine s_pu (pu_extract rfl rfl) ?_
  first | refine s_pu (pu_extractL rfl) ?_ | refine s_pu (pu_extract rfl rfl) ?_
  refine s_pu (pu_assign rfl) ?_
  refine s_pu (pu_assign rfl) ?_
  refine swl_sub _ (.cons (t := 0) rfl (.cons (t := 2) rfl (.cons (t := 7) rfl (.cons (t := 8) rfl .nil)))) ?_
  refine swl_nil ?_
  refine then_n ?_
  refine swp_seq ?_
  refine swp_seq ?_
  refine swp_region ?_
  refine s_pu (pu_move rfl) ?_
  refine s_pu (pu_neq rfl rfl) ?_
  refine swl_sub _ (.cons (t := 0) rfl (.cons (t := 2) rfl (.cons (t := 7) rfl (.cons (t := 8) rfl (.cons (t := 16) rfl .nil))))) ?_
  refine swl_nil ?_
  refine then_n ?_
  refine swp_cond (b := _) rfl (fun h16 => ?_) (fun h16 => ?_)
  · skip   -- 16 T
    refine swp_seq ?_
    refine swp_region ?_
    refine s_pu (pu_move rfl) ?_
    refine s_pu (pu_assign rfl) ?_
    refine swl_sub _ (.cons (t := 6) rfl .nil) ?_
    refine swl_nil ?_
    refine then_n ?_
    refine swp_ret ?_
    refine then_r ?_
    unfold appendD
    rw [(hR.err (by simpa using h16)).2]
    exact done_retE [RDA p d] (.tmp rfl .nil) ⟨rfl, rfl⟩ ((Split.ent' (K := [blk p 64 (rdC d.quota fv sv av wv d.falls d.off), own 99 2 fv d.files.length (d.files.flatMap rF1), own 97 2 sv d.seen.length (d.seen.flatMap rN1), own 97 2 av d.safe.length (d.safe.flatMap rN1), own 95 3 wv d.pend.length (d.pend.flatMap rC1)]) (by repeat (first | exact Split.nil | (apply Split.cons; (repeat (first | with_reducible exact Take.here | apply Take.there)))))).trans (rd_close (x := ⟨fv, sv, av, wv⟩)))
  · skip   -- 16 F
    obtain ⟨j, rfl, hf, _, hon⟩ := hR.ok (by simpa using h16)
    have hj := file_lt hd hf
    have hlen := (Dk.fl_ok hd j).1
    simp only [mostF] at hlen
    refine swp_ent (Split.ent' (K := [own 99 2 fv d.files.length (d.files.flatMap rF1), blk p 64 (rdC d.quota fv sv av wv d.falls d.off), own 97 2 sv d.seen.length (d.seen.flatMap rN1), own 97 2 av d.safe.length (d.safe.flatMap rN1), own 95 3 wv d.pend.length (d.pend.flatMap rC1)]) (by repeat (first | exact Split.nil | (apply Split.cons; (repeat (first | with_reducible exact Take.here | apply Take.there)))))) ?_
    refine swp_fact (fun m h => own_pos h (by omega)) fun ⟨b, c, hfv, hlc, hcm⟩ => ?_
    have hcell := flat_at (f := rF1) (n := 2) (fun _ => rfl) (fl_at hj) 0 _ rfl
    have hst := set_bytes (fl_at hj)
    have hfl : (d.files.flatMap rF1).length = d.files.length * 2 := flat_length (f := rF1) (k := 2) (fun _ => rfl) _
    refine swp_skip ?_
    refine then_n ?_
    refine swp_cut (fun env L => Sub env [(0, pv p), (2, .string t), (7, .int .i64 (j : Nat))] ∧ Ent L [blk p 64 (rdC d.quota fv sv av wv d.falls d.off), own 99 2 fv d.files.length (d.files.flatMap rF1), own 97 2 sv d.seen.length (d.seen.flatMap rN1), own 97 2 av d.safe.length (d.safe.flatMap rN1), own 95 3 wv d.pend.length (d.pend.flatMap rC1)] ∧ ¬ (0 < t.data.toList.length ∧ d.quota < (d.used : Int) + t.data.toList.length)) ?_ ?_
    · skip
      refine swp_seq ?_
      refine swp_draw [12] ([blk p 64 (rdC d.quota fv sv av wv d.falls d.off)]) ([own 99 2 fv d.files.length (d.files.flatMap rF1), own 97 2 sv d.seen.length (d.seen.flatMap rN1), own 97 2 av d.safe.length (d.safe.flatMap rN1), own 95 3 wv d.pend.length (d.pend.flatMap rC1)]) (Split.ent (by repeat (first | exact Split.nil | (apply Split.cons; (repeat (first | with_reducible exact Take.here | apply Take.there)))))) (by kernel_rfl) ?_
      refine d_pu 0 rfl (pu_move rfl) (by kernel_rfl) (by kernel_rfl) (by kernel_rfl) ?_
      refine d_pu 1 rfl (pu_strlen rfl) (by kernel_rfl) (by kernel_rfl) (by kernel_rfl) ?_
      refine d_pu 2 rfl (pu_gtr rfl rfl) (by kernel_rfl) (by kernel_rfl) (by kernel_rfl) ?_
      refine d_pu 3 rfl (pu_move rfl) (by kernel_rfl) (by kernel_rfl) (by kernel_rfl) ?_
      refine d_split 21 rfl (fun h21 => ?_) (fun h21 => ?_)
      · skip   -- 21 T
        refine d_pu_on 4 rfl rfl rfl (pu_move rfl) (by kernel_rfl) (by kernel_rfl) (by kernel_rfl) ?_
        refine d_pu_on 6 rfl rfl rfl (pu_move rfl) (by kernel_rfl) (by kernel_rfl) (by kernel_rfl) ?_
        refine d_pu_on 7 rfl rfl rfl (pu_strlen rfl) (by kernel_rfl) (by kernel_rfl) (by kernel_rfl) ?_
        refine d_pu_on 9 rfl rfl rfl (pu_move rfl) (by kernel_rfl) (by kernel_rfl) (by kernel_rfl) ?_
        first | refine d_pu_on 10 rfl rfl rfl (pu_nilCheck rfl) (by kernel_rfl) (by kernel_rfl) (by kernel_rfl) ?_ | refine d_pu_on 10 rfl rfl rfl (pu_nilCheck_fn rfl) (by kernel_rfl) (by kernel_rfl) (by kernel_rfl) ?_ | refine d_pu_on 10 rfl rfl rfl (pu_nilCheck_if rfl) (by kernel_rfl) (by kernel_rfl) (by kernel_rfl) ?_
        first | refine d_pu_on 11 rfl rfl rfl (pu_fieldAddr0 rfl) (by kernel_rfl) (by kernel_rfl) (by kernel_rfl) ?_ | refine d_pu_on 11 rfl rfl rfl (pu_fieldAddr rfl) (by kernel_rfl) (by kernel_rfl) (by kernel_rfl) ?_
        refine d_rd_on 12 rfl rfl rfl (rd_load rfl rfl) rfl (by kernel_rfl) (by kernel_rfl) (by kernel_rfl) ?_
        refine d_amb [5] (by kernel_rfl) rfl ?_
        refine dA_ef 5 rfl (GOn.some rfl rfl) (ef_fn (rused_spec p d hd hw fv sv av wv) rfl rfl (by repeat (first | exact Split.nil | (apply Split.cons; (repeat (first | with_reducible exact Take.here | apply Take.there)))))) ?_
        rintro v23 L1 ⟨rfl, rfl⟩
        refine ⟨_, ent_appC (Split.ent (by repeat (first | exact Split.nil | (apply Split.cons; (repeat (first | with_reducible exact Take.here | apply Take.there)))))), ?_⟩
        refine d_pu_on 8 rfl rfl rfl (pu_add_as ((d.used + t.size : Nat) : Int) rfl rfl (by omega) (by omega) (by omega)) (by kernel_rfl) (by kernel_rfl) (by kernel_rfl) ?_
        refine d_pu_on 13 rfl rfl rfl (pu_gtr rfl rfl) (by kernel_rfl) (by kernel_rfl) (by kernel_rfl) ?_
        first | refine d_pu 14 rfl (pu_pick_t rfl rfl) (by kernel_rfl) (by kernel_rfl) (by kernel_rfl) ?_ | refine d_pu 14 rfl (pu_pick_f rfl rfl) (by kernel_rfl) (by kernel_rfl) (by kernel_rfl) ?_
        refine d_sub _ (.cons (t := 0) rfl (.cons (t := 2) rfl (.cons (t := 7) rfl (.cons (t := 32) rfl .nil)))) ?_
        first | refine d_nilt (by kernel_rfl) ?_ | refine d_nilf (by kernel_rfl) ?_
        refine then_n ?_
        refine swp_cond (b := _) rfl (fun h32 => ?_) (fun h32 => ?_)
        · skip   -- 32 T
          refine swp_seq ?_
          refine swp_region ?_
          refine s_pu (pu_assign rfl) ?_
          refine swl_sub _ (.cons (t := 6) rfl .nil) ?_
          refine swl_nil ?_
          refine then_n ?_
          refine swp_ret ?_
          refine then_r ?_
          have h21' := of_decide_eq_true h21
          have h32' := of_decide_eq_true h32
          have key : appendD d s t.data.toList = (d, 7) := by unfold appendD; rw [hon, if_pos (by rw [hbt]; exact ⟨by omega, by omega⟩)]
          rw [key]
          exact done_retE [RDA p d] (.tmp rfl .nil) ⟨rfl, rfl⟩ ((Split.ent' (K := [blk p 64 (rdC d.quota fv sv av wv d.falls d.off), own 99 2 fv d.files.length (d.files.flatMap rF1), own 97 2 sv d.seen.length (d.seen.flatMap rN1), own 97 2 av d.safe.length (d.safe.flatMap rN1), own 95 3 wv d.pend.length (d.pend.flatMap rC1)]) (by repeat (first | exact Split.nil | (apply Split.cons; (repeat (first | with_reducible exact Take.here | apply Take.there)))))).trans (rd_close (x := ⟨fv, sv, av, wv⟩)))
        · skip   -- 32 F
          refine swp_skip ?_
          refine then_n ⟨⟨rfl, rfl, rfl, trivial⟩, Split.ent' (by repeat (first | exact Split.nil | (apply Split.cons; (repeat (first | with_reducible exact Take.here | apply Take.there))))), ?_⟩
          rw [hbt]
          first
            | (have h32' := of_decide_eq_false h32; rintro ⟨_, h2⟩; omega)
            | (have h21' := of_decide_eq_false h21; rintro ⟨h1, _⟩; omega)
      · skip   -- 21 F
        refine d_off 4 rfl rfl rfl rfl (by kernel_rfl) (by kernel_rfl) (by kernel_rfl) ?_
        refine d_off 5 rfl rfl rfl rfl (by kernel_rfl) (by kernel_rfl) (by kernel_rfl) ?_
        refine d_off 6 rfl rfl rfl rfl (by kernel_rfl) (by kernel_rfl) (by kernel_rfl) ?_
        refine d_off 7 rfl rfl rfl rfl (by kernel_rfl) (by kernel_rfl) (by kernel_rfl) ?_
        refine d_off 8 rfl rfl rfl rfl (by kernel_rfl) (by kernel_rfl) (by kernel_rfl) ?_
        refine d_off 9 rfl rfl rfl rfl (by kernel_rfl) (by kernel_rfl) (by kernel_rfl) ?_
        refine d_off 10 rfl rfl rfl rfl (by kernel_rfl) (by kernel_rfl) (by kernel_rfl) ?_
        refine d_off 11 rfl rfl rfl rfl (by kernel_rfl) (by kernel_rfl) (by kernel_rfl) ?_
        refine d_off 12 rfl rfl rfl rfl (by kernel_rfl) (by kernel_rfl) (by kernel_rfl) ?_
        refine d_off 13 rfl rfl rfl rfl (by kernel_rfl) (by kernel_rfl) (by kernel_rfl) ?_
        first | refine d_pu 14 rfl (pu_pick_t rfl rfl) (by kernel_rfl) (by kernel_rfl) (by kernel_rfl) ?_ | refine d_pu 14 rfl (pu_pick_f rfl rfl) (by kernel_rfl) (by kernel_rfl) (by kernel_rfl) ?_
        refine d_sub _ (.cons (t := 0) rfl (.cons (t := 2) rfl (.cons (t := 7) rfl (.cons (t := 32) rfl .nil)))) ?_
        first | refine d_nilt (by kernel_rfl) ?_ | refine d_nilf (by kernel_rfl) ?_
        refine then_n ?_
        refine swp_cond (b := _) rfl (fun h32 => by cases h32) (fun h32 => ?_)
        refine swp_skip ?_
        refine then_n ⟨⟨rfl, rfl, rfl, trivial⟩, Split.ent' (by repeat (first | exact Split.nil | (apply Split.cons; (repeat (first | with_reducible exact Take.here | apply Take.there))))), ?_⟩
        rw [hbt]
        first
          | (have h32' := of_decide_eq_false h32; rintro ⟨_, h2⟩; omega)
          | (have h21' := of_decide_eq_false h21; rintro ⟨h1, _⟩; omega)
    rintro env L ⟨hsub, hE, h1⟩
    refine swp_sub _ hsub ?_
    refine swp_ent hE ?_
    clear hsub hE env L
    have h1' := h1
    rw [hbt] at h1'
    refine swp_seq ?_
    refine swp_region ?_
    refine s_pu (pu_move rfl) ?_
    refine s_ef (ef_fn (rstep' p d.quota fv sv av wv d.falls d.off hd.falls) rfl rfl (by repeat (first | exact Split.nil | (apply Split.cons; (repeat (first | with_reducible exact Take.here | apply Take.there)))))) ?_
    rintro v34 L1 ⟨rfl, rfl⟩
    refine swl_app ?_
    refine s_pu (pu_assign rfl) ?_
    refine swl_sub _ (.cons (t := 0) rfl (.cons (t := 2) rfl (.cons (t := 7) rfl (.cons (t := 8) rfl .nil)))) ?_
    refine swl_nil ?_
    refine then_n ?_
    refine swp_seq ?_
    refine swp_seq ?_
    refine swp_region ?_
    refine s_pu (pu_move rfl) ?_
    refine s_pu (pu_eql rfl rfl) ?_
    refine swl_sub _ (.cons (t := 0) rfl (.cons (t := 2) rfl (.cons (t := 7) rfl (.cons (t := 8) rfl (.cons (t := 36) rfl .nil))))) ?_
    refine swl_nil ?_
    refine then_n ?_
    refine swp_cond (b := _) rfl (fun h36 => ?_) (fun h36 => ?_)
    · skip   -- 36 T
      have hfn : d.falls ≠ 1 := sE_f (of_decide_eq_true h36)
      rw [(st_n (off := d.off) hfn).1, (st_n hfn).2]
      have key : appendD d s t.data.toList = ((fa1 d).setF j ⟨(d.fl j).bytes ++ t.data.toList, (d.fl j).safe⟩, 0) := by unfold appendD; rw [hon, if_neg h1]; exact atStep_n hfn _
      subst hfv
      refine swp_draw [3, 8, 12] _ [] (by simp only [List.append_nil]; exact Ent.refl _) (by kernel_rfl) ?_
      refine d_pu 0 rfl (pu_move rfl) (by kernel_rfl) (by kernel_rfl) (by kernel_rfl) ?_
      first | refine d_pu 1 rfl (pu_nilCheck rfl) (by kernel_rfl) (by kernel_rfl) (by kernel_rfl) ?_ | refine d_pu 1 rfl (pu_nilCheck_fn rfl) (by kernel_rfl) (by kernel_rfl) (by kernel_rfl) ?_ | refine d_pu 1 rfl (pu_nilCheck_if rfl) (by kernel_rfl) (by kernel_rfl) (by kernel_rfl) ?_
      first | refine d_pu 2 rfl (pu_fieldAddr0 rfl) (by kernel_rfl) (by kernel_rfl) (by kernel_rfl) ?_ | refine d_pu 2 rfl (pu_fieldAddr rfl) (by kernel_rfl) (by kernel_rfl) (by kernel_rfl) ?_
      refine d_rd 3 rfl (rd_load rfl rfl) rfl (by kernel_rfl) (by kernel_rfl) (by kernel_rfl) ?_
      refine d_pu 4 rfl (pu_move rfl) (by kernel_rfl) (by kernel_rfl) (by kernel_rfl) ?_
      refine d_pu 5 rfl (pu_move rfl) (by kernel_rfl) (by kernel_rfl) (by kernel_rfl) ?_
      first | refine d_pu 6 rfl (pu_nilCheck rfl) (by kernel_rfl) (by kernel_rfl) (by kernel_rfl) ?_ | refine d_pu 6 rfl (pu_nilCheck_fn rfl) (by kernel_rfl) (by kernel_rfl) (by kernel_rfl) ?_ | refine d_pu 6 rfl (pu_nilCheck_if rfl) (by kernel_rfl) (by kernel_rfl) (by kernel_rfl) ?_
      first | refine d_pu 7 rfl (pu_fieldAddr0 rfl) (by kernel_rfl) (by kernel_rfl) (by kernel_rfl) ?_ | refine d_pu 7 rfl (pu_fieldAddr rfl) (by kernel_rfl) (by kernel_rfl) (by kernel_rfl) ?_
      refine d_rd 8 rfl (rd_load rfl rfl) rfl (by kernel_rfl) (by kernel_rfl) (by kernel_rfl) ?_
      refine d_pu 9 rfl (pu_move rfl) (by kernel_rfl) (by kernel_rfl) (by kernel_rfl) ?_
      refine d_pu 10 rfl (pu_indexAddr (0 + j * 2) rfl rfl (by omega) (by omega) (by rw [Int.toNat_natCast])) (by kernel_rfl) (by kernel_rfl) (by kernel_rfl) ?_
      first | refine d_pu 11 rfl (pu_fieldAddr0 rfl) (by kernel_rfl) (by kernel_rfl) (by kernel_rfl) ?_ | refine d_pu 11 rfl (pu_fieldAddr rfl) (by kernel_rfl) (by kernel_rfl) (by kernel_rfl) ?_
      refine d_rd 12 rfl (rd_own rfl (by repeat (first | with_reducible exact Take.here | apply Take.there)) (by rw [Nat.zero_add]; exact hcell)) rfl (by kernel_rfl) (by kernel_rfl) (by kernel_rfl) ?_
      refine d_pu 13 rfl (pu_move rfl) (by kernel_rfl) (by kernel_rfl) (by kernel_rfl) ?_
      refine d_pu 14 rfl (pu_str_add rfl rfl (by rw [tsize]; omega)) (by kernel_rfl) (by kernel_rfl) (by kernel_rfl) ?_
      refine d_pu 15 rfl (pu_indexAddr (0 + j * 2) rfl rfl (by omega) (by omega) (by rw [Int.toNat_natCast])) (by kernel_rfl) (by kernel_rfl) (by kernel_rfl) ?_
      first | refine d_pu 16 rfl (pu_fieldAddr0 rfl) (by kernel_rfl) (by kernel_rfl) (by kernel_rfl) ?_ | refine d_pu 16 rfl (pu_fieldAddr rfl) (by kernel_rfl) (by kernel_rfl) (by kernel_rfl) ?_
      first | refine d_fin0t 17 rfl (by kernel_rfl) (by kernel_rfl) (ef_store_own rfl rfl (by repeat (first | exact Split.nil | (apply Split.cons; (repeat (first | with_reducible exact Take.here | apply Take.there))))) (by rw [hfl]; omega) rfl) ?_ | refine d_fin0f 17 rfl (by kernel_rfl) (by kernel_rfl) (ef_store_own rfl rfl (by repeat (first | exact Split.nil | (apply Split.cons; (repeat (first | with_reducible exact Take.here | apply Take.there))))) (by rw [hfl]; omega) rfl) ?_
      refine d_sub _ (.cons (t := 8) rfl .nil) ?_
      first | refine d_nilt (by kernel_rfl) ?_ | refine d_nilf (by kernel_rfl) ?_
      refine then_n ?_
      refine swp_seq ?_
      refine swp_region ?_
      refine s_pu (pu_move rfl) ?_
      refine s_pu (pu_assign rfl) ?_
      refine swl_sub _ (.cons (t := 6) rfl .nil) ?_
      refine swl_nil ?_
      refine then_n ?_
      refine swp_ret ?_
      have hE : sE d.falls = 0 := sE_n hfn
      rw [key, hE]
      refine done_retE [RDA p ((fa1 d).setF j ⟨(d.fl j).bytes ++ t.data.toList, (d.fl j).safe⟩)] (.tmp rfl .nil) ⟨rfl, rfl⟩ ?_
      rw [str_app, hst]
      exact Ent.trans (Split.ent' (K := [blk p 64 (rdC d.quota (.slice (some ⟨b, 0, none⟩) d.files.length c) sv av wv (if 0 < d.falls then d.falls - 1 else d.falls) d.off), own 99 2 (.slice (some ⟨b, 0, none⟩) d.files.length c) d.files.length ((d.files.set j ⟨(d.fl j).bytes ++ t.data.toList, (d.fl j).safe⟩).flatMap rF1), own 97 2 sv d.seen.length (d.seen.flatMap rN1), own 97 2 av d.safe.length (d.safe.flatMap rN1), own 95 3 wv d.pend.length (d.pend.flatMap rC1)]) (by repeat (first | exact Split.nil | (apply Split.cons; (repeat (first | with_reducible exact Take.here | apply Take.there)))))) (rd_set (d := fa1 d))
    · skip   -- 36 F
      refine swp_skip ?_
      refine then_n ?_
      refine swp_seq ?_
      refine swp_region ?_
      refine s_pu (pu_move rfl) ?_
      refine s_pu (pu_assign rfl) ?_
      refine swl_sub _ (.cons (t := 6) rfl .nil) ?_
      refine swl_nil ?_
      refine then_n ?_
      refine swp_ret ?_
      have hf1 : d.falls = 1 := sE_t (of_decide_eq_false h36)
      have key : appendD d s t.data.toList = (fa0 d, 8) := by unfold appendD; rw [hon, if_neg h1]; exact atStep_1 hf1 _
      rw [key, sE_1 hf1, (st_1 (off := d.off) hf1).1, (st_1 hf1).2]
      exact done_retE [RDA p (fa0 d)] (.tmp rfl .nil) ⟨rfl, rfl⟩ ((Split.ent' (K := [blk p 64 (rdC d.quota fv sv av wv 0 true), own 99 2 fv d.files.length (d.files.flatMap rF1), own 97 2 sv d.seen.length (d.seen.flatMap rN1), own 97 2 av d.safe.length (d.safe.flatMap rN1), own 95 3 wv d.pend.length (d.pend.flatMap rC1)]) (by repeat (first | exact Split.nil | (apply Split.cons; (repeat (first | with_reducible exact Take.here | apply Take.there)))))).trans (rd_close (d := fa0 d) (x := ⟨fv, sv, av, wv⟩)))
theorem ext_take' (l : List UInt8) (n : Nat) : (⟨l.toArray⟩ : ByteArray).extract 0 n = ⟨(l.take n).toArray⟩ := by
  apply ByteArray.ext
  rw [ByteArray.data_extract]
  apply Array.toList_inj.1
  simp
theorem ext_drop' (l : List UInt8) (n : Nat) : (⟨l.toArray⟩ : ByteArray).extract n l.length = ⟨(l.drop n).toArray⟩ := by
  apply ByteArray.ext
  rw [ByteArray.data_extract]
  apply Array.toList_inj.1
  rw [Array.toList_extract, List.extract_eq_take_drop]
  exact List.take_of_length_le (by rw [List.length_drop]; exact Nat.le_refl _)
theorem set_get {l : List Fl} {k : Nat} (h : k < l.length) (f : Fl) : (l.set k f)[k]? = some f := List.getElem?_set_self h
set_option maxHeartbeats 4000000 in
theorem rcut_spec (p : Nat) (d : Dk) (hd : d.Ok) (hw : Few d) (s : ByteArray) (n : Int) : Spec Try.prog 47 [pv p, .string s, .int .i64 n] [RDA p d] (fun r L => r = .int .i64 (cutD d s n).2 ∧ L = [RDA p (cutD d s n).1]) := by
  refine RDA.open' fun ⟨fv, sv, av, wv⟩ => ?_
  have hff := hw.1
  refine Spec.of 72 Try.func47 rfl rfl rfl ?_
  refine swp_seq ?_
  refine swp_region ?_
  refine s_pu (pu_assign rfl) ?_
  refine swl_sub _ (.cons (t := 0) rfl (.cons (t := 1) rfl (.cons (t := 2) rfl .nil))) ?_
  refine swl_nil ?_
  refine then_n ?_
  refine swp_seq ?_
  refine swp_region ?_
  refine s_pu (pu_move rfl) ?_
  refine s_pu (pu_move rfl) ?_
  refine s_ef (ef_fn (rfile_spec p d hd ⟨fv, sv, av, wv⟩ s) rfl rfl (by repeat (first | exact Split.nil | (apply Split.cons; (repeat (first | with_reducible exact Take.here | apply Take.there)))))) ?_
  rintro v12 L1 ⟨⟨k, e, rfl, hR⟩, rfl⟩
  refine swl_app ?_
  refine s_pu (pu_move rfl) ?_
  first | refine s_pu (pu_extractL rfl) ?_ | refine s_pu (pu_extract rfl rfl) ?_
  first | refine s_pu (pu_extractL rfl) ?_ | refine s_pu (pu_extract rfl rfl) ?_
  refine s_pu (pu_assign rfl) ?_
  refine s_pu (pu_assign rfl) ?_
  refine swl_sub _ (.cons (t := 0) rfl (.cons (t := 2) rfl (.cons (t := 7) rfl (.cons (t := 8) rfl .nil)))) ?_
  refine swl_nil ?_
  refine then_n ?_
  refine swp_seq ?_
  refine swp_seq ?_
  refine swp_region ?_
  refine s_pu (pu_move rfl) ?_
  refine s_pu (pu_neq rfl rfl) ?_
  refine swl_sub _ (.cons (t := 0) rfl (.cons (t := 2) rfl (.cons (t := 7) rfl (.cons (t := 8) rfl (.cons (t := 16) rfl .nil))))) ?_
  refine swl_nil ?_
  refine then_n ?_
  refine swp_cond (b := _) rfl (fun h16 => ?_) (fun h16 => ?_)
  · skip   -- 16 T
    refine swp_seq ?_
    refine swp_region ?_
    refine s_pu (pu_move rfl) ?_
    refine s_pu (pu_assign rfl) ?_
    refine swl_sub _ (.cons (t := 6) rfl .nil) ?_
    refine swl_nil ?_
    refine then_n ?_
    refine swp_ret ?_
    refine then_r ?_
    unfold cutD
    rw [(hR.err (by simpa using h16)).2]
    exact done_retE [RDA p d] (.tmp rfl .nil) ⟨rfl, rfl⟩ ((Split.ent' (K := [blk p 64 (rdC d.quota fv sv av wv d.falls d.off), own 99 2 fv d.files.length (d.files.flatMap rF1), own 97 2 sv d.seen.length (d.seen.flatMap rN1), own 97 2 av d.safe.length (d.safe.flatMap rN1), own 95 3 wv d.pend.length (d.pend.flatMap rC1)]) (by repeat (first | exact Split.nil | (apply Split.cons; (repeat (first | with_reducible exact Take.here | apply Take.there)))))).trans (rd_close (x := ⟨fv, sv, av, wv⟩)))
  · skip   -- 16 F
    obtain ⟨j, rfl, hf, _, hon⟩ := hR.ok (by simpa using h16)
    have hj := file_lt hd hf
    have hlen := (Dk.fl_ok hd j).1
    simp only [mostF] at hlen
    refine swp_ent (Split.ent' (K := [own 99 2 fv d.files.length (d.files.flatMap rF1), blk p 64 (rdC d.quota fv sv av wv d.falls d.off), own 97 2 sv d.seen.length (d.seen.flatMap rN1), own 97 2 av d.safe.length (d.safe.flatMap rN1), own 95 3 wv d.pend.length (d.pend.flatMap rC1)]) (by repeat (first | exact Split.nil | (apply Split.cons; (repeat (first | with_reducible exact Take.here | apply Take.there)))))) ?_
    refine swp_fact (fun m h => own_pos h (by omega)) fun ⟨b, c, hfv, hlc, hcm⟩ => ?_
    subst hfv
    have hcell := flat_at (f := rF1) (n := 2) (fun _ => rfl) (fl_at hj) 0 _ rfl
    have hst := set_bytes (fl_at hj)
    have hfl : (d.files.flatMap rF1).length = d.files.length * 2 := flat_length (f := rF1) (k := 2) (fun _ => rfl) _
    refine swp_skip ?_
    refine then_n ?_
    refine swp_cut (fun env L => Sub env [(0, pv p), (2, .int .i64 n), (7, .int .i64 (j : Nat))] ∧ Ent L [blk p 64 (rdC d.quota (.slice (some ⟨b, 0, none⟩) d.files.length c) sv av wv d.falls d.off), own 99 2 (.slice (some ⟨b, 0, none⟩) d.files.length c) d.files.length (d.files.flatMap rF1), own 97 2 sv d.seen.length (d.seen.flatMap rN1), own 97 2 av d.safe.length (d.safe.flatMap rN1), own 95 3 wv d.pend.length (d.pend.flatMap rC1)] ∧ 0 ≤ n ∧ n ≤ (d.fl j).bytes.length) ?_ ?_
    · skip
      refine swp_seq ?_
      refine swp_region ?_
      refine s_pu (pu_move rfl) ?_
      refine s_pu (pu_lss rfl rfl) ?_
      refine s_pu (pu_move rfl) ?_
      refine s_split 20 rfl (fun h20 => ?_) (fun h20 => ?_)
      · skip   -- 20 T
        refine s_off rfl rfl rfl ?_
        refine s_off rfl rfl rfl ?_
        refine s_off rfl rfl rfl ?_
        refine s_off rfl rfl rfl ?_
        refine s_off rfl rfl rfl ?_
        refine s_off rfl rfl rfl ?_
        refine s_off rfl rfl rfl ?_
        refine s_off rfl rfl rfl ?_
        refine s_off rfl rfl rfl ?_
        refine s_off rfl rfl rfl ?_
        refine s_off rfl rfl rfl ?_
        first | refine s_pu (pu_pick_t rfl rfl) ?_ | refine s_pu (pu_pick_f rfl rfl) ?_
        refine swl_sub _ (.cons (t := 0) rfl (.cons (t := 2) rfl (.cons (t := 7) rfl (.cons (t := 32) rfl .nil)))) ?_
        refine swl_nil ?_
        refine then_n ?_
        refine swp_cond (b := _) rfl (fun h32 => ?_) (fun h32 => by cases h32)
        refine swp_seq ?_
        refine swp_region ?_
        refine s_pu (pu_assign rfl) ?_
        refine swl_sub _ (.cons (t := 6) rfl .nil) ?_
        refine swl_nil ?_
        refine then_n ?_
        refine swp_ret ?_
        refine then_r ?_
        have h20' := of_decide_eq_true h20
        have key : cutD d s n = (d, 1) := by unfold cutD; rw [hon, if_pos (.inl (by omega))]
        rw [key]
        exact done_retE [RDA p d] (.tmp rfl .nil) ⟨rfl, rfl⟩ ((Split.ent' (K := [blk p 64 (rdC d.quota (.slice (some ⟨b, 0, none⟩) d.files.length c) sv av wv d.falls d.off), own 99 2 (.slice (some ⟨b, 0, none⟩) d.files.length c) d.files.length (d.files.flatMap rF1), own 97 2 sv d.seen.length (d.seen.flatMap rN1), own 97 2 av d.safe.length (d.safe.flatMap rN1), own 95 3 wv d.pend.length (d.pend.flatMap rC1)]) (by repeat (first | exact Split.nil | (apply Split.cons; (repeat (first | with_reducible exact Take.here | apply Take.there)))))).trans (rd_close (x := ⟨.slice (some ⟨b, 0, none⟩) d.files.length c, sv, av, wv⟩)))
      · skip   -- 20 F
        refine s_on rfl rfl ?_
        refine s_pu (pu_move rfl) ?_
        refine s_on rfl rfl ?_
        refine s_pu (pu_move rfl) ?_
        refine s_on rfl rfl ?_
        first | refine s_pu (pu_nilCheck rfl) ?_ | refine s_pu (pu_nilCheck_fn rfl) ?_ | refine s_pu (pu_nilCheck_if rfl) ?_
        refine s_on rfl rfl ?_
        first | refine s_pu (pu_fieldAddr0 rfl) ?_ | refine s_pu (pu_fieldAddr rfl) ?_
        refine s_on rfl rfl ?_
        refine s_rd (rd_load rfl rfl) ?_
        refine s_on rfl rfl ?_
        refine s_pu (pu_move rfl) ?_
        refine s_on rfl rfl ?_
        refine s_pu (pu_indexAddr (0 + j * 2) rfl rfl (by omega) (by omega) (by rw [Int.toNat_natCast])) ?_
        refine s_on rfl rfl ?_
        first | refine s_pu (pu_fieldAddr0 rfl) ?_ | refine s_pu (pu_fieldAddr rfl) ?_
        refine s_on rfl rfl ?_
        refine s_rd (rd_own rfl (by repeat (first | with_reducible exact Take.here | apply Take.there)) (by rw [Nat.zero_add]; exact hcell)) ?_
        refine s_on rfl rfl ?_
        refine s_pu (pu_strlen rfl) ?_
        refine s_on rfl rfl ?_
        refine s_pu (pu_gtr rfl rfl) ?_
        first | refine s_pu (pu_pick_t rfl rfl) ?_ | refine s_pu (pu_pick_f rfl rfl) ?_
        refine swl_sub _ (.cons (t := 0) rfl (.cons (t := 2) rfl (.cons (t := 7) rfl (.cons (t := 32) rfl .nil)))) ?_
        refine swl_nil ?_
        refine then_n ?_
        refine swp_cond (b := _) rfl (fun h32 => ?_) (fun h32 => ?_)
        · skip   -- 32 T
          refine swp_seq ?_
          refine swp_region ?_
          refine s_pu (pu_assign rfl) ?_
          refine swl_sub _ (.cons (t := 6) rfl .nil) ?_
          refine swl_nil ?_
          refine then_n ?_
          refine swp_ret ?_
          refine then_r ?_
          have h32' := of_decide_eq_true h32
          rw [tsize] at h32'
          have key : cutD d s n = (d, 1) := by unfold cutD; rw [hon, if_pos (.inr h32')]
          rw [key]
          exact done_retE [RDA p d] (.tmp rfl .nil) ⟨rfl, rfl⟩ ((Split.ent' (K := [blk p 64 (rdC d.quota (.slice (some ⟨b, 0, none⟩) d.files.length c) sv av wv d.falls d.off), own 99 2 (.slice (some ⟨b, 0, none⟩) d.files.length c) d.files.length (d.files.flatMap rF1), own 97 2 sv d.seen.length (d.seen.flatMap rN1), own 97 2 av d.safe.length (d.safe.flatMap rN1), own 95 3 wv d.pend.length (d.pend.flatMap rC1)]) (by repeat (first | exact Split.nil | (apply Split.cons; (repeat (first | with_reducible exact Take.here | apply Take.there)))))).trans (rd_close (x := ⟨.slice (some ⟨b, 0, none⟩) d.files.length c, sv, av, wv⟩)))
        · skip   -- 32 F
          refine swp_skip ?_
          exact then_n ⟨⟨rfl, rfl, rfl, trivial⟩, Split.ent' (by repeat (first | exact Split.nil | (apply Split.cons; (repeat (first | with_reducible exact Take.here | apply Take.there))))), by have := of_decide_eq_false h20; omega, by have := of_decide_eq_false h32; rw [tsize] at this; omega⟩
    rintro env L ⟨hsub, hE, h1, h2⟩
    refine swp_sub _ hsub ?_
    refine swp_ent hE ?_
    clear hsub hE env L
    obtain ⟨m, rfl⟩ : ∃ m : Nat, n = (m : Int) := ⟨n.toNat, by omega⟩
    have h2' : m ≤ (d.fl j).bytes.length := by omega
    refine swp_seq ?_
    refine swp_region ?_
    refine s_pu (pu_move rfl) ?_
    refine s_ef (ef_fn (rstep' p d.quota (.slice (some ⟨b, 0, none⟩) d.files.length c) sv av wv d.falls d.off hd.falls) rfl rfl (by repeat (first | exact Split.nil | (apply Split.cons; (repeat (first | with_reducible exact Take.here | apply Take.there)))))) ?_
    rintro v34 L1 ⟨rfl, rfl⟩
    refine swl_app ?_
    refine s_pu (pu_assign rfl) ?_
    refine swl_sub _ (.cons (t := 0) rfl (.cons (t := 2) rfl (.cons (t := 7) rfl (.cons (t := 8) rfl .nil)))) ?_
    refine swl_nil ?_
    refine then_n ?_
    refine swp_seq ?_
    refine swp_seq ?_
    refine swp_region ?_
    refine s_pu (pu_move rfl) ?_
    refine s_pu (pu_eql rfl rfl) ?_
    refine swl_sub _ (.cons (t := 0) rfl (.cons (t := 2) rfl (.cons (t := 7) rfl (.cons (t := 8) rfl (.cons (t := 36) rfl .nil))))) ?_
    refine swl_nil ?_
    refine then_n ?_
    refine swp_cond (b := _) rfl (fun h36 => ?_) (fun h36 => ?_)
    · skip   -- 36 T
      have hfn : d.falls ≠ 1 := sE_f (of_decide_eq_true h36)
      rw [(st_n (off := d.off) hfn).1, (st_n hfn).2]
      have key : cutD d s (m : Int) = ((fa1 d).setF j ⟨(d.fl j).bytes.take m, min (d.fl j).safe m⟩, 0) := by
        unfold cutD; rw [hon, if_neg (by omega), atStep_n hfn]
        show ((fa1 d).setF j ⟨(d.fl j).bytes.take (m : Int).toNat, min (d.fl j).safe (m : Int).toNat⟩, _) = _
        rw [Int.toNat_natCast]
      have hst2 := set_safe (set_get (l := d.files) hj ⟨(d.fl j).bytes.take m, (d.fl j).safe⟩) (min (d.fl j).safe m)
      rw [List.set_set] at hst2
      have hcell2 := flat_at (f := rF1) (n := 2) (fun _ => rfl) (set_get (l := d.files) hj ⟨(d.fl j).bytes.take m, (d.fl j).safe⟩) 1 _ rfl
      have hfl2 : ((d.files.set j ⟨(d.fl j).bytes.take m, (d.fl j).safe⟩).flatMap rF1).length = d.files.length * 2 := by rw [flat_length (f := rF1) (k := 2) (fun _ => rfl), List.length_set]
      have hmin : min ((d.fl j).safe : Int) (m : Int) = ((min (d.fl j).safe m : Nat) : Int) := by omega
      refine swp_seq ?_
      refine swp_draw [3, 8, 12] _ [] (by simp only [List.append_nil]; exact Ent.refl _) (by kernel_rfl) ?_
      refine d_pu 0 rfl (pu_move rfl) (by kernel_rfl) (by kernel_rfl) (by kernel_rfl) ?_
      first | refine d_pu 1 rfl (pu_nilCheck rfl) (by kernel_rfl) (by kernel_rfl) (by kernel_rfl) ?_ | refine d_pu 1 rfl (pu_nilCheck_fn rfl) (by kernel_rfl) (by kernel_rfl) (by kernel_rfl) ?_ | refine d_pu 1 rfl (pu_nilCheck_if rfl) (by kernel_rfl) (by kernel_rfl) (by kernel_rfl) ?_
      first | refine d_pu 2 rfl (pu_fieldAddr0 rfl) (by kernel_rfl) (by kernel_rfl) (by kernel_rfl) ?_ | refine d_pu 2 rfl (pu_fieldAddr rfl) (by kernel_rfl) (by kernel_rfl) (by kernel_rfl) ?_
      refine d_rd 3 rfl (rd_load rfl rfl) rfl (by kernel_rfl) (by kernel_rfl) (by kernel_rfl) ?_
      refine d_pu 4 rfl (pu_move rfl) (by kernel_rfl) (by kernel_rfl) (by kernel_rfl) ?_
      refine d_pu 5 rfl (pu_move rfl) (by kernel_rfl) (by kernel_rfl) (by kernel_rfl) ?_
      first | refine d_pu 6 rfl (pu_nilCheck rfl) (by kernel_rfl) (by kernel_rfl) (by kernel_rfl) ?_ | refine d_pu 6 rfl (pu_nilCheck_fn rfl) (by kernel_rfl) (by kernel_rfl) (by kernel_rfl) ?_ | refine d_pu 6 rfl (pu_nilCheck_if rfl) (by kernel_rfl) (by kernel_rfl) (by kernel_rfl) ?_
      first | refine d_pu 7 rfl (pu_fieldAddr0 rfl) (by kernel_rfl) (by kernel_rfl) (by kernel_rfl) ?_ | refine d_pu 7 rfl (pu_fieldAddr rfl) (by kernel_rfl) (by kernel_rfl) (by kernel_rfl) ?_
      refine d_rd 8 rfl (rd_load rfl rfl) rfl (by kernel_rfl) (by kernel_rfl) (by kernel_rfl) ?_
      refine d_pu 9 rfl (pu_move rfl) (by kernel_rfl) (by kernel_rfl) (by kernel_rfl) ?_
      refine d_pu 10 rfl (pu_indexAddr (0 + j * 2) rfl rfl (by omega) (by omega) (by rw [Int.toNat_natCast])) (by kernel_rfl) (by kernel_rfl) (by kernel_rfl) ?_
      first | refine d_pu 11 rfl (pu_fieldAddr0 rfl) (by kernel_rfl) (by kernel_rfl) (by kernel_rfl) ?_ | refine d_pu 11 rfl (pu_fieldAddr rfl) (by kernel_rfl) (by kernel_rfl) (by kernel_rfl) ?_
      refine d_rd 12 rfl (rd_own rfl (by repeat (first | with_reducible exact Take.here | apply Take.there)) (by rw [Nat.zero_add]; exact hcell)) rfl (by kernel_rfl) (by kernel_rfl) (by kernel_rfl) ?_
      refine d_pu 13 rfl (pu_move rfl) (by kernel_rfl) (by kernel_rfl) (by kernel_rfl) ?_
      refine d_pu 14 rfl (pu_str_hi m rfl rfl rfl (by rw [tsize]; exact h2')) (by kernel_rfl) (by kernel_rfl) (by kernel_rfl) ?_
      refine d_pu 15 rfl (pu_indexAddr (0 + j * 2) rfl rfl (by omega) (by omega) (by rw [Int.toNat_natCast])) (by kernel_rfl) (by kernel_rfl) (by kernel_rfl) ?_
      first | refine d_pu 16 rfl (pu_fieldAddr0 rfl) (by kernel_rfl) (by kernel_rfl) (by kernel_rfl) ?_ | refine d_pu 16 rfl (pu_fieldAddr rfl) (by kernel_rfl) (by kernel_rfl) (by kernel_rfl) ?_
      first | refine d_fin0t 17 rfl (by kernel_rfl) (by kernel_rfl) (ef_store_own rfl rfl (by repeat (first | exact Split.nil | (apply Split.cons; (repeat (first | with_reducible exact Take.here | apply Take.there))))) (by rw [hfl]; omega) rfl) ?_ | refine d_fin0f 17 rfl (by kernel_rfl) (by kernel_rfl) (ef_store_own rfl rfl (by repeat (first | exact Split.nil | (apply Split.cons; (repeat (first | with_reducible exact Take.here | apply Take.there))))) (by rw [hfl]; omega) rfl) ?_
      refine d_sub _ (.cons (t := 0) rfl (.cons (t := 2) rfl (.cons (t := 7) rfl (.cons (t := 8) rfl .nil)))) ?_
      first | refine d_nilt (by kernel_rfl) ?_ | refine d_nilf (by kernel_rfl) ?_
      refine then_n ?_
      rw [ext_take', hst]
      refine swp_draw [3, 8, 12] _ [] (by simp only [List.append_nil]; exact Ent.refl _) (by kernel_rfl) ?_
      refine d_pu 0 rfl (pu_move rfl) (by kernel_rfl) (by kernel_rfl) (by kernel_rfl) ?_
      first | refine d_pu 1 rfl (pu_nilCheck rfl) (by kernel_rfl) (by kernel_rfl) (by kernel_rfl) ?_ | refine d_pu 1 rfl (pu_nilCheck_fn rfl) (by kernel_rfl) (by kernel_rfl) (by kernel_rfl) ?_ | refine d_pu 1 rfl (pu_nilCheck_if rfl) (by kernel_rfl) (by kernel_rfl) (by kernel_rfl) ?_
      first | refine d_pu 2 rfl (pu_fieldAddr0 rfl) (by kernel_rfl) (by kernel_rfl) (by kernel_rfl) ?_ | refine d_pu 2 rfl (pu_fieldAddr rfl) (by kernel_rfl) (by kernel_rfl) (by kernel_rfl) ?_
      refine d_rd 3 rfl (rd_load rfl rfl) rfl (by kernel_rfl) (by kernel_rfl) (by kernel_rfl) ?_
      refine d_pu 4 rfl (pu_move rfl) (by kernel_rfl) (by kernel_rfl) (by kernel_rfl) ?_
      refine d_pu 5 rfl (pu_move rfl) (by kernel_rfl) (by kernel_rfl) (by kernel_rfl) ?_
      first | refine d_pu 6 rfl (pu_nilCheck rfl) (by kernel_rfl) (by kernel_rfl) (by kernel_rfl) ?_ | refine d_pu 6 rfl (pu_nilCheck_fn rfl) (by kernel_rfl) (by kernel_rfl) (by kernel_rfl) ?_ | refine d_pu 6 rfl (pu_nilCheck_if rfl) (by kernel_rfl) (by kernel_rfl) (by kernel_rfl) ?_
      first | refine d_pu 7 rfl (pu_fieldAddr0 rfl) (by kernel_rfl) (by kernel_rfl) (by kernel_rfl) ?_ | refine d_pu 7 rfl (pu_fieldAddr rfl) (by kernel_rfl) (by kernel_rfl) (by kernel_rfl) ?_
      refine d_rd 8 rfl (rd_load rfl rfl) rfl (by kernel_rfl) (by kernel_rfl) (by kernel_rfl) ?_
      refine d_pu 9 rfl (pu_move rfl) (by kernel_rfl) (by kernel_rfl) (by kernel_rfl) ?_
      refine d_pu 10 rfl (pu_indexAddr (0 + j * 2) rfl rfl (by omega) (by omega) (by rw [Int.toNat_natCast])) (by kernel_rfl) (by kernel_rfl) (by kernel_rfl) ?_
      first | refine d_pu 11 rfl (pu_fieldAddr0 rfl) (by kernel_rfl) (by kernel_rfl) (by kernel_rfl) ?_ | refine d_pu 11 rfl (pu_fieldAddr rfl) (by kernel_rfl) (by kernel_rfl) (by kernel_rfl) ?_
      refine d_rd 12 rfl (rd_own rfl (by repeat (first | with_reducible exact Take.here | apply Take.there)) (by rw [Nat.zero_add]; exact hcell2)) rfl (by kernel_rfl) (by kernel_rfl) (by kernel_rfl) ?_
      refine d_pu 13 rfl (pu_move rfl) (by kernel_rfl) (by kernel_rfl) (by kernel_rfl) ?_
      refine d_pu 14 rfl (pu_min2 rfl rfl) (by kernel_rfl) (by kernel_rfl) (by kernel_rfl) ?_
      refine d_pu 15 rfl (pu_indexAddr (0 + j * 2) rfl rfl (by omega) (by omega) (by rw [Int.toNat_natCast])) (by kernel_rfl) (by kernel_rfl) (by kernel_rfl) ?_
      first | refine d_pu 16 rfl (pu_fieldAddr0 rfl) (by kernel_rfl) (by kernel_rfl) (by kernel_rfl) ?_ | refine d_pu 16 rfl (pu_fieldAddr rfl) (by kernel_rfl) (by kernel_rfl) (by kernel_rfl) ?_
      first | refine d_fin0t 17 rfl (by kernel_rfl) (by kernel_rfl) (ef_store_own rfl rfl (by repeat (first | exact Split.nil | (apply Split.cons; (repeat (first | with_reducible exact Take.here | apply Take.there))))) (by rw [hfl2]; omega) rfl) ?_ | refine d_fin0f 17 rfl (by kernel_rfl) (by kernel_rfl) (ef_store_own rfl rfl (by repeat (first | exact Split.nil | (apply Split.cons; (repeat (first | with_reducible exact Take.here | apply Take.there))))) (by rw [hfl2]; omega) rfl) ?_
      refine d_sub _ (.cons (t := 8) rfl .nil) ?_
      first | refine d_nilt (by kernel_rfl) ?_ | refine d_nilf (by kernel_rfl) ?_
      refine then_n ?_
      refine swp_seq ?_
      refine swp_region ?_
      refine s_pu (pu_move rfl) ?_
      refine s_pu (pu_assign rfl) ?_
      refine swl_sub _ (.cons (t := 6) rfl .nil) ?_
      refine swl_nil ?_
      refine then_n ?_
      refine swp_ret ?_
      have hE : sE d.falls = 0 := sE_n hfn
      rw [key, hE]
      refine done_retE [RDA p ((fa1 d).setF j ⟨(d.fl j).bytes.take m, min (d.fl j).safe m⟩)] (.tmp rfl .nil) ⟨rfl, rfl⟩ ?_
      rw [hmin, hst2]
      exact Ent.trans (Split.ent' (K := [blk p 64 (rdC d.quota (.slice (some ⟨b, 0, none⟩) d.files.length c) sv av wv (if 0 < d.falls then d.falls - 1 else d.falls) d.off), own 99 2 (.slice (some ⟨b, 0, none⟩) d.files.length c) d.files.length ((d.files.set j ⟨(d.fl j).bytes.take m, min (d.fl j).safe m⟩).flatMap rF1), own 97 2 sv d.seen.length (d.seen.flatMap rN1), own 97 2 av d.safe.length (d.safe.flatMap rN1), own 95 3 wv d.pend.length (d.pend.flatMap rC1)]) (by repeat (first | exact Split.nil | (apply Split.cons; (repeat (first | with_reducible exact Take.here | apply Take.there)))))) (rd_set (d := fa1 d))
    · skip   -- 36 F
      refine swp_skip ?_
      refine then_n ?_
      refine swp_seq ?_
      refine swp_region ?_
      refine s_pu (pu_move rfl) ?_
      refine s_pu (pu_assign rfl) ?_
      refine swl_sub _ (.cons (t := 6) rfl .nil) ?_
      refine swl_nil ?_
      refine then_n ?_
      refine swp_ret ?_
      have hf1 : d.falls = 1 := sE_t (of_decide_eq_false h36)
      have key : cutD d s (m : Int) = (fa0 d, 8) := by unfold cutD; rw [hon, if_neg (by omega)]; exact atStep_1 hf1 _
      rw [key, sE_1 hf1, (st_1 (off := d.off) hf1).1, (st_1 hf1).2]
      exact done_retE [RDA p (fa0 d)] (.tmp rfl .nil) ⟨rfl, rfl⟩ ((Split.ent' (K := [blk p 64 (rdC d.quota (.slice (some ⟨b, 0, none⟩) d.files.length c) sv av wv 0 true), own 99 2 (.slice (some ⟨b, 0, none⟩) d.files.length c) d.files.length (d.files.flatMap rF1), own 97 2 sv d.seen.length (d.seen.flatMap rN1), own 97 2 av d.safe.length (d.safe.flatMap rN1), own 95 3 wv d.pend.length (d.pend.flatMap rC1)]) (by repeat (first | exact Split.nil | (apply Split.cons; (repeat (first | with_reducible exact Take.here | apply Take.there)))))).trans (rd_close (d := fa0 d) (x := ⟨.slice (some ⟨b, 0, none⟩) d.files.length c, sv, av, wv⟩)))
end SX
namespace SX
open Go Go.Proofs
set_option maxHeartbeats 4000000 in
theorem rdamage_spec (p : Nat) (d : Dk) (hd : d.Ok) (hw : Few d) (s : ByteArray) (n : Int) (t : ByteArray) (ht : t.size ≤ 140737488351232) : Spec Try.prog 53 [pv p, .string s, .int .i64 n, .string t] [RDA p d] (fun r L => r = .int .i64 (damageD d s n t.data.toList).2 ∧ L = [RDA p (damageD d s n t.data.toList).1]) := by
  refine RDA.open' fun ⟨fv, sv, av, wv⟩ => ?_
  have hff := hw.1
  have hul := Dk.used_le hd
  have hbt := bsize t
  have hq := hd.q
  refine Spec.of 85 Try.func53 rfl rfl rfl ?_
  refine swp_seq ?_
  refine swp_region ?_
  refine s_pu (pu_assign rfl) ?_
  refine swl_sub _ (.cons (t := 0) rfl (.cons (t := 1) rfl (.cons (t := 2) rfl (.cons (t := 3) rfl .nil)))) ?_
  refine swl_nil ?_
  refine then_n ?_
  refine swp_seq ?_
  refine swp_region ?_
  refine s_pu (pu_move rfl) ?_
  refine s_pu (pu_move rfl) ?_
  refine s_ef (ef_fn (rfile_spec p d hd ⟨fv, sv, av, wv⟩ s) rfl rfl (by repeat (first | exact Split.nil | (apply Split.cons; (repeat (first | with_reducible exact Take.here | apply Take.there)))))) ?_
  rintro v18 L1 ⟨⟨k, e, rfl, hR⟩, rfl⟩
  refine swl_app ?_
  refine s_pu (pu_move rfl) ?_
  first | refine s_pu (pu_extractL rfl) ?_ | refine s_pu (pu_extract rfl rfl) ?_
  first | refine s_pu (pu_extractL rfl) ?_ | refine s_pu (pu_extract rfl rfl) ?_
  refine s_pu (pu_assign rfl) ?_
  refine s_pu (pu_assign rfl) ?_
  refine swl_sub _ (.cons (t := 0) rfl (.cons (t := 2) rfl (.cons (t := 3) rfl (.cons (t := 9) rfl (.cons (t := 10) rfl .nil))))) ?_
  refine swl_nil ?_
  refine then_n ?_
  refine swp_seq ?_
  refine swp_seq ?_
  refine swp_region ?_
  refine s_pu (pu_move rfl) ?_
  refine s_pu (pu_neq rfl rfl) ?_
  refine swl_sub _ (.cons (t := 0) rfl (.cons (t := 2) rfl (.cons (t := 3) rfl (.cons (t := 9) rfl (.cons (t := 10) rfl (.cons (t := 22) rfl .nil)))))) ?_
  refine swl_nil ?_
  refine then_n ?_
  refine swp_cond (b := _) rfl (fun h22 => ?_) (fun h22 => ?_)
  · skip   -- 22 T
    refine swp_seq ?_
    refine swp_region ?_
    refine s_pu (pu_move rfl) ?_
    refine s_pu (pu_assign rfl) ?_
    refine swl_sub _ (.cons (t := 8) rfl .nil) ?_
    refine swl_nil ?_
    refine then_n ?_
    refine swp_ret ?_
    refine then_r ?_
    unfold damageD
    rw [(hR.err (by simpa using h22)).2]
    exact done_retE [RDA p d] (.tmp rfl .nil) ⟨rfl, rfl⟩ ((Split.ent' (K := [blk p 64 (rdC d.quota fv sv av wv d.falls d.off), own 99 2 fv d.files.length (d.files.flatMap rF1), own 97 2 sv d.seen.length (d.seen.flatMap rN1), own 97 2 av d.safe.length (d.safe.flatMap rN1), own 95 3 wv d.pend.length (d.pend.flatMap rC1)]) (by repeat (first | exact Split.nil | (apply Split.cons; (repeat (first | with_reducible exact Take.here | apply Take.there)))))).trans (rd_close (x := ⟨fv, sv, av, wv⟩)))
  · skip   -- 22 F
    obtain ⟨j, rfl, hf, _, hon⟩ := hR.ok (by simpa using h22)
    have hj := file_lt hd hf
    have hlen := (Dk.fl_ok hd j).1
    simp only [mostF] at hlen
    refine swp_ent (Split.ent' (K := [own 99 2 fv d.files.length (d.files.flatMap rF1), blk p 64 (rdC d.quota fv sv av wv d.falls d.off), own 97 2 sv d.seen.length (d.seen.flatMap rN1), own 97 2 av d.safe.length (d.safe.flatMap rN1), own 95 3 wv d.pend.length (d.pend.flatMap rC1)]) (by repeat (first | exact Split.nil | (apply Split.cons; (repeat (first | with_reducible exact Take.here | apply Take.there)))))) ?_
    refine swp_fact (fun m h => own_pos h (by omega)) fun ⟨b, c, hfv, hlc, hcm⟩ => ?_
    subst hfv
    have hcell := flat_at (f := rF1) (n := 2) (fun _ => rfl) (fl_at hj) 0 _ rfl
    have hfl : (d.files.flatMap rF1).length = d.files.length * 2 := flat_length (f := rF1) (k := 2) (fun _ => rfl) _
    refine swp_skip ?_
    refine then_n ?_
    refine swp_seq ?_
    refine swp_region ?_
    refine s_pu (pu_move rfl) ?_
    first | refine s_pu (pu_nilCheck rfl) ?_ | refine s_pu (pu_nilCheck_fn rfl) ?_ | refine s_pu (pu_nilCheck_if rfl) ?_
    first | refine s_pu (pu_fieldAddr0 rfl) ?_ | refine s_pu (pu_fieldAddr rfl) ?_
    refine s_rd (rd_load rfl rfl) ?_
    refine s_pu (pu_move rfl) ?_
    refine s_pu (pu_indexAddr (0 + j * 2) rfl rfl (by omega) (by omega) (by rw [Int.toNat_natCast])) ?_
    first | refine s_pu (pu_fieldAddr0 rfl) ?_ | refine s_pu (pu_fieldAddr rfl) ?_
    refine s_rd (rd_own rfl (by repeat (first | with_reducible exact Take.here | apply Take.there)) (by rw [Nat.zero_add]; exact hcell)) ?_
    refine s_pu (pu_assign rfl) ?_
    refine swl_sub _ (.cons (t := 0) rfl (.cons (t := 2) rfl (.cons (t := 3) rfl (.cons (t := 9) rfl (.cons (t := 11) rfl .nil))))) ?_
    refine swl_nil ?_
    refine then_n ?_
    refine swp_cut (fun env L => Sub env [(0, pv p), (2, .int .i64 n), (3, .string t), (9, .int .i64 (j : Nat)), (11, .string ⟨(d.fl j).bytes.toArray⟩)] ∧ Ent L [blk p 64 (rdC d.quota (.slice (some ⟨b, 0, none⟩) d.files.length c) sv av wv d.falls d.off), own 99 2 (.slice (some ⟨b, 0, none⟩) d.files.length c) d.files.length (d.files.flatMap rF1), own 97 2 sv d.seen.length (d.seen.flatMap rN1), own 97 2 av d.safe.length (d.safe.flatMap rN1), own 95 3 wv d.pend.length (d.pend.flatMap rC1)] ∧ 0 ≤ n ∧ n ≤ (d.fl j).bytes.length) ?_ ?_
    · skip
      refine swp_seq ?_
      refine swp_region ?_
      refine s_pu (pu_move rfl) ?_
      refine s_pu (pu_lss rfl rfl) ?_
      refine s_pu (pu_move rfl) ?_
      refine s_split 34 rfl (fun h34 => ?_) (fun h34 => ?_)
      · skip   -- 34 T
        refine s_off rfl rfl rfl ?_
        refine s_off rfl rfl rfl ?_
        refine s_off rfl rfl rfl ?_
        refine s_off rfl rfl rfl ?_
        first | refine s_pu (pu_pick_t rfl rfl) ?_ | refine s_pu (pu_pick_f rfl rfl) ?_
        refine swl_sub _ (.cons (t := 0) rfl (.cons (t := 2) rfl (.cons (t := 3) rfl (.cons (t := 9) rfl (.cons (t := 11) rfl (.cons (t := 39) rfl .nil)))))) ?_
        refine swl_nil ?_
        refine then_n ?_
        refine swp_cond (b := _) rfl (fun h39 => ?_) (fun h39 => by cases h39)
        refine swp_seq ?_
        refine swp_region ?_
        refine s_pu (pu_assign rfl) ?_
        refine swl_sub _ (.cons (t := 8) rfl .nil) ?_
        refine swl_nil ?_
        refine then_n ?_
        refine swp_ret ?_
        refine then_r ?_
        have h34' := of_decide_eq_true h34
        have key : damageD d s n t.data.toList = (d, 1) := by unfold damageD; rw [hon, if_pos (.inl (by omega))]
        rw [key]
        exact done_retE [RDA p d] (.tmp rfl .nil) ⟨rfl, rfl⟩ ((Split.ent' (K := [blk p 64 (rdC d.quota (.slice (some ⟨b, 0, none⟩) d.files.length c) sv av wv d.falls d.off), own 99 2 (.slice (some ⟨b, 0, none⟩) d.files.length c) d.files.length (d.files.flatMap rF1), own 97 2 sv d.seen.length (d.seen.flatMap rN1), own 97 2 av d.safe.length (d.safe.flatMap rN1), own 95 3 wv d.pend.length (d.pend.flatMap rC1)]) (by repeat (first | exact Split.nil | (apply Split.cons; (repeat (first | with_reducible exact Take.here | apply Take.there)))))).trans (rd_close (x := ⟨.slice (some ⟨b, 0, none⟩) d.files.length c, sv, av, wv⟩)))
      · skip   -- 34 F
        refine s_on rfl rfl ?_
        refine s_pu (pu_move rfl) ?_
        refine s_on rfl rfl ?_
        refine s_pu (pu_move rfl) ?_
        refine s_on rfl rfl ?_
        refine s_pu (pu_strlen rfl) ?_
        refine s_on rfl rfl ?_
        refine s_pu (pu_gtr rfl rfl) ?_
        first | refine s_pu (pu_pick_t rfl rfl) ?_ | refine s_pu (pu_pick_f rfl rfl) ?_
        refine swl_sub _ (.cons (t := 0) rfl (.cons (t := 2) rfl (.cons (t := 3) rfl (.cons (t := 9) rfl (.cons (t := 11) rfl (.cons (t := 39) rfl .nil)))))) ?_
        refine swl_nil ?_
        refine then_n ?_
        refine swp_cond (b := _) rfl (fun h39 => ?_) (fun h39 => ?_)
        · skip   -- 39 T
          refine swp_seq ?_
          refine swp_region ?_
          refine s_pu (pu_assign rfl) ?_
          refine swl_sub _ (.cons (t := 8) rfl .nil) ?_
          refine swl_nil ?_
          refine then_n ?_
          refine swp_ret ?_
          refine then_r ?_
          have h39' := of_decide_eq_true h39
          rw [tsize] at h39'
          have key : damageD d s n t.data.toList = (d, 1) := by unfold damageD; rw [hon, if_pos (.inr h39')]
          rw [key]
          exact done_retE [RDA p d] (.tmp rfl .nil) ⟨rfl, rfl⟩ ((Split.ent' (K := [blk p 64 (rdC d.quota (.slice (some ⟨b, 0, none⟩) d.files.length c) sv av wv d.falls d.off), own 99 2 (.slice (some ⟨b, 0, none⟩) d.files.length c) d.files.length (d.files.flatMap rF1), own 97 2 sv d.seen.length (d.seen.flatMap rN1), own 97 2 av d.safe.length (d.safe.flatMap rN1), own 95 3 wv d.pend.length (d.pend.flatMap rC1)]) (by repeat (first | exact Split.nil | (apply Split.cons; (repeat (first | with_reducible exact Take.here | apply Take.there)))))).trans (rd_close (x := ⟨.slice (some ⟨b, 0, none⟩) d.files.length c, sv, av, wv⟩)))
        · skip   -- 39 F
          refine swp_skip ?_
          exact then_n ⟨⟨rfl, rfl, rfl, rfl, rfl, trivial⟩, Split.ent' (by repeat (first | exact Split.nil | (apply Split.cons; (repeat (first | with_reducible exact Take.here | apply Take.there))))), by have := of_decide_eq_false h34; omega, by have := of_decide_eq_false h39; rw [tsize] at this; omega⟩
    rintro env L ⟨hsub, hE, h1, h2⟩
    refine swp_sub _ hsub ?_
    refine swp_ent hE ?_
    clear hsub hE env L
    obtain ⟨m, rfl⟩ : ∃ m : Nat, n = (m : Int) := ⟨n.toNat, by omega⟩
    have h2' : m ≤ (d.fl j).bytes.length := by omega
    have hts := tsize (d.fl j).bytes
    refine swp_seq ?_
    refine swp_region ?_
    refine s_pu (pu_move rfl) ?_
    refine s_pu (pu_strlen rfl) ?_
    refine s_pu (pu_move rfl) ?_
    refine s_pu (pu_strlen rfl) ?_
    refine s_pu (pu_move rfl) ?_
    refine s_pu (pu_sub_as (((d.fl j).bytes.length : Int) - m) rfl rfl (by rw [tsize]) (by omega) (by omega)) ?_
    refine s_pu (pu_sub_as ((t.size : Int) - ((d.fl j).bytes.length - m)) rfl rfl (by omega) (by omega) (by omega)) ?_
    refine s_pu (pu_assign rfl) ?_
    refine swl_sub _ (.cons (t := 0) rfl (.cons (t := 2) rfl (.cons (t := 3) rfl (.cons (t := 9) rfl (.cons (t := 11) rfl (.cons (t := 12) rfl .nil)))))) ?_
    refine swl_nil ?_
    refine then_n ?_
    refine swp_cut (fun env L => Sub env [(0, pv p), (2, .int .i64 (m : Nat)), (3, .string t), (9, .int .i64 (j : Nat)), (11, .string ⟨(d.fl j).bytes.toArray⟩), (12, .int .i64 ((t.size : Int) - ((d.fl j).bytes.length - m)))] ∧ Ent L [blk p 64 (rdC d.quota (.slice (some ⟨b, 0, none⟩) d.files.length c) sv av wv d.falls d.off), own 99 2 (.slice (some ⟨b, 0, none⟩) d.files.length c) d.files.length (d.files.flatMap rF1), own 97 2 sv d.seen.length (d.seen.flatMap rN1), own 97 2 av d.safe.length (d.safe.flatMap rN1), own 95 3 wv d.pend.length (d.pend.flatMap rC1)] ∧ ¬ (0 < (t.data.toList.length : Int) - ((d.fl j).bytes.length - m) ∧ d.quota < (d.used : Int) + ((t.data.toList.length : Int) - ((d.fl j).bytes.length - m)))) ?_ ?_
    · skip
      refine swp_seq ?_
      refine swp_draw [10] ([blk p 64 (rdC d.quota (.slice (some ⟨b, 0, none⟩) d.files.length c) sv av wv d.falls d.off)]) ([own 99 2 (.slice (some ⟨b, 0, none⟩) d.files.length c) d.files.length (d.files.flatMap rF1), own 97 2 sv d.seen.length (d.seen.flatMap rN1), own 97 2 av d.safe.length (d.safe.flatMap rN1), own 95 3 wv d.pend.length (d.pend.flatMap rC1)]) (Split.ent (by repeat (first | exact Split.nil | (apply Split.cons; (repeat (first | with_reducible exact Take.here | apply Take.there)))))) (by kernel_rfl) ?_
      refine d_pu 0 rfl (pu_move rfl) (by kernel_rfl) (by kernel_rfl) (by kernel_rfl) ?_
      refine d_pu 1 rfl (pu_gtr rfl rfl) (by kernel_rfl) (by kernel_rfl) (by kernel_rfl) ?_
      refine d_pu 2 rfl (pu_move rfl) (by kernel_rfl) (by kernel_rfl) (by kernel_rfl) ?_
      refine d_split 49 rfl (fun h49 => ?_) (fun h49 => ?_)
      · skip   -- 49 T
        refine d_pu_on 3 rfl rfl rfl (pu_move rfl) (by kernel_rfl) (by kernel_rfl) (by kernel_rfl) ?_
        refine d_pu_on 5 rfl rfl rfl (pu_move rfl) (by kernel_rfl) (by kernel_rfl) (by kernel_rfl) ?_
        refine d_pu_on 7 rfl rfl rfl (pu_move rfl) (by kernel_rfl) (by kernel_rfl) (by kernel_rfl) ?_
        first | refine d_pu_on 8 rfl rfl rfl (pu_nilCheck rfl) (by kernel_rfl) (by kernel_rfl) (by kernel_rfl) ?_ | refine d_pu_on 8 rfl rfl rfl (pu_nilCheck_fn rfl) (by kernel_rfl) (by kernel_rfl) (by kernel_rfl) ?_ | refine d_pu_on 8 rfl rfl rfl (pu_nilCheck_if rfl) (by kernel_rfl) (by kernel_rfl) (by kernel_rfl) ?_
        first | refine d_pu_on 9 rfl rfl rfl (pu_fieldAddr0 rfl) (by kernel_rfl) (by kernel_rfl) (by kernel_rfl) ?_ | refine d_pu_on 9 rfl rfl rfl (pu_fieldAddr rfl) (by kernel_rfl) (by kernel_rfl) (by kernel_rfl) ?_
        refine d_rd_on 10 rfl rfl rfl (rd_load rfl rfl) rfl (by kernel_rfl) (by kernel_rfl) (by kernel_rfl) ?_
        refine d_amb [4] (by kernel_rfl) rfl ?_
        refine dA_ef 4 rfl (GOn.some rfl rfl) (ef_fn (rused_spec p d hd hw (.slice (some ⟨b, 0, none⟩) d.files.length c) sv av wv) rfl rfl (by repeat (first | exact Split.nil | (apply Split.cons; (repeat (first | with_reducible exact Take.here | apply Take.there)))))) ?_
        rintro v51 L1 ⟨rfl, rfl⟩
        refine ⟨_, ent_appC (Split.ent (by repeat (first | exact Split.nil | (apply Split.cons; (repeat (first | with_reducible exact Take.here | apply Take.there)))))), ?_⟩
        refine d_pu_on 6 rfl rfl rfl (pu_add_as ((d.used : Int) + ((t.size : Int) - ((d.fl j).bytes.length - m))) rfl rfl (by omega) (by omega) (by omega)) (by kernel_rfl) (by kernel_rfl) (by kernel_rfl) ?_
        refine d_pu_on 11 rfl rfl rfl (pu_gtr rfl rfl) (by kernel_rfl) (by kernel_rfl) (by kernel_rfl) ?_
        first | refine d_pu 12 rfl (pu_pick_t rfl rfl) (by kernel_rfl) (by kernel_rfl) (by kernel_rfl) ?_ | refine d_pu 12 rfl (pu_pick_f rfl rfl) (by kernel_rfl) (by kernel_rfl) (by kernel_rfl) ?_
        refine d_sub _ (.cons (t := 0) rfl (.cons (t := 2) rfl (.cons (t := 3) rfl (.cons (t := 9) rfl (.cons (t := 11) rfl (.cons (t := 12) rfl (.cons (t := 59) rfl .nil))))))) ?_
        first | refine d_nilt (by kernel_rfl) ?_ | refine d_nilf (by kernel_rfl) ?_
        refine then_n ?_
        refine swp_cond (b := _) rfl (fun h59 => ?_) (fun h59 => ?_)
        · skip   -- 59 T
          refine swp_seq ?_
          refine swp_region ?_
          refine s_pu (pu_assign rfl) ?_
          refine swl_sub _ (.cons (t := 8) rfl .nil) ?_
          refine swl_nil ?_
          refine then_n ?_
          refine swp_ret ?_
          refine then_r ?_
          have h49' := of_decide_eq_true h49
          have h59' := of_decide_eq_true h59
          have key : damageD d s m t.data.toList = (d, 7) := by unfold damageD; rw [hon, if_neg (by omega), if_pos (by rw [hbt]; exact ⟨by omega, by omega⟩)]
          rw [key]
          exact done_retE [RDA p d] (.tmp rfl .nil) ⟨rfl, rfl⟩ ((Split.ent' (K := [blk p 64 (rdC d.quota (.slice (some ⟨b, 0, none⟩) d.files.length c) sv av wv d.falls d.off), own 99 2 (.slice (some ⟨b, 0, none⟩) d.files.length c) d.files.length (d.files.flatMap rF1), own 97 2 sv d.seen.length (d.seen.flatMap rN1), own 97 2 av d.safe.length (d.safe.flatMap rN1), own 95 3 wv d.pend.length (d.pend.flatMap rC1)]) (by repeat (first | exact Split.nil | (apply Split.cons; (repeat (first | with_reducible exact Take.here | apply Take.there)))))).trans (rd_close (x := ⟨.slice (some ⟨b, 0, none⟩) d.files.length c, sv, av, wv⟩)))
        · skip   -- 59 F
          refine swp_skip ?_
          refine then_n ⟨⟨rfl, rfl, rfl, rfl, rfl, rfl, trivial⟩, Split.ent' (by repeat (first | exact Split.nil | (apply Split.cons; (repeat (first | with_reducible exact Take.here | apply Take.there))))), ?_⟩
          rw [hbt]
          first
            | (have h59' := of_decide_eq_false h59; rintro ⟨_, h2⟩; omega)
            | (have h49' := of_decide_eq_false h49; rintro ⟨h1, _⟩; omega)
      · skip   -- 49 F
        refine d_off 3 rfl rfl rfl rfl (by kernel_rfl) (by kernel_rfl) (by kernel_rfl) ?_
        refine d_off 4 rfl rfl rfl rfl (by kernel_rfl) (by kernel_rfl) (by kernel_rfl) ?_
        refine d_off 5 rfl rfl rfl rfl (by kernel_rfl) (by kernel_rfl) (by kernel_rfl) ?_
        refine d_off 6 rfl rfl rfl rfl (by kernel_rfl) (by kernel_rfl) (by kernel_rfl) ?_
        refine d_off 7 rfl rfl rfl rfl (by kernel_rfl) (by kernel_rfl) (by kernel_rfl) ?_
        refine d_off 8 rfl rfl rfl rfl (by kernel_rfl) (by kernel_rfl) (by kernel_rfl) ?_
        refine d_off 9 rfl rfl rfl rfl (by kernel_rfl) (by kernel_rfl) (by kernel_rfl) ?_
        refine d_off 10 rfl rfl rfl rfl (by kernel_rfl) (by kernel_rfl) (by kernel_rfl) ?_
        refine d_off 11 rfl rfl rfl rfl (by kernel_rfl) (by kernel_rfl) (by kernel_rfl) ?_
        first | refine d_pu 12 rfl (pu_pick_t rfl rfl) (by kernel_rfl) (by kernel_rfl) (by kernel_rfl) ?_ | refine d_pu 12 rfl (pu_pick_f rfl rfl) (by kernel_rfl) (by kernel_rfl) (by kernel_rfl) ?_
        refine d_sub _ (.cons (t := 0) rfl (.cons (t := 2) rfl (.cons (t := 3) rfl (.cons (t := 9) rfl (.cons (t := 11) rfl (.cons (t := 12) rfl (.cons (t := 59) rfl .nil))))))) ?_
        first | refine d_nilt (by kernel_rfl) ?_ | refine d_nilf (by kernel_rfl) ?_
        refine then_n ?_
        refine swp_cond (b := _) rfl (fun h59 => by cases h59) (fun h59 => ?_)
        refine swp_skip ?_
        refine then_n ⟨⟨rfl, rfl, rfl, rfl, rfl, rfl, trivial⟩, Split.ent' (by repeat (first | exact Split.nil | (apply Split.cons; (repeat (first | with_reducible exact Take.here | apply Take.there))))), ?_⟩
        rw [hbt]
        first
          | (have h59' := of_decide_eq_false h59; rintro ⟨_, h2⟩; omega)
          | (have h49' := of_decide_eq_false h49; rintro ⟨h1, _⟩; omega)
    rintro env L ⟨hsub, hE, h3⟩
    refine swp_sub _ hsub ?_
    refine swp_ent hE ?_
    clear hsub hE env L
    obtain ⟨B, hB⟩ : ∃ B, B = (d.fl j).bytes.take m ++ t.data.toList ++ (d.fl j).bytes.drop (m + t.data.toList.length) := ⟨_, rfl⟩
    have hBl : B.length ≤ 33554432 := by rw [hB, List.length_append, List.length_append, List.length_take, List.length_drop]; omega
    have key : damageD d s m t.data.toList = (d.setF j ⟨B, B.length⟩, 0) := by
      unfold damageD
      rw [hon, if_neg (by omega), if_neg h3, Int.toNat_natCast, ← hB]
    refine swp_seq ?_
    refine swp_region ?_
    refine s_pu (pu_assign rfl) ?_
    refine swl_sub _ (.cons (t := 0) rfl (.cons (t := 2) rfl (.cons (t := 3) rfl (.cons (t := 9) rfl (.cons (t := 11) rfl (.cons (t := 12) rfl (.cons (t := 13) rfl .nil))))))) ?_
    refine swl_nil ?_
    refine then_n ?_
    refine swp_cut (fun env L => Sub env [(0, pv p), (2, .int .i64 (m : Nat)), (3, .string t), (9, .int .i64 (j : Nat)), (11, .string ⟨(d.fl j).bytes.toArray⟩), (13, .string ⟨((d.fl j).bytes.drop (m + t.data.toList.length)).toArray⟩)] ∧ Ent L [blk p 64 (rdC d.quota (.slice (some ⟨b, 0, none⟩) d.files.length c) sv av wv d.falls d.off), own 99 2 (.slice (some ⟨b, 0, none⟩) d.files.length c) d.files.length (d.files.flatMap rF1), own 97 2 sv d.seen.length (d.seen.flatMap rN1), own 97 2 av d.safe.length (d.safe.flatMap rN1), own 95 3 wv d.pend.length (d.pend.flatMap rC1)]) ?_ ?_
    · skip
      refine swp_seq ?_
      refine swp_region ?_
      refine s_pu (pu_move rfl) ?_
      refine s_pu (pu_lss rfl rfl) ?_
      refine swl_sub _ (.cons (t := 0) rfl (.cons (t := 2) rfl (.cons (t := 3) rfl (.cons (t := 9) rfl (.cons (t := 11) rfl (.cons (t := 13) rfl (.cons (t := 61) rfl .nil))))))) ?_
      refine swl_nil ?_
      refine then_n ?_
      refine swp_cond (b := _) rfl (fun h61 => ?_) (fun h61 => ?_)
      · skip   -- 61 T
        have h61' := of_decide_eq_true h61
        refine swp_region ?_
        refine s_pu (pu_move rfl) ?_
        refine s_pu (pu_move rfl) ?_
        refine s_pu (pu_move rfl) ?_
        refine s_pu (pu_strlen rfl) ?_
        refine s_pu (pu_add_as ((m + t.size : Nat) : Int) rfl rfl (by omega) (by omega) (by omega)) ?_
        refine s_pu (pu_str_lo (m + t.size) rfl rfl rfl (by rw [hts]; omega)) ?_
        refine s_pu (pu_assign rfl) ?_
        refine swl_sub _ (.cons (t := 0) rfl (.cons (t := 2) rfl (.cons (t := 3) rfl (.cons (t := 9) rfl (.cons (t := 11) rfl (.cons (t := 13) rfl .nil)))))) ?_
        refine swl_nil ?_
        simp only [tsize, ext_drop', ← hbt]
        exact then_n ⟨⟨rfl, rfl, rfl, rfl, rfl, rfl, trivial⟩, Split.ent' (by repeat (first | exact Split.nil | (apply Split.cons; (repeat (first | with_reducible exact Take.here | apply Take.there)))))⟩
      · skip   -- 61 F
        refine swp_skip ?_
        have h61' := of_decide_eq_false h61
        rw [List.drop_of_length_le (show (d.fl j).bytes.length ≤ m + t.data.toList.length by omega)]
        exact then_n ⟨⟨rfl, rfl, rfl, rfl, rfl, rfl, trivial⟩, Split.ent' (by repeat (first | exact Split.nil | (apply Split.cons; (repeat (first | with_reducible exact Take.here | apply Take.there)))))⟩
    rintro env L ⟨hsub, hE⟩
    refine swp_sub _ hsub ?_
    refine swp_ent hE ?_
    clear hsub hE env L
    refine swp_seq ?_
    refine swp_region ?_
    refine s_pu (pu_move rfl) ?_
    refine s_pu (pu_move rfl) ?_
    refine s_pu (pu_str_hi m rfl rfl rfl (by rw [tsize]; exact h2')) ?_
    refine s_pu (pu_move rfl) ?_
    refine s_pu (pu_str_add rfl rfl (by rw [ext_take', tsize, List.length_take]; omega)) ?_
    refine s_pu (pu_move rfl) ?_
    refine s_pu (pu_str_add rfl rfl (by rw [ext_take', str_app, tsize, tsize, List.length_append, List.length_take, List.length_drop]; omega)) ?_
    refine s_pu (pu_assign rfl) ?_
    refine swl_sub _ (.cons (t := 0) rfl (.cons (t := 9) rfl (.cons (t := 14) rfl .nil))) ?_
    refine swl_nil ?_
    refine then_n ?_
    refine swp_seq ?_
    rw [ext_take', str_app, str_app, ← hB]
    refine swp_region ?_
    refine s_pu (pu_move rfl) ?_
    first | refine s_pu (pu_nilCheck rfl) ?_ | refine s_pu (pu_nilCheck_fn rfl) ?_ | refine s_pu (pu_nilCheck_if rfl) ?_
    first | refine s_pu (pu_fieldAddr0 rfl) ?_ | refine s_pu (pu_fieldAddr rfl) ?_
    refine s_rd (rd_load rfl rfl) ?_
    refine s_pu (pu_move rfl) ?_
    refine s_pu (pu_move rfl) ?_
    refine s_pu (pu_move rfl) ?_
    refine s_pu (pu_strlen rfl) ?_
    refine s_pu (pu_bld (qs := [(0, _), (1, _)]) rfl) ?_
    refine s_pu (pu_indexAddr (0 + j * 2) rfl rfl (by omega) (by omega) (by rw [Int.toNat_natCast])) ?_
    refine s_ef0 (ef_store_ownA (vs := rF1 ⟨B, B.length⟩) rfl (by rw [tsize]; rfl) (by repeat (first | exact Split.nil | (apply Split.cons; (repeat (first | with_reducible exact Take.here | apply Take.there))))) (by rw [hfl]; show 0 + j * 2 + 2 ≤ _; omega) rfl rfl) ?_
    refine swl_sub _ .nil ?_
    refine swl_nil ?_
    refine then_n ?_
    refine swp_seq ?_
    refine swp_region ?_
    refine s_pu (pu_assign rfl) ?_
    refine swl_sub _ (.cons (t := 8) rfl .nil) ?_
    refine swl_nil ?_
    refine then_n ?_
    refine swp_ret ?_
    rw [key, Nat.zero_add, flat_over2 (f := rF1) (n := 2) (fun _ => rfl) hj]
    refine done_retE [RDA p (d.setF j ⟨B, B.length⟩)] (.tmp rfl .nil) ⟨rfl, rfl⟩ ?_
    exact Ent.trans (Split.ent' (K := [blk p 64 (rdC d.quota (.slice (some ⟨b, 0, none⟩) d.files.length c) sv av wv d.falls d.off), own 99 2 (.slice (some ⟨b, 0, none⟩) d.files.length c) d.files.length ((d.files.set j ⟨B, B.length⟩).flatMap rF1), own 97 2 sv d.seen.length (d.seen.flatMap rN1), own 97 2 av d.safe.length (d.safe.flatMap rN1), own 95 3 wv d.pend.length (d.pend.flatMap rC1)]) (by repeat (first | exact Split.nil | (apply Split.cons; (repeat (first | with_reducible exact Take.here | apply Take.there)))))) rd_set
end SX
namespace SX
open Go Go.Proofs
/-- the files behind a crash, as far as i names are done -/
def filesK (d : Dk) (ns : List Nm) (keep : List Int) (i : Nat) : List Fl := (List.range d.files.length).map fun k => if (ns.take i).any (fun x => decide (x.2 = k)) = true then cutF keep k (d.fl k) else ⟨[], 0⟩
theorem filesK_len (d : Dk) (ns : List Nm) (keep : List Int) (i : Nat) : (filesK d ns keep i).length = d.files.length := by unfold filesK; simp
theorem filesK_zero (d : Dk) (ns : List Nm) (keep : List Int) : (filesK d ns keep 0).flatMap rF1 = (List.replicate d.files.length ()).flatMap fun _ => [.string ⟨#[]⟩, .int .i64 0] := by
  have e : filesK d ns keep 0 = List.replicate d.files.length ⟨[], 0⟩ := by
    unfold filesK
    rw [List.eq_replicate_iff]
    refine ⟨by simp, fun f hf => ?_⟩
    obtain ⟨k, _, rfl⟩ := List.mem_map.1 hf
    simp
  rw [e]
  generalize d.files.length = n
  induction n with
  | zero => rfl
  | succ n ih => rw [List.replicate_succ, List.replicate_succ, List.flatMap_cons, List.flatMap_cons, ih]; rfl
theorem filesK_succ {d : Dk} {ns : List Nm} {keep : List Int} {i : Nat} {y : Nm} (h : ns[i]? = some y) : filesK d ns keep (i + 1) = (filesK d ns keep i).set y.2 (cutF keep y.2 (d.fl y.2)) := by
  apply List.ext_getElem?
  intro k
  by_cases hk : k < d.files.length
  · have e1 : (filesK d ns keep (i + 1))[k]? = some (if (ns.take (i + 1)).any (fun x => decide (x.2 = k)) = true then cutF keep k (d.fl k) else ⟨[], 0⟩) := by
      unfold filesK; rw [List.getElem?_map, List.getElem?_range hk]; rfl
    have e2 : (filesK d ns keep i)[k]? = some (if (ns.take i).any (fun x => decide (x.2 = k)) = true then cutF keep k (d.fl k) else ⟨[], 0⟩) := by
      unfold filesK; rw [List.getElem?_map, List.getElem?_range hk]; rfl
    rw [e1]
    have e3 : (ns.take (i + 1)).any (fun x => decide (x.2 = k)) = ((ns.take i).any (fun x => decide (x.2 = k)) || decide (y.2 = k)) := by
      rw [List.take_add_one, h, List.any_append]; simp
    rw [e3]
    by_cases e : y.2 = k
    · subst e
      rw [List.getElem?_set_self (by rw [filesK_len]; exact hk), if_pos (by simp)]
    · rw [List.getElem?_set_ne e, e2, show decide (y.2 = k) = false from decide_eq_false e, Bool.or_false]
  · rw [List.getElem?_eq_none (by rw [filesK_len]; omega), List.getElem?_eq_none (by rw [List.length_set, filesK_len]; omega)]
theorem filesK_all (d : Dk) (n : Int) (keep : List Int) : filesK d (namesAt d n) keep (namesAt d n).length = (crashD d n keep).files := by
  unfold filesK crashD
  rw [List.take_length]
theorem chg_nos {n : Nat} {l : List Nm} (h : NmOk n l) : chgN l ⟨nos, nos, 0⟩ = l := by
  unfold chgN
  rw [if_pos (strEq_refl _), List.append_nil]
  refine List.filter_eq_self.2 fun y hy => ?_
  unfold keepN
  rw [goodN_ne (h.good y hy).1]; rfl
set_option maxHeartbeats 8000000 in
theorem rcrash_spec (μ : PH) (p : Nat) (d : Dk) (hd : d.Ok) (hw : Few d) (n : Int) (kv : Value) (keep : List Int) (hk : Row μ kv 1 keep.length (keep.flatMap (icsk .i64))) :
    Spec Try.prog 30 [pv p, .agg #[.int .i64 n, kv]] [RDA p d, ro μ] (fun _ L => L = [RDA p (crashD d n keep), ro μ]) := by
  refine RDA.open' fun ⟨fv, sv, av, wv⟩ => ?_
  have hff := hw.1
  have hpp := hw.2
  have hal : d.safe.length ≤ 64 := hd.hist 0
  obtain ⟨KK, hKK⟩ : ∃ K, K = min (max n 0).toNat d.pend.length := ⟨_, rfl⟩
  refine Spec.of 124 Try.func30 rfl rfl rfl ?_
  refine swp_seq ?_
  refine swp_region ?_
  refine s_ef (ef_box rfl rfl) ?_
  intro b3
  refine swl_sub _ (.cons (t := 0) rfl (.cons (t := 3) rfl .nil)) ?_
  refine swl_nil ?_
  refine then_n ?_
  refine swp_seq ?_
  refine swp_region ?_
  refine s_pu (pu_move rfl) ?_
  first | refine s_pu (pu_nilCheck rfl) ?_ | refine s_pu (pu_nilCheck_fn rfl) ?_ | refine s_pu (pu_nilCheck_if rfl) ?_
  first | refine s_pu (pu_fieldAddr0 rfl) ?_ | refine s_pu (pu_fieldAddr rfl) ?_
  refine s_rd (rd_load rfl rfl) ?_
  refine s_pu (pu_bld (qs := []) rfl) ?_
  refine s_ef (ef_fn (changed_spec av d.safe (by omega) ⟨nos, nos, 0⟩) rfl rfl (by repeat (first | exact Split.nil | (apply Split.cons; (repeat (first | with_reducible exact Take.here | apply Take.there)))))) ?_
  rintro v16 L1 ⟨_, rfl⟩
  rw [chg_nos hd.safe]
  refine swl_app ?_
  refine s_pu (pu_assign rfl) ?_
  refine swl_sub _ (.cons (t := 0) rfl (.cons (t := 3) rfl (.cons (t := 4) rfl .nil))) ?_
  refine swl_nil ?_
  refine then_n ?_
  refine swp_cut (fun env L => ∃ u, Sub env [(0, pv p), (3, pv b3), (4, u)] ∧ Ent L [own 97 2 u (namesAt d n).length ((namesAt d n).flatMap rN1), blk p 64 (rdC d.quota fv sv av wv d.falls d.off), own 99 2 fv d.files.length (d.files.flatMap rF1), blk b3 34 [.int .i64 n, kv], ro μ]) ?_ ?_
  · skip
    refine swp_seq ?_
    refine swp_region ?_
    refine s_pu (pu_assign rfl) ?_
    refine swl_sub _ (.cons (t := 0) rfl (.cons (t := 3) rfl (.cons (t := 4) rfl (.cons (t := 5) rfl .nil)))) ?_
    refine swl_nil ?_
    refine then_n ?_
    refine swp_block ?_
    refine swp_loop (ι := Nat) (fun i env L => ∃ u, Sub env [(0, pv p), (3, pv b3), (4, u), (5, .int .i64 (i : Nat))] ∧ Ent L [own 95 3 wv d.pend.length (d.pend.flatMap rC1), own 97 2 u (namesK d i).length ((namesK d i).flatMap rN1), blk p 64 (rdC d.quota fv sv av wv d.falls d.off), own 99 2 fv d.files.length (d.files.flatMap rF1), own 97 2 sv d.seen.length (d.seen.flatMap rN1), blk b3 34 [.int .i64 n, kv], ro μ] ∧ i ≤ KK) (fun i => KK - i) 0 ⟨v16, ⟨rfl, rfl, rfl, rfl, trivial⟩, (show Ent _ [own 95 3 wv d.pend.length (d.pend.flatMap rC1), own 97 2 v16 d.safe.length (d.safe.flatMap rN1), blk p 64 (rdC d.quota fv sv av wv d.falls d.off), own 99 2 fv d.files.length (d.files.flatMap rF1), own 97 2 sv d.seen.length (d.seen.flatMap rN1), blk b3 34 [.int .i64 n, kv], ro μ] from Split.ent' (by repeat (first | exact Split.nil | (apply Split.cons; (repeat (first | with_reducible exact Take.here | apply Take.there)))))), Nat.zero_le _⟩ ?_
    rintro i env L ⟨u, hsub, hE, hi⟩
    refine swp_sub _ hsub ?_
    refine swp_ent hE ?_
    clear hsub hE env L
    refine swp_fact (fun m h => own_form h) fun hform => ?_
    have hnl : (namesK d i).length ≤ 64 := hd.hist i
    refine swp_seq ?_
    refine swp_seq ?_
    refine swp_region ?_
    refine s_pu (pu_move rfl) ?_
    refine s_pu (pu_move rfl) ?_
    first | refine s_pu (pu_nilCheck rfl) ?_ | refine s_pu (pu_nilCheck_fn rfl) ?_ | refine s_pu (pu_nilCheck_if rfl) ?_
    first | refine s_pu (pu_fieldAddr0 rfl) ?_ | refine s_pu (pu_fieldAddr rfl) ?_
    refine s_rd (rd_load rfl rfl) ?_
    refine s_pu (pu_len_own hform rfl) ?_
    refine s_pu (pu_lss rfl rfl) ?_
    refine s_pu (pu_move rfl) ?_
    refine s_split 24 rfl (fun h24 => ?_) (fun h24 => ?_)
    · skip   -- 24 T
      refine s_on rfl rfl ?_
      refine s_pu (pu_move rfl) ?_
      refine s_on rfl rfl ?_
      first | refine s_pu (pu_fieldAddr0 rfl) ?_ | refine s_pu (pu_fieldAddr rfl) ?_
      refine s_on rfl rfl ?_
      refine s_rd (rd_load rfl rfl) ?_
      refine s_on rfl rfl ?_
      refine s_pu (pu_lss rfl rfl) ?_
      first | refine s_pu (pu_pick_t rfl rfl) ?_ | refine s_pu (pu_pick_f rfl rfl) ?_
      refine swl_sub _ (.cons (t := 0) rfl (.cons (t := 3) rfl (.cons (t := 4) rfl (.cons (t := 5) rfl (.cons (t := 29) rfl .nil))))) ?_
      refine swl_nil ?_
      refine then_n ?_
      refine swp_cond (b := _) rfl (fun h29 => ?_) (fun h29 => ?_)
      · skip   -- 29 T
        have h24' := of_decide_eq_true h24
        have h29' := of_decide_eq_true h29
        have hip : i < d.pend.length := by omega
        have hik : i < KK := by omega
        refine swp_fact (fun m h => own_pos h (by omega)) fun ⟨b, c, hwv, hlc, hcm⟩ => ?_
        subst hwv
        obtain ⟨cg, hcg⟩ : ∃ q, d.pend[i]? = some q := ⟨_, List.getElem?_eq_getElem hip⟩
        have hat := flat_at (f := rC1) (n := 3) (fun _ => rfl) hcg
        refine swp_skip ?_
        refine then_n ?_
        refine swp_seq ?_
        refine swp_block ?_
        refine swp_region ?_
        refine s_pu (pu_move rfl) ?_
        refine s_pu (pu_move rfl) ?_
        first | refine s_pu (pu_nilCheck rfl) ?_ | refine s_pu (pu_nilCheck_fn rfl) ?_ | refine s_pu (pu_nilCheck_if rfl) ?_
        first | refine s_pu (pu_fieldAddr0 rfl) ?_ | refine s_pu (pu_fieldAddr rfl) ?_
        refine s_rd (rd_load rfl rfl) ?_
        refine s_pu (pu_move rfl) ?_
        refine s_pu (pu_indexAddr (0 + i * 3) rfl rfl (by omega) (by omega) (by rw [Int.toNat_natCast])) ?_
        refine s_rd (rd_ownA (vs := rC1 cg) rfl (by repeat (first | with_reducible exact Take.here | apply Take.there)) rfl (fun j v hj => by rw [Nat.zero_add]; exact hat j v hj)) ?_
        refine s_ef (ef_fn (changed_spec u (namesK d i) (by omega) cg) rfl rfl (by repeat (first | exact Split.nil | (apply Split.cons; (repeat (first | with_reducible exact Take.here | apply Take.there)))))) ?_
        rintro v40 L1 ⟨_, rfl⟩
        refine swl_app ?_
        refine s_pu (pu_assign rfl) ?_
        refine swl_sub _ (.cons (t := 0) rfl (.cons (t := 3) rfl (.cons (t := 4) rfl (.cons (t := 5) rfl .nil)))) ?_
        refine swl_nil ?_
        refine block_n ?_
        refine then_n ?_
        refine swp_region ?_
        refine s_pu (pu_move rfl) ?_
        refine s_pu (pu_add_as ((i + 1 : Nat) : Int) rfl rfl (by omega) (by omega) (by omega)) ?_
        refine s_pu (pu_assign rfl) ?_
        refine swl_sub _ (.cons (t := 0) rfl (.cons (t := 3) rfl (.cons (t := 4) rfl (.cons (t := 5) rfl .nil)))) ?_
        refine swl_nil ?_
        refine then_n ⟨i + 1, ⟨v40, ⟨rfl, rfl, rfl, rfl, trivial⟩, ?_, hik⟩, by omega⟩
        rw [namesK_step hcg]
        exact Split.ent' (by repeat (first | exact Split.nil | (apply Split.cons; (repeat (first | with_reducible exact Take.here | apply Take.there)))))
      · skip   -- 29 F
        refine swp_exit ?_
        refine then_x ?_
        refine then_x ?_
        refine block_hit rfl ?_
        have hik : i = KK := by
          have h1 : d.pend.length ≤ i ∨ n ≤ i := by
            first
              | (have h29' := of_decide_eq_false h29; exact .inr (by omega))
              | (have h24' := of_decide_eq_false h24; exact .inl (by omega))
          omega
        have hns : namesK d i = namesAt d n := by rw [hik, hKK]; rfl
        rw [hns]
        exact then_n ⟨u, ⟨rfl, rfl, rfl, trivial⟩, Split.ent' (by repeat (first | exact Split.nil | (apply Split.cons; (repeat (first | with_reducible exact Take.here | apply Take.there)))))⟩
    · skip   -- 24 F
      refine s_off rfl rfl rfl ?_
      refine s_off rfl rfl rfl ?_
      refine s_off rfl rfl rfl ?_
      refine s_off rfl rfl rfl ?_
      first | refine s_pu (pu_pick_t rfl rfl) ?_ | refine s_pu (pu_pick_f rfl rfl) ?_
      refine swl_sub _ (.cons (t := 0) rfl (.cons (t := 3) rfl (.cons (t := 4) rfl (.cons (t := 5) rfl (.cons (t := 29) rfl .nil))))) ?_
      refine swl_nil ?_
      refine then_n ?_
      refine swp_cond (b := _) rfl (fun h29 => by cases h29) (fun h29 => ?_)
      refine swp_exit ?_
      refine then_x ?_
      refine then_x ?_
      refine block_hit rfl ?_
      have hik : i = KK := by
        have h1 : d.pend.length ≤ i ∨ n ≤ i := by
          first
            | (have h29' := of_decide_eq_false h29; exact .inr (by omega))
            | (have h24' := of_decide_eq_false h24; exact .inl (by omega))
        omega
      have hns : namesK d i = namesAt d n := by rw [hik, hKK]; rfl
      rw [hns]
      exact then_n ⟨u, ⟨rfl, rfl, rfl, trivial⟩, Split.ent' (by repeat (first | exact Split.nil | (apply Split.cons; (repeat (first | with_reducible exact Take.here | apply Take.there)))))⟩
  rintro env L ⟨u, hsub, hE⟩
  refine swp_sub _ hsub ?_
  refine swp_ent hE ?_
  clear hsub hE env L
  have hnl : (namesAt d n).length ≤ 64 := hd.hist _
  have hno : NmOk d.files.length (namesAt d n) := by rw [namesAt_eq]; exact namesK_ok hd _
  have hfin := filesK_all d n keep
  have hz0 := filesK_zero d (namesAt d n) keep
  refine swp_fact (fun m h => own_cap2 h) fun ⟨A1, c1, hu, hlc1, hcm1, hA1, hA2⟩ => ?_
  simp only [maxLen] at hcm1
  subst hu
  refine swp_ent (Split.ent' (K := [own 99 2 fv d.files.length (d.files.flatMap rF1), own 97 2 (.slice A1 (namesAt d n).length c1) (namesAt d n).length ((namesAt d n).flatMap rN1), blk p 64 (rdC d.quota fv sv av wv d.falls d.off), blk b3 34 [.int .i64 n, kv], ro μ]) (by repeat (first | exact Split.nil | (apply Split.cons; (repeat (first | with_reducible exact Take.here | apply Take.there)))))) ?_
  refine swp_fact (fun m h => own_form h) fun hfform => ?_
  refine swp_seq ?_
  refine swp_region ?_
  refine s_pu (pu_move rfl) ?_
  first | refine s_pu (pu_nilCheck rfl) ?_ | refine s_pu (pu_nilCheck_fn rfl) ?_ | refine s_pu (pu_nilCheck_if rfl) ?_
  first | refine s_pu (pu_fieldAddr0 rfl) ?_ | refine s_pu (pu_fieldAddr rfl) ?_
  refine s_rd (rd_load rfl rfl) ?_
  refine s_pu (pu_len_own hfform rfl) ?_
  refine s_ef (ef_makeN d.files.length rfl rfl rfl (by omega) (by simp only [maxLen]; omega)) ?_
  rintro b46
  skip
  refine s_pu (pu_assign rfl) ?_
  refine swl_sub _ (.cons (t := 0) rfl (.cons (t := 3) rfl (.cons (t := 4) rfl (.cons (t := 6) rfl .nil)))) ?_
  refine swl_nil ?_
  refine then_n ?_
  refine swp_seq ?_
  refine swp_seq ?_
  refine swp_region ?_
  refine s_pu (pu_assign rfl) ?_
  refine swl_sub _ (.cons (t := 0) rfl (.cons (t := 3) rfl (.cons (t := 4) rfl (.cons (t := 6) rfl (.cons (t := 7) rfl .nil))))) ?_
  refine swl_nil ?_
  refine then_n ?_
  refine swp_block ?_
  rw [← hz0]
  refine swp_ent (Split.ent' (K := [own 99 2 (.slice (some ⟨b46, 0, none⟩) d.files.length d.files.length) d.files.length ((filesK d (namesAt d n) keep 0).flatMap rF1), own 99 2 fv d.files.length (d.files.flatMap rF1), own 97 2 (.slice A1 (namesAt d n).length c1) (namesAt d n).length ((namesAt d n).flatMap rN1), blk p 64 (rdC d.quota fv sv av wv d.falls d.off), blk b3 34 [.int .i64 n, kv], ro μ]) (by repeat (first | exact Split.nil | (apply Split.cons; (repeat (first | with_reducible exact Take.here | apply Take.there)))))) ?_
  refine swp_loop (ι := Nat) (fun i env L => Sub env [(0, pv p), (3, pv b3), (4, .slice A1 (namesAt d n).length c1), (6, .slice (some ⟨b46, 0, none⟩) d.files.length d.files.length), (7, .int .i64 (i : Nat))] ∧ Ent L [own 99 2 fv d.files.length (d.files.flatMap rF1), own 99 2 (.slice (some ⟨b46, 0, none⟩) d.files.length d.files.length) d.files.length ((filesK d (namesAt d n) keep i).flatMap rF1), own 97 2 (.slice A1 (namesAt d n).length c1) (namesAt d n).length ((namesAt d n).flatMap rN1), blk p 64 (rdC d.quota fv sv av wv d.falls d.off), blk b3 34 [.int .i64 n, kv], ro μ] ∧ i ≤ (namesAt d n).length) (fun i => (namesAt d n).length - i) 0 ⟨⟨rfl, rfl, rfl, rfl, rfl, trivial⟩, Split.ent' (by repeat (first | exact Split.nil | (apply Split.cons; (repeat (first | with_reducible exact Take.here | apply Take.there))))), Nat.zero_le _⟩ ?_
  rintro i env L ⟨hsub, hE, hi⟩
  refine swp_sub _ hsub ?_
  refine swp_ent hE ?_
  clear hsub hE env L
  refine swp_seq ?_
  refine swp_seq ?_
  refine swp_region ?_
  refine s_pu (pu_move rfl) ?_
  refine s_pu (pu_move rfl) ?_
  refine s_pu (pu_len rfl) ?_
  refine s_pu (pu_lss rfl rfl) ?_
  refine swl_sub _ (.cons (t := 0) rfl (.cons (t := 3) rfl (.cons (t := 4) rfl (.cons (t := 6) rfl (.cons (t := 7) rfl (.cons (t := 50) rfl .nil)))))) ?_
  refine swl_nil ?_
  refine then_n ?_
  refine swp_cond (b := _) rfl (fun h50 => ?_) (fun h50 => ?_)
  · skip   -- 50 T
    have h50' : i < (namesAt d n).length := by have := of_decide_eq_true h50; omega
    obtain ⟨a, ha⟩ : ∃ a, A1 = some a := by cases A1 with | none => have := hA1 rfl; omega | some a => exact ⟨a, rfl⟩
    obtain ⟨b, rfl⟩ := hA2 a ha
    subst ha
    obtain ⟨y, hy⟩ : ∃ y, (namesAt d n)[i]? = some y := ⟨_, List.getElem?_eq_getElem h50'⟩
    have hcell := flat_at (f := rN1) (n := 2) (fun _ => rfl) hy 1 _ rfl
    have hj : y.2 < d.files.length := (hno.good y (List.mem_of_getElem? hy)).2
    have hat := flat_at (f := rF1) (n := 2) (fun _ => rfl) (fl_at hj)
    have hok := Dk.fl_ok hd y.2
    simp only [mostF] at hok
    have hmo := moreF_le keep y.2 (d.fl y.2) hok.2
    refine swp_fact (fun m h => own_pos h (by omega)) fun ⟨b2, c2, hfv, hlc2, hcm2⟩ => ?_
    subst hfv
    refine swp_skip ?_
    refine then_n ?_
    refine swp_seq ?_
    refine swp_block ?_
    refine swp_seq ?_
    refine swp_region ?_
    refine s_pu (pu_move rfl) ?_
    refine s_pu (pu_move rfl) ?_
    refine s_pu (pu_indexAddr (0 + i * 2) rfl rfl (by omega) (by omega) (by rw [Int.toNat_natCast])) ?_
    first | refine s_pu (pu_fieldAddr0 rfl) ?_ | refine s_pu (pu_fieldAddr rfl) ?_
    refine s_rd (rd_own rfl (by repeat (first | with_reducible exact Take.here | apply Take.there)) (by rw [Nat.zero_add]; exact hcell)) ?_
    refine s_pu (pu_assign rfl) ?_
    refine swl_sub _ (.cons (t := 0) rfl (.cons (t := 3) rfl (.cons (t := 4) rfl (.cons (t := 6) rfl (.cons (t := 7) rfl (.cons (t := 8) rfl .nil)))))) ?_
    refine swl_nil ?_
    refine then_n ?_
    refine swp_seq ?_
    refine swp_region ?_
    refine s_pu (pu_move rfl) ?_
    first | refine s_pu (pu_nilCheck rfl) ?_ | refine s_pu (pu_nilCheck_fn rfl) ?_ | refine s_pu (pu_nilCheck_if rfl) ?_
    first | refine s_pu (pu_fieldAddr0 rfl) ?_ | refine s_pu (pu_fieldAddr rfl) ?_
    refine s_rd (rd_load rfl rfl) ?_
    refine s_pu (pu_move rfl) ?_
    refine s_pu (pu_indexAddr (0 + y.2 * 2) rfl rfl (by omega) (by omega) (by rw [Int.toNat_natCast])) ?_
    refine s_rd (rd_ownA (vs := rF1 (d.fl y.2)) rfl (by repeat (first | with_reducible exact Take.here | apply Take.there)) rfl (fun j v hj => by rw [Nat.zero_add]; exact hat j v hj)) ?_
    refine s_ef (ef_alloc) ?_
    intro b9
    refine s_ef0 (ef_storeA rfl rfl rfl rfl) ?_
    refine swl_sub _ (.cons (t := 0) rfl (.cons (t := 3) rfl (.cons (t := 4) rfl (.cons (t := 6) rfl (.cons (t := 7) rfl (.cons (t := 8) rfl (.cons (t := 9) rfl .nil))))))) ?_
    refine swl_nil ?_
    refine then_n ?_
    refine swp_seq ?_
    refine swp_region ?_
    refine s_pu (pu_assign rfl) ?_
    refine swl_sub _ (.cons (t := 0) rfl (.cons (t := 3) rfl (.cons (t := 4) rfl (.cons (t := 6) rfl (.cons (t := 7) rfl (.cons (t := 8) rfl (.cons (t := 9) rfl (.cons (t := 10) rfl .nil)))))))) ?_
    refine swl_nil ?_
    refine then_n ?_
    refine swp_cut (fun env L => Sub env [(0, pv p), (3, pv b3), (4, .slice (some ⟨b, 0, none⟩) (namesAt d n).length c1), (6, .slice (some ⟨b46, 0, none⟩) d.files.length d.files.length), (7, .int .i64 (i : Nat)), (8, .int .i64 (y.2 : Nat)), (9, pv b9), (10, .int .i64 (moreF keep y.2 (d.fl y.2) : Nat))] ∧ Ent L [own 99 2 (.slice (some ⟨b2, 0, none⟩) d.files.length c2) d.files.length (d.files.flatMap rF1), own 99 2 (.slice (some ⟨b46, 0, none⟩) d.files.length d.files.length) d.files.length ((filesK d (namesAt d n) keep i).flatMap rF1), own 97 2 (.slice (some ⟨b, 0, none⟩) (namesAt d n).length c1) (namesAt d n).length ((namesAt d n).flatMap rN1), blk p 64 (rdC d.quota (.slice (some ⟨b2, 0, none⟩) d.files.length c2) sv av wv d.falls d.off), blk b3 34 [.int .i64 n, kv], blk b9 99 (rF1 (d.fl y.2)), ro μ]) ?_ ?_
    · skip
      refine swp_seq ?_
      refine swp_region ?_
      first | refine s_pu (pu_fieldAddr0 rfl) ?_ | refine s_pu (pu_fieldAddr rfl) ?_
      refine s_rd (rd_load rfl rfl) ?_
      refine s_pu (pu_len_row hk rfl) ?_
      refine s_pu (pu_gtr rfl rfl) ?_
      refine swl_sub _ (.cons (t := 0) rfl (.cons (t := 3) rfl (.cons (t := 4) rfl (.cons (t := 6) rfl (.cons (t := 7) rfl (.cons (t := 8) rfl (.cons (t := 9) rfl (.cons (t := 10) rfl (.cons (t := 68) rfl .nil))))))))) ?_
      refine swl_nil ?_
      refine then_n ?_
      refine swp_cond (b := _) rfl (fun h68 => ?_) (fun h68 => ?_)
      · skip   -- 68 T
        have h68' : 0 < keep.length := by have := of_decide_eq_true h68; omega
        have hjj : y.2 % keep.length < keep.length := Nat.mod_lt _ h68'
        obtain ⟨kb, ko, kc, hkv, hkc, hkm, hkr⟩ := hk.pos h68'
        have hkj : keep[y.2 % keep.length]? = some keep[y.2 % keep.length] := List.getElem?_eq_getElem hjj
        have hkcell := (hkr.elem (f := icsk .i64) (n := 1) (fun _ => rfl) hkj).cell
        have hts := tsize (d.fl y.2).bytes
        refine swp_draw [1, 4, 8, 11, 14] _ [] (by simp only [List.append_nil]; exact Ent.refl _) (by kernel_rfl) ?_
        first | refine d_pu 0 rfl (pu_fieldAddr0 rfl) (by kernel_rfl) (by kernel_rfl) (by kernel_rfl) ?_ | refine d_pu 0 rfl (pu_fieldAddr rfl) (by kernel_rfl) (by kernel_rfl) (by kernel_rfl) ?_
        refine d_rd 1 rfl (rd_load rfl rfl) rfl (by kernel_rfl) (by kernel_rfl) (by kernel_rfl) ?_
        refine d_pu 2 rfl (pu_move rfl) (by kernel_rfl) (by kernel_rfl) (by kernel_rfl) ?_
        first | refine d_pu 3 rfl (pu_fieldAddr0 rfl) (by kernel_rfl) (by kernel_rfl) (by kernel_rfl) ?_ | refine d_pu 3 rfl (pu_fieldAddr rfl) (by kernel_rfl) (by kernel_rfl) (by kernel_rfl) ?_
        refine d_rd 4 rfl (rd_load rfl rfl) rfl (by kernel_rfl) (by kernel_rfl) (by kernel_rfl) ?_
        refine d_pu 5 rfl (pu_len_row hk rfl) (by kernel_rfl) (by kernel_rfl) (by kernel_rfl) ?_
        refine d_pu 6 rfl (pu_rem_nat rfl rfl h68') (by kernel_rfl) (by kernel_rfl) (by kernel_rfl) ?_
        refine d_pu 7 rfl (pu_indexAddr (ko + (y.2 % keep.length) * 1) (congrArg some hkv) rfl (by omega) (by omega) (by rw [Int.toNat_natCast])) (by kernel_rfl) (by kernel_rfl) (by kernel_rfl) ?_
        refine d_rd 8 rfl (rd_ro rfl hkcell) rfl (by kernel_rfl) (by kernel_rfl) (by kernel_rfl) ?_
        refine d_pu 9 rfl (pu_max2 rfl rfl) (by kernel_rfl) (by kernel_rfl) (by kernel_rfl) ?_
        first | refine d_pu 10 rfl (pu_fieldAddr0 rfl) (by kernel_rfl) (by kernel_rfl) (by kernel_rfl) ?_ | refine d_pu 10 rfl (pu_fieldAddr rfl) (by kernel_rfl) (by kernel_rfl) (by kernel_rfl) ?_
        refine d_rd 11 rfl (rd_load rfl rfl) rfl (by kernel_rfl) (by kernel_rfl) (by kernel_rfl) ?_
        refine d_pu 12 rfl (pu_strlen rfl) (by kernel_rfl) (by kernel_rfl) (by kernel_rfl) ?_
        first | refine d_pu 13 rfl (pu_fieldAddr0 rfl) (by kernel_rfl) (by kernel_rfl) (by kernel_rfl) ?_ | refine d_pu 13 rfl (pu_fieldAddr rfl) (by kernel_rfl) (by kernel_rfl) (by kernel_rfl) ?_
        refine d_rd 14 rfl (rd_load rfl rfl) rfl (by kernel_rfl) (by kernel_rfl) (by kernel_rfl) ?_
        refine d_pu 15 rfl (pu_sub_as (((d.fl y.2).bytes.length : Int) - (d.fl y.2).safe) rfl rfl (by rw [hts]) (by omega) (by omega)) (by kernel_rfl) (by kernel_rfl) (by kernel_rfl) ?_
        refine d_pu 16 rfl (pu_min2 rfl rfl) (by kernel_rfl) (by kernel_rfl) (by kernel_rfl) ?_
        refine d_pu 17 rfl (pu_assign rfl) (by kernel_rfl) (by kernel_rfl) (by kernel_rfl) ?_
        refine d_sub _ (.cons (t := 0) rfl (.cons (t := 3) rfl (.cons (t := 4) rfl (.cons (t := 6) rfl (.cons (t := 7) rfl (.cons (t := 8) rfl (.cons (t := 9) rfl (.cons (t := 10) rfl .nil)))))))) ?_
        first | refine d_nilt (by kernel_rfl) ?_ | refine d_nilf (by kernel_rfl) ?_
        refine then_n ⟨⟨rfl, rfl, rfl, rfl, rfl, rfl, rfl, ?_, trivial⟩, Split.ent' (by repeat (first | exact Split.nil | (apply Split.cons; (repeat (first | with_reducible exact Take.here | apply Take.there)))))⟩
        have e1 : ((moreF keep y.2 (d.fl y.2) : Nat) : Int) = min (max keep[y.2 % keep.length] 0) (((d.fl y.2).bytes.length : Int) - (d.fl y.2).safe) := by
          unfold moreF; rw [if_neg (by omega), hkj, Option.getD_some]; omega
        rw [e1]; rfl
      · skip   -- 68 F
        refine swp_skip ?_
        have h68' : keep.length = 0 := by have := of_decide_eq_false h68; omega
        refine then_n ⟨⟨rfl, rfl, rfl, rfl, rfl, rfl, rfl, ?_, trivial⟩, Split.ent' (by repeat (first | exact Split.nil | (apply Split.cons; (repeat (first | with_reducible exact Take.here | apply Take.there)))))⟩
        have e1 : moreF keep y.2 (d.fl y.2) = 0 := by unfold moreF; rw [if_pos h68']
        rw [e1]; rfl
    rintro env L ⟨hsub, hE⟩
    refine swp_sub _ hsub ?_
    refine swp_ent hE ?_
    clear hsub hE env L
    have hfl : ((filesK d (namesAt d n) keep i).flatMap rF1).length = d.files.length * 2 := by rw [flat_length (f := rF1) (k := 2) (fun _ => rfl), filesK_len]
    refine swp_draw [3, 5, 10] _ [] (by simp only [List.append_nil]; exact Ent.refl _) (by kernel_rfl) ?_
    refine d_pu 0 rfl (pu_move rfl) (by kernel_rfl) (by kernel_rfl) (by kernel_rfl) ?_
    refine d_pu 1 rfl (pu_move rfl) (by kernel_rfl) (by kernel_rfl) (by kernel_rfl) ?_
    first | refine d_pu 2 rfl (pu_fieldAddr0 rfl) (by kernel_rfl) (by kernel_rfl) (by kernel_rfl) ?_ | refine d_pu 2 rfl (pu_fieldAddr rfl) (by kernel_rfl) (by kernel_rfl) (by kernel_rfl) ?_
    refine d_rd 3 rfl (rd_load rfl rfl) rfl (by kernel_rfl) (by kernel_rfl) (by kernel_rfl) ?_
    first | refine d_pu 4 rfl (pu_fieldAddr0 rfl) (by kernel_rfl) (by kernel_rfl) (by kernel_rfl) ?_ | refine d_pu 4 rfl (pu_fieldAddr rfl) (by kernel_rfl) (by kernel_rfl) (by kernel_rfl) ?_
    refine d_rd 5 rfl (rd_load rfl rfl) rfl (by kernel_rfl) (by kernel_rfl) (by kernel_rfl) ?_
    refine d_pu 6 rfl (pu_move rfl) (by kernel_rfl) (by kernel_rfl) (by kernel_rfl) ?_
    refine d_pu 7 rfl (pu_add_as (((d.fl y.2).safe + moreF keep y.2 (d.fl y.2) : Nat) : Int) rfl rfl (by omega) (by omega) (by omega)) (by kernel_rfl) (by kernel_rfl) (by kernel_rfl) ?_
    refine d_pu 8 rfl (pu_str_hi ((d.fl y.2).safe + moreF keep y.2 (d.fl y.2)) rfl rfl rfl (by rw [tsize]; exact hmo)) (by kernel_rfl) (by kernel_rfl) (by kernel_rfl) ?_
    first | refine d_pu 9 rfl (pu_fieldAddr0 rfl) (by kernel_rfl) (by kernel_rfl) (by kernel_rfl) ?_ | refine d_pu 9 rfl (pu_fieldAddr rfl) (by kernel_rfl) (by kernel_rfl) (by kernel_rfl) ?_
    refine d_rd 10 rfl (rd_load rfl rfl) rfl (by kernel_rfl) (by kernel_rfl) (by kernel_rfl) ?_
    refine d_pu 11 rfl (pu_move rfl) (by kernel_rfl) (by kernel_rfl) (by kernel_rfl) ?_
    refine d_pu 12 rfl (pu_add_as (((d.fl y.2).safe + moreF keep y.2 (d.fl y.2) : Nat) : Int) rfl rfl (by omega) (by omega) (by omega)) (by kernel_rfl) (by kernel_rfl) (by kernel_rfl) ?_
    refine d_pu 13 rfl (pu_bld (qs := [(0, _), (1, _)]) rfl) (by kernel_rfl) (by kernel_rfl) (by kernel_rfl) ?_
    refine d_pu 14 rfl (pu_indexAddr (0 + y.2 * 2) rfl rfl (by omega) (by omega) (by rw [Int.toNat_natCast])) (by kernel_rfl) (by kernel_rfl) (by kernel_rfl) ?_
    first | refine d_fin0t 15 rfl (by kernel_rfl) (by kernel_rfl) (ef_store_ownA (vs := rF1 (cutF keep y.2 (d.fl y.2))) rfl (by rw [ext_take']; rfl) (by repeat (first | exact Split.nil | (apply Split.cons; (repeat (first | with_reducible exact Take.here | apply Take.there))))) (by rw [hfl]; show 0 + y.2 * 2 + 2 ≤ _; omega) rfl rfl) ?_ | refine d_fin0f 15 rfl (by kernel_rfl) (by kernel_rfl) (ef_store_ownA (vs := rF1 (cutF keep y.2 (d.fl y.2))) rfl (by rw [ext_take']; rfl) (by repeat (first | exact Split.nil | (apply Split.cons; (repeat (first | with_reducible exact Take.here | apply Take.there))))) (by rw [hfl]; show 0 + y.2 * 2 + 2 ≤ _; omega) rfl rfl) ?_
    refine d_sub _ (.cons (t := 0) rfl (.cons (t := 3) rfl (.cons (t := 4) rfl (.cons (t := 6) rfl (.cons (t := 7) rfl .nil))))) ?_
    first | refine d_nilt (by kernel_rfl) ?_ | refine d_nilf (by kernel_rfl) ?_
    refine block_n ?_
    refine then_n ?_
    refine swp_region ?_
    refine s_pu (pu_move rfl) ?_
    refine s_pu (pu_add_as ((i + 1 : Nat) : Int) rfl rfl (by omega) (by omega) (by omega)) ?_
    refine s_pu (pu_assign rfl) ?_
    refine swl_sub _ (.cons (t := 0) rfl (.cons (t := 3) rfl (.cons (t := 4) rfl (.cons (t := 6) rfl (.cons (t := 7) rfl .nil))))) ?_
    refine swl_nil ?_
    rw [Nat.zero_add, flat_over2 (f := rF1) (n := 2) (fun _ => rfl) (show y.2 < (filesK d (namesAt d n) keep i).length by rw [filesK_len]; exact hj), ← filesK_succ hy]
    exact then_n ⟨i + 1, ⟨⟨rfl, rfl, rfl, rfl, rfl, trivial⟩, Split.ent' (by repeat (first | exact Split.nil | (apply Split.cons; (repeat (first | with_reducible exact Take.here | apply Take.there))))), h50'⟩, by omega⟩
  · skip   -- 50 F
    have h50' : i = (namesAt d n).length := by have := of_decide_eq_false h50; omega
    subst h50'
    rw [hfin]
    refine swp_exit ?_
    refine then_x ?_
    refine then_x ?_
    refine block_hit rfl ?_
    refine then_n ?_
    refine swp_seq ?_
    refine swp_region ?_
    refine s_pu (pu_move rfl) ?_
    refine s_pu (pu_move rfl) ?_
    first | refine s_pu (pu_nilCheck rfl) ?_ | refine s_pu (pu_nilCheck_fn rfl) ?_ | refine s_pu (pu_nilCheck_if rfl) ?_
    first | refine s_pu (pu_fieldAddr0 rfl) ?_ | refine s_pu (pu_fieldAddr rfl) ?_
    refine s_ef0 (ef_store rfl rfl rfl) ?_
    refine swl_sub _ (.cons (t := 0) rfl (.cons (t := 4) rfl .nil)) ?_
    refine swl_nil ?_
    refine then_n ?_
    refine swp_seq ?_
    refine swp_region ?_
    refine s_pu (pu_move rfl) ?_
    refine s_pu (pu_move rfl) ?_
    first | refine s_pu (pu_nilCheck rfl) ?_ | refine s_pu (pu_nilCheck_fn rfl) ?_ | refine s_pu (pu_nilCheck_if rfl) ?_
    first | refine s_pu (pu_fieldAddr0 rfl) ?_ | refine s_pu (pu_fieldAddr rfl) ?_
    refine s_ef0 (ef_store rfl rfl rfl) ?_
    refine swl_sub _ (.cons (t := 0) rfl (.cons (t := 4) rfl .nil)) ?_
    refine swl_nil ?_
    refine then_n ?_
    refine swp_seq ?_
    refine swp_region ?_
    refine s_pu (pu_move rfl) ?_
    refine s_pu (pu_move rfl) ?_
    refine s_pu (pu_bld (qs := []) rfl) ?_
    refine s_ef (ef_fn (changed_spec (.slice A1 (namesAt d n).length c1) (namesAt d n) (by omega) ⟨nos, nos, 0⟩) rfl rfl (by repeat (first | exact Split.nil | (apply Split.cons; (repeat (first | with_reducible exact Take.here | apply Take.there)))))) ?_
    rintro v112 L1 ⟨⟨A3, c3, rfl⟩, rfl⟩
    rw [chg_nos hno]
    refine swl_app ?_
    first | refine s_pu (pu_nilCheck rfl) ?_ | refine s_pu (pu_nilCheck_fn rfl) ?_ | refine s_pu (pu_nilCheck_if rfl) ?_
    first | refine s_pu (pu_fieldAddr0 rfl) ?_ | refine s_pu (pu_fieldAddr rfl) ?_
    refine s_ef0 (ef_store rfl rfl rfl) ?_
    refine swl_sub _ (.cons (t := 0) rfl .nil) ?_
    refine swl_nil ?_
    refine then_n ?_
    refine swp_seq ?_
    refine swp_region ?_
    refine s_pu (pu_move rfl) ?_
    first | refine s_pu (pu_nilCheck rfl) ?_ | refine s_pu (pu_nilCheck_fn rfl) ?_ | refine s_pu (pu_nilCheck_if rfl) ?_
    first | refine s_pu (pu_fieldAddr0 rfl) ?_ | refine s_pu (pu_fieldAddr rfl) ?_
    refine s_ef0 (ef_store rfl rfl rfl) ?_
    refine swl_sub _ (.cons (t := 0) rfl .nil) ?_
    refine swl_nil ?_
    refine then_n ?_
    refine swp_seq ?_
    refine swp_region ?_
    refine s_pu (pu_move rfl) ?_
    first | refine s_pu (pu_nilCheck rfl) ?_ | refine s_pu (pu_nilCheck_fn rfl) ?_ | refine s_pu (pu_nilCheck_if rfl) ?_
    first | refine s_pu (pu_fieldAddr0 rfl) ?_ | refine s_pu (pu_fieldAddr rfl) ?_
    refine s_ef0 (ef_store rfl rfl rfl) ?_
    refine swl_sub _ (.cons (t := 0) rfl .nil) ?_
    refine swl_nil ?_
    refine then_n ?_
    refine swp_region ?_
    refine s_pu (pu_move rfl) ?_
    first | refine s_pu (pu_nilCheck rfl) ?_ | refine s_pu (pu_nilCheck_fn rfl) ?_ | refine s_pu (pu_nilCheck_if rfl) ?_
    first | refine s_pu (pu_fieldAddr0 rfl) ?_ | refine s_pu (pu_fieldAddr rfl) ?_
    refine s_ef0 (ef_store rfl rfl rfl) ?_
    refine swl_sub _ .nil ?_
    refine swl_nil ?_
    refine done_endE [RDA p (crashD d n keep), ro μ] .nil rfl ?_
    refine Ent.trans (own_nil_ent (e := 95) (n := 3)) ?_
    have e1 : (crashD d n keep).files.length = d.files.length := by rw [← hfin, filesK_len]
    rw [← e1]
    exact Ent.trans (Split.ent' (K := [blk p 64 (rdC d.quota (.slice (some ⟨b46, 0, none⟩) (crashD d n keep).files.length (crashD d n keep).files.length) (.slice A1 (namesAt d n).length c1) (.slice A3 (namesAt d n).length c3) (.slice none 0 0) 0 false), own 99 2 (.slice (some ⟨b46, 0, none⟩) (crashD d n keep).files.length (crashD d n keep).files.length) (crashD d n keep).files.length ((crashD d n keep).files.flatMap rF1), own 97 2 (.slice A1 (namesAt d n).length c1) (namesAt d n).length ((namesAt d n).flatMap rN1), own 97 2 (.slice A3 (namesAt d n).length c3) (namesAt d n).length ((namesAt d n).flatMap rN1), own 95 3 (.slice none 0 0) 0 [], ro μ]) (by repeat (first | exact Split.nil | (apply Split.cons; (repeat (first | with_reducible exact Take.here | apply Take.there)))))) (rd_close (d := crashD d n keep) (x := ⟨.slice (some ⟨b46, 0, none⟩) (crashD d n keep).files.length (crashD d n keep).files.length, .slice A1 (namesAt d n).length c1, .slice A3 (namesAt d n).length c3, .slice none 0 0⟩))
end SX
namespace SX
open Go Go.Proofs
set_option maxHeartbeats 8000000 in
theorem lstep_spec (μ : PH) (p q : Nat) (da db : Dk) (hda : da.Ok) (hwa : Few da) (hdb : db.Ok) (hwb : Few db) (o : OpA) (ho : OpOk μ o) (ht : o.text.size ≤ 140737488351232) :
    Spec Try.prog 20 [pv p, pv q, .agg (ocs o).toArray] [FSA p da, RDA q db, ro μ] (fun r L => ∃ b μ', r = .bool b ∧ (da = db → b = true) ∧ Le μ μ' ∧ L = [FSA p (opD da o), RDA q (opD db o), ro μ']) := by
  obtain ⟨A, l, cap, hkv⟩ : ∃ A l cap, o.kv = .slice A l cap := by obtain ⟨_, A, cap, h, _⟩ := ho.keep; exact ⟨A, _, cap, h⟩
  have hkeep := ho.keep
  obtain ⟨m, hm⟩ : ∃ m : Nat, o.kind = (m : Int) := ⟨o.kind.toNat, by have := ho.kind.1; omega⟩
  obtain ⟨kd, s1, s2, s3, n, fn, kv, ks⟩ := o
  dsimp only at hm hkv hkeep ht
  subst hkv hm
  refine Spec.of 160 Try.func20 rfl rfl rfl ?_
  refine swp_seq ?_
  refine swp_region ?_
  refine s_ef (ef_box rfl rfl) ?_
  intro b5
  refine s_pu (pu_assign rfl) ?_
  refine swl_sub _ (.cons (t := 0) rfl (.cons (t := 1) rfl (.cons (t := 5) rfl .nil))) ?_
  refine swl_nil ?_
  refine then_n ?_
  refine swp_seq ?_
  refine swp_seq ?_
  refine swp_region ?_
  first | refine s_pu (pu_fieldAddr0 rfl) ?_ | refine s_pu (pu_fieldAddr rfl) ?_
  refine s_rd (rd_load rfl rfl) ?_
  refine s_pu (pu_rem_nat (a := m) (b := 12) rfl rfl (by decide)) ?_
  refine swl_sub _ (.cons (t := 0) rfl (.cons (t := 1) rfl (.cons (t := 5) rfl (.cons (t := 13) rfl .nil)))) ?_
  refine swl_nil ?_
  refine then_n ?_
  refine swp_block ?_
  refine swp_seq ?_
  refine swp_region ?_
  refine s_pu (pu_eql rfl rfl) ?_
  refine s_pu (pu_assign rfl) ?_
  refine swl_sub _ (.cons (t := 0) rfl (.cons (t := 1) rfl (.cons (t := 5) rfl (.cons (t := 13) rfl (.cons (t := 14) rfl .nil))))) ?_
  refine swl_nil ?_
  refine then_n ?_
  refine swp_cond (b := _) rfl (fun h14 => ?_) (fun h14 => ?_)
  · skip   -- 14 T
    refine swp_seq ?_
    refine swp_draw [2, 6] ([blk b5 43 (ocs ⟨(m : Nat), s1, s2, s3, n, fn, .slice A l cap, ks⟩), ro μ]) ([FSA p da, RDA q db]) (Split.ent (by repeat (first | exact Split.nil | (apply Split.cons; (repeat (first | with_reducible exact Take.here | apply Take.there)))))) (by kernel_rfl) ?_
    refine d_pu 0 rfl (pu_move rfl) (by kernel_rfl) (by kernel_rfl) (by kernel_rfl) ?_
    first | refine d_pu 1 rfl (pu_fieldAddr0 rfl) (by kernel_rfl) (by kernel_rfl) (by kernel_rfl) ?_ | refine d_pu 1 rfl (pu_fieldAddr rfl) (by kernel_rfl) (by kernel_rfl) (by kernel_rfl) ?_
    refine d_rd 2 rfl (rd_load rfl rfl) rfl (by kernel_rfl) (by kernel_rfl) (by kernel_rfl) ?_
    refine d_pu 4 rfl (pu_move rfl) (by kernel_rfl) (by kernel_rfl) (by kernel_rfl) ?_
    first | refine d_pu 5 rfl (pu_fieldAddr0 rfl) (by kernel_rfl) (by kernel_rfl) (by kernel_rfl) ?_ | refine d_pu 5 rfl (pu_fieldAddr rfl) (by kernel_rfl) (by kernel_rfl) (by kernel_rfl) ?_
    refine d_rd 6 rfl (rd_load rfl rfl) rfl (by kernel_rfl) (by kernel_rfl) (by kernel_rfl) ?_
    refine d_eft 3 rfl (by kernel_rfl) (ef_fn (create_spec p da hda hwa s1) rfl rfl (by repeat (first | exact Split.nil | (apply Split.cons; (repeat (first | with_reducible exact Take.here | apply Take.there)))))) ?_
    rintro v19 L1 ⟨rfl, rfl⟩
    refine ⟨_, ent_appC (Split.ent (by repeat (first | exact Split.nil | (apply Split.cons; (repeat (first | with_reducible exact Take.here | apply Take.there)))))), ?_⟩
    first | refine d_fint 7 rfl (by kernel_rfl) (by kernel_rfl) (ef_fn (rcreate_spec q db hdb hwb s1) rfl rfl (by repeat (first | exact Split.nil | (apply Split.cons; (repeat (first | with_reducible exact Take.here | apply Take.there)))))) ?_ | refine d_finf 7 rfl (by kernel_rfl) (by kernel_rfl) (ef_fn (rcreate_spec q db hdb hwb s1) rfl rfl (by repeat (first | exact Split.nil | (apply Split.cons; (repeat (first | with_reducible exact Take.here | apply Take.there)))))) ?_
    rintro v23 L1 ⟨rfl, rfl⟩
    refine swd_app ?_
    refine d_pu 8 rfl (pu_eql rfl rfl) (by kernel_rfl) (by kernel_rfl) (by kernel_rfl) ?_
    refine d_pu 9 rfl (pu_assign rfl) (by kernel_rfl) (by kernel_rfl) (by kernel_rfl) ?_
    refine d_sub _ (.cons (t := 6) rfl .nil) ?_
    first | refine d_nilt (by kernel_rfl) ?_ | refine d_nilf (by kernel_rfl) ?_
    refine then_n ?_
    refine swp_ret ?_
    refine block_r ?_
    refine then_r ?_
    have h14' := of_decide_eq_true h14
    have key : ∀ D, opD D ⟨(m : Int), s1, s2, s3, n, fn, .slice A l cap, ks⟩ = (createD D s1).1 := fun D => by
      unfold opD; dsimp only; rw [if_pos (by omega : (m : Int) % 12 = 0)]
    exact done_retE [FSA p ((createD da s1).1), RDA q ((createD db s1).1), ro μ] (.tmp rfl .nil) ⟨_, μ, rfl, fun e => by rw [e]; simp, Le.refl _, by rw [key, key]⟩ (Split.ent' (by repeat (first | exact Split.nil | (apply Split.cons; (repeat (first | with_reducible exact Take.here | apply Take.there))))))
  · skip   -- 14 F
    refine swp_seq ?_
    refine swp_region ?_
    refine s_pu (pu_eql rfl rfl) ?_
    refine s_pu (pu_assign rfl) ?_
    refine swl_sub _ (.cons (t := 0) rfl (.cons (t := 1) rfl (.cons (t := 5) rfl (.cons (t := 13) rfl (.cons (t := 25) rfl .nil))))) ?_
    refine swl_nil ?_
    refine then_n ?_
    refine swp_cond (b := _) rfl (fun h25 => ?_) (fun h25 => ?_)
    · skip   -- 25 T
      refine swp_seq ?_
      refine swp_draw [2, 4, 8, 10] ([blk b5 43 (ocs ⟨(m : Nat), s1, s2, s3, n, fn, .slice A l cap, ks⟩), ro μ]) ([FSA p da, RDA q db]) (Split.ent (by repeat (first | exact Split.nil | (apply Split.cons; (repeat (first | with_reducible exact Take.here | apply Take.there)))))) (by kernel_rfl) ?_
      refine d_pu 0 rfl (pu_move rfl) (by kernel_rfl) (by kernel_rfl) (by kernel_rfl) ?_
      first | refine d_pu 1 rfl (pu_fieldAddr0 rfl) (by kernel_rfl) (by kernel_rfl) (by kernel_rfl) ?_ | refine d_pu 1 rfl (pu_fieldAddr rfl) (by kernel_rfl) (by kernel_rfl) (by kernel_rfl) ?_
      refine d_rd 2 rfl (rd_load rfl rfl) rfl (by kernel_rfl) (by kernel_rfl) (by kernel_rfl) ?_
      first | refine d_pu 3 rfl (pu_fieldAddr0 rfl) (by kernel_rfl) (by kernel_rfl) (by kernel_rfl) ?_ | refine d_pu 3 rfl (pu_fieldAddr rfl) (by kernel_rfl) (by kernel_rfl) (by kernel_rfl) ?_
      refine d_rd 4 rfl (rd_load rfl rfl) rfl (by kernel_rfl) (by kernel_rfl) (by kernel_rfl) ?_
      refine d_pu 6 rfl (pu_move rfl) (by kernel_rfl) (by kernel_rfl) (by kernel_rfl) ?_
      first | refine d_pu 7 rfl (pu_fieldAddr0 rfl) (by kernel_rfl) (by kernel_rfl) (by kernel_rfl) ?_ | refine d_pu 7 rfl (pu_fieldAddr rfl) (by kernel_rfl) (by kernel_rfl) (by kernel_rfl) ?_
      refine d_rd 8 rfl (rd_load rfl rfl) rfl (by kernel_rfl) (by kernel_rfl) (by kernel_rfl) ?_
      first | refine d_pu 9 rfl (pu_fieldAddr0 rfl) (by kernel_rfl) (by kernel_rfl) (by kernel_rfl) ?_ | refine d_pu 9 rfl (pu_fieldAddr rfl) (by kernel_rfl) (by kernel_rfl) (by kernel_rfl) ?_
      refine d_rd 10 rfl (rd_load rfl rfl) rfl (by kernel_rfl) (by kernel_rfl) (by kernel_rfl) ?_
      refine d_eft 5 rfl (by kernel_rfl) (ef_fn (cut_spec p da hda s1 n) rfl rfl (by repeat (first | exact Split.nil | (apply Split.cons; (repeat (first | with_reducible exact Take.here | apply Take.there)))))) ?_
      rintro v32 L1 ⟨rfl, rfl⟩
      refine ⟨_, ent_appC (Split.ent (by repeat (first | exact Split.nil | (apply Split.cons; (repeat (first | with_reducible exact Take.here | apply Take.there)))))), ?_⟩
      first | refine d_fint 11 rfl (by kernel_rfl) (by kernel_rfl) (ef_fn (rcut_spec q db hdb hwb s1 n) rfl rfl (by repeat (first | exact Split.nil | (apply Split.cons; (repeat (first | with_reducible exact Take.here | apply Take.there)))))) ?_ | refine d_finf 11 rfl (by kernel_rfl) (by kernel_rfl) (ef_fn (rcut_spec q db hdb hwb s1 n) rfl rfl (by repeat (first | exact Split.nil | (apply Split.cons; (repeat (first | with_reducible exact Take.here | apply Take.there)))))) ?_
      rintro v38 L1 ⟨rfl, rfl⟩
      refine swd_app ?_
      refine d_pu 12 rfl (pu_eql rfl rfl) (by kernel_rfl) (by kernel_rfl) (by kernel_rfl) ?_
      refine d_pu 13 rfl (pu_assign rfl) (by kernel_rfl) (by kernel_rfl) (by kernel_rfl) ?_
      refine d_sub _ (.cons (t := 6) rfl .nil) ?_
      first | refine d_nilt (by kernel_rfl) ?_ | refine d_nilf (by kernel_rfl) ?_
      refine then_n ?_
      refine swp_ret ?_
      refine block_r ?_
      refine then_r ?_
      have h14' := of_decide_eq_false h14
      have h25' := of_decide_eq_true h25
      have key : ∀ D, opD D ⟨(m : Int), s1, s2, s3, n, fn, .slice A l cap, ks⟩ = (cutD D s1 n).1 := fun D => by
        unfold opD; dsimp only; rw [if_neg (by omega : ¬ ((m : Int) % 12 = 0)), if_pos (by omega : (m : Int) % 12 = 2)]
      exact done_retE [FSA p ((cutD da s1 n).1), RDA q ((cutD db s1 n).1), ro μ] (.tmp rfl .nil) ⟨_, μ, rfl, fun e => by rw [e]; simp, Le.refl _, by rw [key, key]⟩ (Split.ent' (by repeat (first | exact Split.nil | (apply Split.cons; (repeat (first | with_reducible exact Take.here | apply Take.there))))))
    · skip   -- 25 F
      refine swp_seq ?_
      refine swp_region ?_
      refine s_pu (pu_eql rfl rfl) ?_
      refine s_pu (pu_assign rfl) ?_
      refine swl_sub _ (.cons (t := 0) rfl (.cons (t := 1) rfl (.cons (t := 5) rfl (.cons (t := 13) rfl (.cons (t := 40) rfl .nil))))) ?_
      refine swl_nil ?_
      refine then_n ?_
      refine swp_cond (b := _) rfl (fun h40 => ?_) (fun h40 => ?_)
      · skip   -- 40 T
        refine swp_seq ?_
        refine swp_draw [2, 6] ([blk b5 43 (ocs ⟨(m : Nat), s1, s2, s3, n, fn, .slice A l cap, ks⟩), ro μ]) ([FSA p da, RDA q db]) (Split.ent (by repeat (first | exact Split.nil | (apply Split.cons; (repeat (first | with_reducible exact Take.here | apply Take.there)))))) (by kernel_rfl) ?_
        refine d_pu 0 rfl (pu_move rfl) (by kernel_rfl) (by kernel_rfl) (by kernel_rfl) ?_
        first | refine d_pu 1 rfl (pu_fieldAddr0 rfl) (by kernel_rfl) (by kernel_rfl) (by kernel_rfl) ?_ | refine d_pu 1 rfl (pu_fieldAddr rfl) (by kernel_rfl) (by kernel_rfl) (by kernel_rfl) ?_
        refine d_rd 2 rfl (rd_load rfl rfl) rfl (by kernel_rfl) (by kernel_rfl) (by kernel_rfl) ?_
        refine d_pu 4 rfl (pu_move rfl) (by kernel_rfl) (by kernel_rfl) (by kernel_rfl) ?_
        first | refine d_pu 5 rfl (pu_fieldAddr0 rfl) (by kernel_rfl) (by kernel_rfl) (by kernel_rfl) ?_ | refine d_pu 5 rfl (pu_fieldAddr rfl) (by kernel_rfl) (by kernel_rfl) (by kernel_rfl) ?_
        refine d_rd 6 rfl (rd_load rfl rfl) rfl (by kernel_rfl) (by kernel_rfl) (by kernel_rfl) ?_
        refine d_eft 3 rfl (by kernel_rfl) (ef_fn (sync_spec p da hda s1) rfl rfl (by repeat (first | exact Split.nil | (apply Split.cons; (repeat (first | with_reducible exact Take.here | apply Take.there)))))) ?_
        rintro v45 L1 ⟨rfl, rfl⟩
        refine ⟨_, ent_appC (Split.ent (by repeat (first | exact Split.nil | (apply Split.cons; (repeat (first | with_reducible exact Take.here | apply Take.there)))))), ?_⟩
        first | refine d_fint 7 rfl (by kernel_rfl) (by kernel_rfl) (ef_fn (rsync_spec q db hdb hwb s1) rfl rfl (by repeat (first | exact Split.nil | (apply Split.cons; (repeat (first | with_reducible exact Take.here | apply Take.there)))))) ?_ | refine d_finf 7 rfl (by kernel_rfl) (by kernel_rfl) (ef_fn (rsync_spec q db hdb hwb s1) rfl rfl (by repeat (first | exact Split.nil | (apply Split.cons; (repeat (first | with_reducible exact Take.here | apply Take.there)))))) ?_
        rintro v49 L1 ⟨rfl, rfl⟩
        refine swd_app ?_
        refine d_pu 8 rfl (pu_eql rfl rfl) (by kernel_rfl) (by kernel_rfl) (by kernel_rfl) ?_
        refine d_pu 9 rfl (pu_assign rfl) (by kernel_rfl) (by kernel_rfl) (by kernel_rfl) ?_
        refine d_sub _ (.cons (t := 6) rfl .nil) ?_
        first | refine d_nilt (by kernel_rfl) ?_ | refine d_nilf (by kernel_rfl) ?_
        refine then_n ?_
        refine swp_ret ?_
        refine block_r ?_
        refine then_r ?_
        have h14' := of_decide_eq_false h14
        have h25' := of_decide_eq_false h25
        have h40' := of_decide_eq_true h40
        have key : ∀ D, opD D ⟨(m : Int), s1, s2, s3, n, fn, .slice A l cap, ks⟩ = (syncD D s1).1 := fun D => by
          unfold opD; dsimp only; rw [if_neg (by omega : ¬ ((m : Int) % 12 = 0)), if_neg (by omega : ¬ ((m : Int) % 12 = 2)), if_pos (by omega : (m : Int) % 12 = 3)]
        exact done_retE [FSA p ((syncD da s1).1), RDA q ((syncD db s1).1), ro μ] (.tmp rfl .nil) ⟨_, μ, rfl, fun e => by rw [e]; simp, Le.refl _, by rw [key, key]⟩ (Split.ent' (by repeat (first | exact Split.nil | (apply Split.cons; (repeat (first | with_reducible exact Take.here | apply Take.there))))))
      · skip   -- 40 F
        refine swp_seq ?_
        refine swp_region ?_
        refine s_pu (pu_eql rfl rfl) ?_
        refine s_pu (pu_assign rfl) ?_
        refine swl_sub _ (.cons (t := 0) rfl (.cons (t := 1) rfl (.cons (t := 5) rfl (.cons (t := 13) rfl (.cons (t := 51) rfl .nil))))) ?_
        refine swl_nil ?_
        refine then_n ?_
        refine swp_cond (b := _) rfl (fun h51 => ?_) (fun h51 => ?_)
        · skip   -- 51 T
          refine swp_seq ?_
          refine swp_draw [2, 4, 8, 10] ([blk b5 43 (ocs ⟨(m : Nat), s1, s2, s3, n, fn, .slice A l cap, ks⟩), ro μ]) ([FSA p da, RDA q db]) (Split.ent (by repeat (first | exact Split.nil | (apply Split.cons; (repeat (first | with_reducible exact Take.here | apply Take.there)))))) (by kernel_rfl) ?_
          refine d_pu 0 rfl (pu_move rfl) (by kernel_rfl) (by kernel_rfl) (by kernel_rfl) ?_
          first | refine d_pu 1 rfl (pu_fieldAddr0 rfl) (by kernel_rfl) (by kernel_rfl) (by kernel_rfl) ?_ | refine d_pu 1 rfl (pu_fieldAddr rfl) (by kernel_rfl) (by kernel_rfl) (by kernel_rfl) ?_
          refine d_rd 2 rfl (rd_load rfl rfl) rfl (by kernel_rfl) (by kernel_rfl) (by kernel_rfl) ?_
          first | refine d_pu 3 rfl (pu_fieldAddr0 rfl) (by kernel_rfl) (by kernel_rfl) (by kernel_rfl) ?_ | refine d_pu 3 rfl (pu_fieldAddr rfl) (by kernel_rfl) (by kernel_rfl) (by kernel_rfl) ?_
          refine d_rd 4 rfl (rd_load rfl rfl) rfl (by kernel_rfl) (by kernel_rfl) (by kernel_rfl) ?_
          refine d_pu 6 rfl (pu_move rfl) (by kernel_rfl) (by kernel_rfl) (by kernel_rfl) ?_
          first | refine d_pu 7 rfl (pu_fieldAddr0 rfl) (by kernel_rfl) (by kernel_rfl) (by kernel_rfl) ?_ | refine d_pu 7 rfl (pu_fieldAddr rfl) (by kernel_rfl) (by kernel_rfl) (by kernel_rfl) ?_
          refine d_rd 8 rfl (rd_load rfl rfl) rfl (by kernel_rfl) (by kernel_rfl) (by kernel_rfl) ?_
          first | refine d_pu 9 rfl (pu_fieldAddr0 rfl) (by kernel_rfl) (by kernel_rfl) (by kernel_rfl) ?_ | refine d_pu 9 rfl (pu_fieldAddr rfl) (by kernel_rfl) (by kernel_rfl) (by kernel_rfl) ?_
          refine d_rd 10 rfl (rd_load rfl rfl) rfl (by kernel_rfl) (by kernel_rfl) (by kernel_rfl) ?_
          refine d_eft 5 rfl (by kernel_rfl) (ef_fn (rename_spec p da hda hwa s1 s2) rfl rfl (by repeat (first | exact Split.nil | (apply Split.cons; (repeat (first | with_reducible exact Take.here | apply Take.there)))))) ?_
          rintro v58 L1 ⟨rfl, rfl⟩
          refine ⟨_, ent_appC (Split.ent (by repeat (first | exact Split.nil | (apply Split.cons; (repeat (first | with_reducible exact Take.here | apply Take.there)))))), ?_⟩
          first | refine d_fint 11 rfl (by kernel_rfl) (by kernel_rfl) (ef_fn (rrename_spec q db hdb hwb s1 s2) rfl rfl (by repeat (first | exact Split.nil | (apply Split.cons; (repeat (first | with_reducible exact Take.here | apply Take.there)))))) ?_ | refine d_finf 11 rfl (by kernel_rfl) (by kernel_rfl) (ef_fn (rrename_spec q db hdb hwb s1 s2) rfl rfl (by repeat (first | exact Split.nil | (apply Split.cons; (repeat (first | with_reducible exact Take.here | apply Take.there)))))) ?_
          rintro v64 L1 ⟨rfl, rfl⟩
          refine swd_app ?_
          refine d_pu 12 rfl (pu_eql rfl rfl) (by kernel_rfl) (by kernel_rfl) (by kernel_rfl) ?_
          refine d_pu 13 rfl (pu_assign rfl) (by kernel_rfl) (by kernel_rfl) (by kernel_rfl) ?_
          refine d_sub _ (.cons (t := 6) rfl .nil) ?_
          first | refine d_nilt (by kernel_rfl) ?_ | refine d_nilf (by kernel_rfl) ?_
          refine then_n ?_
          refine swp_ret ?_
          refine block_r ?_
          refine then_r ?_
          have h14' := of_decide_eq_false h14
          have h25' := of_decide_eq_false h25
          have h40' := of_decide_eq_false h40
          have h51' := of_decide_eq_true h51
          have key : ∀ D, opD D ⟨(m : Int), s1, s2, s3, n, fn, .slice A l cap, ks⟩ = (renameD D s1 s2).1 := fun D => by
            unfold opD; dsimp only; rw [if_neg (by omega : ¬ ((m : Int) % 12 = 0)), if_neg (by omega : ¬ ((m : Int) % 12 = 2)), if_neg (by omega : ¬ ((m : Int) % 12 = 3)), if_pos (by omega : (m : Int) % 12 = 4)]
          exact done_retE [FSA p ((renameD da s1 s2).1), RDA q ((renameD db s1 s2).1), ro μ] (.tmp rfl .nil) ⟨_, μ, rfl, fun e => by rw [e]; simp, Le.refl _, by rw [key, key]⟩ (Split.ent' (by repeat (first | exact Split.nil | (apply Split.cons; (repeat (first | with_reducible exact Take.here | apply Take.there))))))
        · skip   -- 51 F
          refine swp_seq ?_
          refine swp_region ?_
          refine s_pu (pu_eql rfl rfl) ?_
          refine s_pu (pu_assign rfl) ?_
          refine swl_sub _ (.cons (t := 0) rfl (.cons (t := 1) rfl (.cons (t := 5) rfl (.cons (t := 13) rfl (.cons (t := 66) rfl .nil))))) ?_
          refine swl_nil ?_
          refine then_n ?_
          refine swp_cond (b := _) rfl (fun h66 => ?_) (fun h66 => ?_)
          · skip   -- 66 T
            refine swp_seq ?_
            refine swp_draw [2, 6] ([blk b5 43 (ocs ⟨(m : Nat), s1, s2, s3, n, fn, .slice A l cap, ks⟩), ro μ]) ([FSA p da, RDA q db]) (Split.ent (by repeat (first | exact Split.nil | (apply Split.cons; (repeat (first | with_reducible exact Take.here | apply Take.there)))))) (by kernel_rfl) ?_
            refine d_pu 0 rfl (pu_move rfl) (by kernel_rfl) (by kernel_rfl) (by kernel_rfl) ?_
            first | refine d_pu 1 rfl (pu_fieldAddr0 rfl) (by kernel_rfl) (by kernel_rfl) (by kernel_rfl) ?_ | refine d_pu 1 rfl (pu_fieldAddr rfl) (by kernel_rfl) (by kernel_rfl) (by kernel_rfl) ?_
            refine d_rd 2 rfl (rd_load rfl rfl) rfl (by kernel_rfl) (by kernel_rfl) (by kernel_rfl) ?_
            refine d_pu 4 rfl (pu_move rfl) (by kernel_rfl) (by kernel_rfl) (by kernel_rfl) ?_
            first | refine d_pu 5 rfl (pu_fieldAddr0 rfl) (by kernel_rfl) (by kernel_rfl) (by kernel_rfl) ?_ | refine d_pu 5 rfl (pu_fieldAddr rfl) (by kernel_rfl) (by kernel_rfl) (by kernel_rfl) ?_
            refine d_rd 6 rfl (rd_load rfl rfl) rfl (by kernel_rfl) (by kernel_rfl) (by kernel_rfl) ?_
            refine d_eft 3 rfl (by kernel_rfl) (ef_fn (remove_spec p da hda hwa s1) rfl rfl (by repeat (first | exact Split.nil | (apply Split.cons; (repeat (first | with_reducible exact Take.here | apply Take.there)))))) ?_
            rintro v71 L1 ⟨rfl, rfl⟩
            refine ⟨_, ent_appC (Split.ent (by repeat (first | exact Split.nil | (apply Split.cons; (repeat (first | with_reducible exact Take.here | apply Take.there)))))), ?_⟩
            first | refine d_fint 7 rfl (by kernel_rfl) (by kernel_rfl) (ef_fn (rremove_spec q db hdb hwb s1) rfl rfl (by repeat (first | exact Split.nil | (apply Split.cons; (repeat (first | with_reducible exact Take.here | apply Take.there)))))) ?_ | refine d_finf 7 rfl (by kernel_rfl) (by kernel_rfl) (ef_fn (rremove_spec q db hdb hwb s1) rfl rfl (by repeat (first | exact Split.nil | (apply Split.cons; (repeat (first | with_reducible exact Take.here | apply Take.there)))))) ?_
            rintro v75 L1 ⟨rfl, rfl⟩
            refine swd_app ?_
            refine d_pu 8 rfl (pu_eql rfl rfl) (by kernel_rfl) (by kernel_rfl) (by kernel_rfl) ?_
            refine d_pu 9 rfl (pu_assign rfl) (by kernel_rfl) (by kernel_rfl) (by kernel_rfl) ?_
            refine d_sub _ (.cons (t := 6) rfl .nil) ?_
            first | refine d_nilt (by kernel_rfl) ?_ | refine d_nilf (by kernel_rfl) ?_
            refine then_n ?_
            refine swp_ret ?_
            refine block_r ?_
            refine then_r ?_
            have h14' := of_decide_eq_false h14
            have h25' := of_decide_eq_false h25
            have h40' := of_decide_eq_false h40
            have h51' := of_decide_eq_false h51
            have h66' := of_decide_eq_true h66
            have key : ∀ D, opD D ⟨(m : Int), s1, s2, s3, n, fn, .slice A l cap, ks⟩ = (removeD D s1).1 := fun D => by
              unfold opD; dsimp only; rw [if_neg (by omega : ¬ ((m : Int) % 12 = 0)), if_neg (by omega : ¬ ((m : Int) % 12 = 2)), if_neg (by omega : ¬ ((m : Int) % 12 = 3)), if_neg (by omega : ¬ ((m : Int) % 12 = 4)), if_pos (by omega : (m : Int) % 12 = 5)]
            exact done_retE [FSA p ((removeD da s1).1), RDA q ((removeD db s1).1), ro μ] (.tmp rfl .nil) ⟨_, μ, rfl, fun e => by rw [e]; simp, Le.refl _, by rw [key, key]⟩ (Split.ent' (by repeat (first | exact Split.nil | (apply Split.cons; (repeat (first | with_reducible exact Take.here | apply Take.there))))))
          · skip   -- 66 F
            refine swp_seq ?_
            refine swp_region ?_
            refine s_pu (pu_eql rfl rfl) ?_
            refine s_pu (pu_assign rfl) ?_
            refine swl_sub _ (.cons (t := 0) rfl (.cons (t := 1) rfl (.cons (t := 5) rfl (.cons (t := 13) rfl (.cons (t := 77) rfl .nil))))) ?_
            refine swl_nil ?_
            refine then_n ?_
            refine swp_cond (b := _) rfl (fun h77 => ?_) (fun h77 => ?_)
            · skip   -- 77 T
              refine swp_seq ?_
              refine swp_region ?_
              refine s_pu (pu_move rfl) ?_
              refine s_ef (ef_fn (syncn_spec p da hda) rfl rfl (by repeat (first | exact Split.nil | (apply Split.cons; (repeat (first | with_reducible exact Take.here | apply Take.there)))))) ?_
              rintro v80 L1 ⟨rfl, rfl⟩
              refine swl_app ?_
              refine s_pu (pu_move rfl) ?_
              refine s_ef (ef_fn (rsyncn_spec q db hdb) rfl rfl (by repeat (first | exact Split.nil | (apply Split.cons; (repeat (first | with_reducible exact Take.here | apply Take.there)))))) ?_
              rintro v82 L1 ⟨rfl, rfl⟩
              refine swl_app ?_
              refine s_pu (pu_eql rfl rfl) ?_
              refine s_pu (pu_assign rfl) ?_
              refine swl_sub _ (.cons (t := 6) rfl .nil) ?_
              refine swl_nil ?_
              refine then_n ?_
              refine swp_ret ?_
              refine block_r ?_
              refine then_r ?_
              have h14' := of_decide_eq_false h14
              have h25' := of_decide_eq_false h25
              have h40' := of_decide_eq_false h40
              have h51' := of_decide_eq_false h51
              have h66' := of_decide_eq_false h66
              have h77' := of_decide_eq_true h77
              have key : ∀ D, opD D ⟨(m : Int), s1, s2, s3, n, fn, .slice A l cap, ks⟩ = (syncNamesD D).1 := fun D => by
                unfold opD; dsimp only; rw [if_neg (by omega : ¬ ((m : Int) % 12 = 0)), if_neg (by omega : ¬ ((m : Int) % 12 = 2)), if_neg (by omega : ¬ ((m : Int) % 12 = 3)), if_neg (by omega : ¬ ((m : Int) % 12 = 4)), if_neg (by omega : ¬ ((m : Int) % 12 = 5)), if_pos (by omega : (m : Int) % 12 = 6)]
              exact done_retE [FSA p ((syncNamesD da).1), RDA q ((syncNamesD db).1), ro μ] (.tmp rfl .nil) ⟨_, μ, rfl, fun e => by rw [e]; simp, Le.refl _, by rw [key, key]⟩ (Split.ent' (by repeat (first | exact Split.nil | (apply Split.cons; (repeat (first | with_reducible exact Take.here | apply Take.there))))))
            · skip   -- 77 F
              refine swp_seq ?_
              refine swp_region ?_
              refine s_pu (pu_eql rfl rfl) ?_
              refine s_pu (pu_assign rfl) ?_
              refine swl_sub _ (.cons (t := 0) rfl (.cons (t := 1) rfl (.cons (t := 5) rfl (.cons (t := 13) rfl (.cons (t := 84) rfl .nil))))) ?_
              refine swl_nil ?_
              refine then_n ?_
              refine swp_cond (b := _) rfl (fun h84 => ?_) (fun h84 => ?_)
              · skip   -- 84 T
                refine swp_seq ?_
                refine swp_region ?_
                refine s_pu (pu_move rfl) ?_
                first | refine s_pu (pu_fieldAddr0 rfl) ?_ | refine s_pu (pu_fieldAddr rfl) ?_
                refine s_rd (rd_load rfl rfl) ?_
                refine s_ef (ef_fn (fall_spec p da n) rfl rfl (by repeat (first | exact Split.nil | (apply Split.cons; (repeat (first | with_reducible exact Take.here | apply Take.there)))))) ?_
                rintro v89 L1 rfl
                refine swl_app ?_
                refine swl_sub _ (.cons (t := 1) rfl (.cons (t := 5) rfl .nil)) ?_
                refine swl_nil ?_
                refine then_n ?_
                refine swp_seq ?_
                refine swp_region ?_
                refine s_pu (pu_move rfl) ?_
                first | refine s_pu (pu_fieldAddr0 rfl) ?_ | refine s_pu (pu_fieldAddr rfl) ?_
                refine s_rd (rd_load rfl rfl) ?_
                refine s_ef (ef_fn (rfall_spec q db n) rfl rfl (by repeat (first | exact Split.nil | (apply Split.cons; (repeat (first | with_reducible exact Take.here | apply Take.there)))))) ?_
                rintro v93 L1 rfl
                refine swl_app ?_
                refine swl_sub _ .nil ?_
                refine swl_nil ?_
                refine then_n ?_
                refine swp_seq ?_
                refine swp_region ?_
                refine s_pu (pu_assign rfl) ?_
                refine swl_sub _ (.cons (t := 6) rfl .nil) ?_
                refine swl_nil ?_
                refine then_n ?_
                refine swp_ret ?_
                refine block_r ?_
                refine then_r ?_
                have h14' := of_decide_eq_false h14
                have h25' := of_decide_eq_false h25
                have h40' := of_decide_eq_false h40
                have h51' := of_decide_eq_false h51
                have h66' := of_decide_eq_false h66
                have h77' := of_decide_eq_false h77
                have h84' := of_decide_eq_true h84
                have key : ∀ D, opD D ⟨(m : Int), s1, s2, s3, n, fn, .slice A l cap, ks⟩ = fallD D n := fun D => by
                  unfold opD; dsimp only; rw [if_neg (by omega : ¬ ((m : Int) % 12 = 0)), if_neg (by omega : ¬ ((m : Int) % 12 = 2)), if_neg (by omega : ¬ ((m : Int) % 12 = 3)), if_neg (by omega : ¬ ((m : Int) % 12 = 4)), if_neg (by omega : ¬ ((m : Int) % 12 = 5)), if_neg (by omega : ¬ ((m : Int) % 12 = 6)), if_pos (by omega : (m : Int) % 12 = 7)]
                exact done_retE [FSA p (fallD da n), RDA q (fallD db n), ro μ] (.tmp rfl .nil) ⟨_, μ, rfl, fun _ => rfl, Le.refl _, by rw [key, key]⟩ (Split.ent' (by repeat (first | exact Split.nil | (apply Split.cons; (repeat (first | with_reducible exact Take.here | apply Take.there))))))
              · skip   -- 84 F
                refine swp_seq ?_
                refine swp_region ?_
                refine s_pu (pu_eql rfl rfl) ?_
                refine s_pu (pu_assign rfl) ?_
                refine swl_sub _ (.cons (t := 0) rfl (.cons (t := 1) rfl (.cons (t := 5) rfl (.cons (t := 13) rfl (.cons (t := 94) rfl .nil))))) ?_
                refine swl_nil ?_
                refine then_n ?_
                refine swp_cond (b := _) rfl (fun h94 => ?_) (fun h94 => ?_)
                · skip   -- 94 T
                  refine swp_seq ?_
                  refine swp_region ?_
                  refine s_pu (pu_move rfl) ?_
                  first | refine s_pu (pu_fieldAddr0 rfl) ?_ | refine s_pu (pu_fieldAddr rfl) ?_
                  first | refine s_rd (rd_loadW rfl rfl) ?_ | refine s_rd (rd_loadX rfl rfl rfl) ?_
                  refine s_ef (ef_fn (crash_spec μ p da hda fn _ ks hkeep hwa) rfl rfl (by repeat (first | exact Split.nil | (apply Split.cons; (repeat (first | with_reducible exact Take.here | apply Take.there)))))) ?_
                  rintro v99 L1 ⟨μ2, hle2, rfl⟩
                  refine swl_app ?_
                  refine swl_sub _ (.cons (t := 1) rfl (.cons (t := 5) rfl .nil)) ?_
                  refine swl_nil ?_
                  refine then_n ?_
                  refine swp_seq ?_
                  refine swp_region ?_
                  refine s_pu (pu_move rfl) ?_
                  first | refine s_pu (pu_fieldAddr0 rfl) ?_ | refine s_pu (pu_fieldAddr rfl) ?_
                  first | refine s_rd (rd_loadW rfl rfl) ?_ | refine s_rd (rd_loadX rfl rfl rfl) ?_
                  refine s_ef (ef_fn (rcrash_spec μ2 q db hdb hwb fn _ ks (hkeep.le hle2)) rfl rfl (by repeat (first | exact Split.nil | (apply Split.cons; (repeat (first | with_reducible exact Take.here | apply Take.there)))))) ?_
                  rintro v103 L1 rfl
                  refine swl_app ?_
                  refine swl_sub _ .nil ?_
                  refine swl_nil ?_
                  refine then_n ?_
                  refine swp_seq ?_
                  refine swp_region ?_
                  refine s_pu (pu_assign rfl) ?_
                  refine swl_sub _ (.cons (t := 6) rfl .nil) ?_
                  refine swl_nil ?_
                  refine then_n ?_
                  refine swp_ret ?_
                  refine block_r ?_
                  refine then_r ?_
                  have h14' := of_decide_eq_false h14
                  have h25' := of_decide_eq_false h25
                  have h40' := of_decide_eq_false h40
                  have h51' := of_decide_eq_false h51
                  have h66' := of_decide_eq_false h66
                  have h77' := of_decide_eq_false h77
                  have h84' := of_decide_eq_false h84
                  have h94' := of_decide_eq_true h94
                  have key : ∀ D, opD D ⟨(m : Int), s1, s2, s3, n, fn, .slice A l cap, ks⟩ = crashD D fn ks := fun D => by
                    unfold opD; dsimp only; rw [if_neg (by omega : ¬ ((m : Int) % 12 = 0)), if_neg (by omega : ¬ ((m : Int) % 12 = 2)), if_neg (by omega : ¬ ((m : Int) % 12 = 3)), if_neg (by omega : ¬ ((m : Int) % 12 = 4)), if_neg (by omega : ¬ ((m : Int) % 12 = 5)), if_neg (by omega : ¬ ((m : Int) % 12 = 6)), if_neg (by omega : ¬ ((m : Int) % 12 = 7)), if_pos (by omega : (m : Int) % 12 = 8)]
                  exact done_retE [FSA p (crashD da fn ks), RDA q (crashD db fn ks), ro μ2] (.tmp rfl .nil) ⟨_, μ2, rfl, fun _ => rfl, hle2, by rw [key, key]⟩ (Split.ent' (by repeat (first | exact Split.nil | (apply Split.cons; (repeat (first | with_reducible exact Take.here | apply Take.there))))))
                · skip   -- 94 F
                  refine swp_seq ?_
                  refine swp_region ?_
                  refine s_pu (pu_eql rfl rfl) ?_
                  refine s_pu (pu_assign rfl) ?_
                  refine swl_sub _ (.cons (t := 0) rfl (.cons (t := 1) rfl (.cons (t := 5) rfl (.cons (t := 13) rfl (.cons (t := 104) rfl .nil))))) ?_
                  refine swl_nil ?_
                  refine then_n ?_
                  refine swp_cond (b := _) rfl (fun h104 => ?_) (fun h104 => ?_)
                  · skip   -- 104 T
                    refine swp_seq ?_
                    refine swp_draw [2, 4, 6, 10, 12, 14] ([blk b5 43 (ocs ⟨(m : Nat), s1, s2, s3, n, fn, .slice A l cap, ks⟩), ro μ]) ([FSA p da, RDA q db]) (Split.ent (by repeat (first | exact Split.nil | (apply Split.cons; (repeat (first | with_reducible exact Take.here | apply Take.there)))))) (by kernel_rfl) ?_
                    refine d_pu 0 rfl (pu_move rfl) (by kernel_rfl) (by kernel_rfl) (by kernel_rfl) ?_
                    first | refine d_pu 1 rfl (pu_fieldAddr0 rfl) (by kernel_rfl) (by kernel_rfl) (by kernel_rfl) ?_ | refine d_pu 1 rfl (pu_fieldAddr rfl) (by kernel_rfl) (by kernel_rfl) (by kernel_rfl) ?_
                    refine d_rd 2 rfl (rd_load rfl rfl) rfl (by kernel_rfl) (by kernel_rfl) (by kernel_rfl) ?_
                    first | refine d_pu 3 rfl (pu_fieldAddr0 rfl) (by kernel_rfl) (by kernel_rfl) (by kernel_rfl) ?_ | refine d_pu 3 rfl (pu_fieldAddr rfl) (by kernel_rfl) (by kernel_rfl) (by kernel_rfl) ?_
                    refine d_rd 4 rfl (rd_load rfl rfl) rfl (by kernel_rfl) (by kernel_rfl) (by kernel_rfl) ?_
                    first | refine d_pu 5 rfl (pu_fieldAddr0 rfl) (by kernel_rfl) (by kernel_rfl) (by kernel_rfl) ?_ | refine d_pu 5 rfl (pu_fieldAddr rfl) (by kernel_rfl) (by kernel_rfl) (by kernel_rfl) ?_
                    refine d_rd 6 rfl (rd_load rfl rfl) rfl (by kernel_rfl) (by kernel_rfl) (by kernel_rfl) ?_
                    refine d_pu 8 rfl (pu_move rfl) (by kernel_rfl) (by kernel_rfl) (by kernel_rfl) ?_
                    first | refine d_pu 9 rfl (pu_fieldAddr0 rfl) (by kernel_rfl) (by kernel_rfl) (by kernel_rfl) ?_ | refine d_pu 9 rfl (pu_fieldAddr rfl) (by kernel_rfl) (by kernel_rfl) (by kernel_rfl) ?_
                    refine d_rd 10 rfl (rd_load rfl rfl) rfl (by kernel_rfl) (by kernel_rfl) (by kernel_rfl) ?_
                    first | refine d_pu 11 rfl (pu_fieldAddr0 rfl) (by kernel_rfl) (by kernel_rfl) (by kernel_rfl) ?_ | refine d_pu 11 rfl (pu_fieldAddr rfl) (by kernel_rfl) (by kernel_rfl) (by kernel_rfl) ?_
                    refine d_rd 12 rfl (rd_load rfl rfl) rfl (by kernel_rfl) (by kernel_rfl) (by kernel_rfl) ?_
                    first | refine d_pu 13 rfl (pu_fieldAddr0 rfl) (by kernel_rfl) (by kernel_rfl) (by kernel_rfl) ?_ | refine d_pu 13 rfl (pu_fieldAddr rfl) (by kernel_rfl) (by kernel_rfl) (by kernel_rfl) ?_
                    refine d_rd 14 rfl (rd_load rfl rfl) rfl (by kernel_rfl) (by kernel_rfl) (by kernel_rfl) ?_
                    refine d_eft 7 rfl (by kernel_rfl) (ef_fn (damage_spec p da hda s1 n s3 ht) rfl rfl (by repeat (first | exact Split.nil | (apply Split.cons; (repeat (first | with_reducible exact Take.here | apply Take.there)))))) ?_
                    rintro v113 L1 ⟨rfl, rfl⟩
                    refine ⟨_, ent_appC (Split.ent (by repeat (first | exact Split.nil | (apply Split.cons; (repeat (first | with_reducible exact Take.here | apply Take.there)))))), ?_⟩
                    first | refine d_fint 15 rfl (by kernel_rfl) (by kernel_rfl) (ef_fn (rdamage_spec q db hdb hwb s1 n s3 ht) rfl rfl (by repeat (first | exact Split.nil | (apply Split.cons; (repeat (first | with_reducible exact Take.here | apply Take.there)))))) ?_ | refine d_finf 15 rfl (by kernel_rfl) (by kernel_rfl) (ef_fn (rdamage_spec q db hdb hwb s1 n s3 ht) rfl rfl (by repeat (first | exact Split.nil | (apply Split.cons; (repeat (first | with_reducible exact Take.here | apply Take.there)))))) ?_
                    rintro v121 L1 ⟨rfl, rfl⟩
                    refine swd_app ?_
                    refine d_pu 16 rfl (pu_eql rfl rfl) (by kernel_rfl) (by kernel_rfl) (by kernel_rfl) ?_
                    refine d_pu 17 rfl (pu_assign rfl) (by kernel_rfl) (by kernel_rfl) (by kernel_rfl) ?_
                    refine d_sub _ (.cons (t := 6) rfl .nil) ?_
                    first | refine d_nilt (by kernel_rfl) ?_ | refine d_nilf (by kernel_rfl) ?_
                    refine then_n ?_
                    refine swp_ret ?_
                    refine block_r ?_
                    refine then_r ?_
                    have h14' := of_decide_eq_false h14
                    have h25' := of_decide_eq_false h25
                    have h40' := of_decide_eq_false h40
                    have h51' := of_decide_eq_false h51
                    have h66' := of_decide_eq_false h66
                    have h77' := of_decide_eq_false h77
                    have h84' := of_decide_eq_false h84
                    have h94' := of_decide_eq_false h94
                    have h104' := of_decide_eq_true h104
                    have key : ∀ D, opD D ⟨(m : Int), s1, s2, s3, n, fn, .slice A l cap, ks⟩ = (damageD D s1 n s3.data.toList).1 := fun D => by
                      unfold opD; dsimp only; rw [if_neg (by omega : ¬ ((m : Int) % 12 = 0)), if_neg (by omega : ¬ ((m : Int) % 12 = 2)), if_neg (by omega : ¬ ((m : Int) % 12 = 3)), if_neg (by omega : ¬ ((m : Int) % 12 = 4)), if_neg (by omega : ¬ ((m : Int) % 12 = 5)), if_neg (by omega : ¬ ((m : Int) % 12 = 6)), if_neg (by omega : ¬ ((m : Int) % 12 = 7)), if_neg (by omega : ¬ ((m : Int) % 12 = 8)), if_pos (by omega : (m : Int) % 12 = 9)]
                    exact done_retE [FSA p ((damageD da s1 n s3.data.toList).1), RDA q ((damageD db s1 n s3.data.toList).1), ro μ] (.tmp rfl .nil) ⟨_, μ, rfl, fun e => by rw [e]; simp, Le.refl _, by rw [key, key]⟩ (Split.ent' (by repeat (first | exact Split.nil | (apply Split.cons; (repeat (first | with_reducible exact Take.here | apply Take.there))))))
                  · skip   -- 104 F
                    refine swp_seq ?_
                    refine swp_region ?_
                    refine s_pu (pu_eql rfl rfl) ?_
                    refine s_pu (pu_assign rfl) ?_
                    refine swl_sub _ (.cons (t := 0) rfl (.cons (t := 1) rfl (.cons (t := 5) rfl (.cons (t := 123) rfl .nil)))) ?_
                    refine swl_nil ?_
                    refine then_n ?_
                    refine swp_cond (b := _) rfl (fun h123 => ?_) (fun h123 => ?_)
                    · skip   -- 123 T
                      refine swp_seq ?_
                      refine swp_region ?_
                      refine s_pu (pu_move rfl) ?_
                      first | refine s_pu (pu_fieldAddr0 rfl) ?_ | refine s_pu (pu_fieldAddr rfl) ?_
                      refine s_rd (rd_load rfl rfl) ?_
                      refine s_ef (ef_fn (read_spec p da hda s1) rfl rfl (by repeat (first | exact Split.nil | (apply Split.cons; (repeat (first | with_reducible exact Take.here | apply Take.there)))))) ?_
                      rintro v129 L1 ⟨rfl, rfl⟩
                      refine swl_app ?_
                      refine s_pu (pu_move rfl) ?_
                      first | refine s_pu (pu_extractL rfl) ?_ | refine s_pu (pu_extract rfl rfl) ?_
                      first | refine s_pu (pu_extractL rfl) ?_ | refine s_pu (pu_extract rfl rfl) ?_
                      refine s_pu (pu_assign rfl) ?_
                      refine s_pu (pu_assign rfl) ?_
                      refine swl_sub _ (.cons (t := 1) rfl (.cons (t := 5) rfl (.cons (t := 7) rfl (.cons (t := 8) rfl .nil)))) ?_
                      refine swl_nil ?_
                      refine then_n ?_
                      refine swp_seq ?_
                      refine swp_region ?_
                      refine s_pu (pu_move rfl) ?_
                      first | refine s_pu (pu_fieldAddr0 rfl) ?_ | refine s_pu (pu_fieldAddr rfl) ?_
                      refine s_rd (rd_load rfl rfl) ?_
                      refine s_ef (ef_fn (rread_spec q db hdb hwb s1) rfl rfl (by repeat (first | exact Split.nil | (apply Split.cons; (repeat (first | with_reducible exact Take.here | apply Take.there)))))) ?_
                      rintro v136 L1 ⟨rfl, rfl⟩
                      refine swl_app ?_
                      refine s_pu (pu_move rfl) ?_
                      first | refine s_pu (pu_extractL rfl) ?_ | refine s_pu (pu_extract rfl rfl) ?_
                      first | refine s_pu (pu_extractL rfl) ?_ | refine s_pu (pu_extract rfl rfl) ?_
                      refine s_pu (pu_assign rfl) ?_
                      refine s_pu (pu_assign rfl) ?_
                      refine swl_sub _ (.cons (t := 7) rfl (.cons (t := 8) rfl (.cons (t := 9) rfl (.cons (t := 10) rfl .nil)))) ?_
                      refine swl_nil ?_
                      refine then_n ?_
                      refine swp_seq ?_
                      refine swp_region ?_
                      refine s_pu (pu_move rfl) ?_
                      refine s_pu (pu_move rfl) ?_
                      refine s_pu (pu_str_eql rfl rfl) ?_
                      refine s_pu (pu_move rfl) ?_
                      refine s_split 142 rfl (fun h142 => ?_) (fun h142 => ?_)
                      · skip   -- 142 T
                        refine s_on rfl rfl ?_
                        refine s_pu (pu_move rfl) ?_
                        refine s_on rfl rfl ?_
                        refine s_pu (pu_move rfl) ?_
                        refine s_on rfl rfl ?_
                        refine s_pu (pu_eql rfl rfl) ?_
                        first | refine s_pu (pu_pick_t rfl rfl) ?_ | refine s_pu (pu_pick_f rfl rfl) ?_
                        refine s_pu (pu_assign rfl) ?_
                        refine swl_sub _ (.cons (t := 6) rfl .nil) ?_
                        refine swl_nil ?_
                        refine then_n ?_
                        refine swp_ret ?_
                        refine block_r ?_
                        refine then_r ?_
                        have h14' := of_decide_eq_false h14
                        have h25' := of_decide_eq_false h25
                        have h40' := of_decide_eq_false h40
                        have h51' := of_decide_eq_false h51
                        have h66' := of_decide_eq_false h66
                        have h77' := of_decide_eq_false h77
                        have h84' := of_decide_eq_false h84
                        have h94' := of_decide_eq_false h94
                        have h104' := of_decide_eq_false h104
                        have h123' := of_decide_eq_true h123
                        have key : ∀ D, opD D ⟨(m : Int), s1, s2, s3, n, fn, .slice A l cap, ks⟩ = D := fun D => by
                          unfold opD; dsimp only; rw [if_neg (by omega : ¬ ((m : Int) % 12 = 0)), if_neg (by omega : ¬ ((m : Int) % 12 = 2)), if_neg (by omega : ¬ ((m : Int) % 12 = 3)), if_neg (by omega : ¬ ((m : Int) % 12 = 4)), if_neg (by omega : ¬ ((m : Int) % 12 = 5)), if_neg (by omega : ¬ ((m : Int) % 12 = 6)), if_neg (by omega : ¬ ((m : Int) % 12 = 7)), if_neg (by omega : ¬ ((m : Int) % 12 = 8)), if_neg (by omega : ¬ ((m : Int) % 12 = 9)), if_pos (by omega : (m : Int) % 12 = 10)]
                        exact done_retE [FSA p (da), RDA q (db), ro μ] (.tmp rfl .nil) ⟨_, μ, rfl, fun e => by rw [e]; simp, Le.refl _, by rw [key, key]⟩ (Split.ent' (by repeat (first | exact Split.nil | (apply Split.cons; (repeat (first | with_reducible exact Take.here | apply Take.there))))))
                      · skip   -- 142 F
                        refine s_off rfl rfl rfl ?_
                        refine s_off rfl rfl rfl ?_
                        refine s_off rfl rfl rfl ?_
                        first | refine s_pu (pu_pick_t rfl rfl) ?_ | refine s_pu (pu_pick_f rfl rfl) ?_
                        refine s_pu (pu_assign rfl) ?_
                        refine swl_sub _ (.cons (t := 6) rfl .nil) ?_
                        refine swl_nil ?_
                        refine then_n ?_
                        refine swp_ret ?_
                        refine block_r ?_
                        refine then_r ?_
                        have h14' := of_decide_eq_false h14
                        have h25' := of_decide_eq_false h25
                        have h40' := of_decide_eq_false h40
                        have h51' := of_decide_eq_false h51
                        have h66' := of_decide_eq_false h66
                        have h77' := of_decide_eq_false h77
                        have h84' := of_decide_eq_false h84
                        have h94' := of_decide_eq_false h94
                        have h104' := of_decide_eq_false h104
                        have h123' := of_decide_eq_true h123
                        have key : ∀ D, opD D ⟨(m : Int), s1, s2, s3, n, fn, .slice A l cap, ks⟩ = D := fun D => by
                          unfold opD; dsimp only; rw [if_neg (by omega : ¬ ((m : Int) % 12 = 0)), if_neg (by omega : ¬ ((m : Int) % 12 = 2)), if_neg (by omega : ¬ ((m : Int) % 12 = 3)), if_neg (by omega : ¬ ((m : Int) % 12 = 4)), if_neg (by omega : ¬ ((m : Int) % 12 = 5)), if_neg (by omega : ¬ ((m : Int) % 12 = 6)), if_neg (by omega : ¬ ((m : Int) % 12 = 7)), if_neg (by omega : ¬ ((m : Int) % 12 = 8)), if_neg (by omega : ¬ ((m : Int) % 12 = 9)), if_pos (by omega : (m : Int) % 12 = 10)]
                        exact done_retE [FSA p (da), RDA q (db), ro μ] (.tmp rfl .nil) ⟨_, μ, rfl, fun e => (by rw [e, strEq_refl] at h142; cases h142), Le.refl _, by rw [key, key]⟩ (Split.ent' (by repeat (first | exact Split.nil | (apply Split.cons; (repeat (first | with_reducible exact Take.here | apply Take.there))))))
                    · skip   -- 123 F
                      refine swp_skip ?_
                      refine block_n ?_
                      refine then_n ?_
                      refine swp_seq ?_
                      refine swp_draw [2, 4, 8, 10] ([blk b5 43 (ocs ⟨(m : Nat), s1, s2, s3, n, fn, .slice A l cap, ks⟩), ro μ]) ([FSA p da, RDA q db]) (Split.ent (by repeat (first | exact Split.nil | (apply Split.cons; (repeat (first | with_reducible exact Take.here | apply Take.there)))))) (by kernel_rfl) ?_
                      refine d_pu 0 rfl (pu_move rfl) (by kernel_rfl) (by kernel_rfl) (by kernel_rfl) ?_
                      first | refine d_pu 1 rfl (pu_fieldAddr0 rfl) (by kernel_rfl) (by kernel_rfl) (by kernel_rfl) ?_ | refine d_pu 1 rfl (pu_fieldAddr rfl) (by kernel_rfl) (by kernel_rfl) (by kernel_rfl) ?_
                      refine d_rd 2 rfl (rd_load rfl rfl) rfl (by kernel_rfl) (by kernel_rfl) (by kernel_rfl) ?_
                      first | refine d_pu 3 rfl (pu_fieldAddr0 rfl) (by kernel_rfl) (by kernel_rfl) (by kernel_rfl) ?_ | refine d_pu 3 rfl (pu_fieldAddr rfl) (by kernel_rfl) (by kernel_rfl) (by kernel_rfl) ?_
                      refine d_rd 4 rfl (rd_load rfl rfl) rfl (by kernel_rfl) (by kernel_rfl) (by kernel_rfl) ?_
                      refine d_pu 6 rfl (pu_move rfl) (by kernel_rfl) (by kernel_rfl) (by kernel_rfl) ?_
                      first | refine d_pu 7 rfl (pu_fieldAddr0 rfl) (by kernel_rfl) (by kernel_rfl) (by kernel_rfl) ?_ | refine d_pu 7 rfl (pu_fieldAddr rfl) (by kernel_rfl) (by kernel_rfl) (by kernel_rfl) ?_
                      refine d_rd 8 rfl (rd_load rfl rfl) rfl (by kernel_rfl) (by kernel_rfl) (by kernel_rfl) ?_
                      first | refine d_pu 9 rfl (pu_fieldAddr0 rfl) (by kernel_rfl) (by kernel_rfl) (by kernel_rfl) ?_ | refine d_pu 9 rfl (pu_fieldAddr rfl) (by kernel_rfl) (by kernel_rfl) (by kernel_rfl) ?_
                      refine d_rd 10 rfl (rd_load rfl rfl) rfl (by kernel_rfl) (by kernel_rfl) (by kernel_rfl) ?_
                      refine d_eft 5 rfl (by kernel_rfl) (ef_fn (append_spec p da hda s1 s3 ht) rfl rfl (by repeat (first | exact Split.nil | (apply Split.cons; (repeat (first | with_reducible exact Take.here | apply Take.there)))))) ?_
                      rintro v152 L1 ⟨rfl, rfl⟩
                      refine ⟨_, ent_appC (Split.ent (by repeat (first | exact Split.nil | (apply Split.cons; (repeat (first | with_reducible exact Take.here | apply Take.there)))))), ?_⟩
                      first | refine d_fint 11 rfl (by kernel_rfl) (by kernel_rfl) (ef_fn (rappend_spec q db hdb hwb s1 s3 ht) rfl rfl (by repeat (first | exact Split.nil | (apply Split.cons; (repeat (first | with_reducible exact Take.here | apply Take.there)))))) ?_ | refine d_finf 11 rfl (by kernel_rfl) (by kernel_rfl) (ef_fn (rappend_spec q db hdb hwb s1 s3 ht) rfl rfl (by repeat (first | exact Split.nil | (apply Split.cons; (repeat (first | with_reducible exact Take.here | apply Take.there)))))) ?_
                      rintro v158 L1 ⟨rfl, rfl⟩
                      refine swd_app ?_
                      refine d_pu 12 rfl (pu_eql rfl rfl) (by kernel_rfl) (by kernel_rfl) (by kernel_rfl) ?_
                      refine d_pu 13 rfl (pu_assign rfl) (by kernel_rfl) (by kernel_rfl) (by kernel_rfl) ?_
                      refine d_sub _ (.cons (t := 6) rfl .nil) ?_
                      first | refine d_nilt (by kernel_rfl) ?_ | refine d_nilf (by kernel_rfl) ?_
                      refine then_n ?_
                      refine swp_ret ?_
                      have h14' := of_decide_eq_false h14
                      have h25' := of_decide_eq_false h25
                      have h40' := of_decide_eq_false h40
                      have h51' := of_decide_eq_false h51
                      have h66' := of_decide_eq_false h66
                      have h77' := of_decide_eq_false h77
                      have h84' := of_decide_eq_false h84
                      have h94' := of_decide_eq_false h94
                      have h104' := of_decide_eq_false h104
                      have h123' := of_decide_eq_false h123
                      have key : ∀ D, opD D ⟨(m : Int), s1, s2, s3, n, fn, .slice A l cap, ks⟩ = (appendD D s1 s3.data.toList).1 := fun D => by
                        unfold opD; dsimp only; rw [if_neg (by omega : ¬ ((m : Int) % 12 = 0)), if_neg (by omega : ¬ ((m : Int) % 12 = 2)), if_neg (by omega : ¬ ((m : Int) % 12 = 3)), if_neg (by omega : ¬ ((m : Int) % 12 = 4)), if_neg (by omega : ¬ ((m : Int) % 12 = 5)), if_neg (by omega : ¬ ((m : Int) % 12 = 6)), if_neg (by omega : ¬ ((m : Int) % 12 = 7)), if_neg (by omega : ¬ ((m : Int) % 12 = 8)), if_neg (by omega : ¬ ((m : Int) % 12 = 9)), if_neg (by omega : ¬ ((m : Int) % 12 = 10))]
                      exact done_retE [FSA p ((appendD da s1 s3.data.toList).1), RDA q ((appendD db s1 s3.data.toList).1), ro μ] (.tmp rfl .nil) ⟨_, μ, rfl, fun e => by rw [e]; simp, Le.refl _, by rw [key, key]⟩ (Split.ent' (by repeat (first | exact Split.nil | (apply Split.cons; (repeat (first | with_reducible exact Take.here | apply Take.there))))))
end SX
namespace SX
open Go Go.Proofs
abbrev sf : ByteArray := ⟨#[102]⟩
end SX
namespace SX
open Go Go.Proofs
theorem Within.few {m : Nat} {d : Dk} (h : Within m d) (k : m ≤ 1000000) : Few d := h.mono k
theorem rnew_at (q : Int) (h : newOk q) : Spec Try.prog 19 [.int .i64 q] [] (fun r L => ∃ p, r = .tuple #[pv p, .int .i64 0] ∧ L = [RDA p (newD q)]) :=
  (rnew_spec q).mono fun _ _ k => by
    rcases k with ⟨k, _⟩ | ⟨_, k⟩
    · exact absurd h k
    · exact k
end SX
namespace SX
open Go Go.Proofs
theorem srtS_strict {xs : List ByteArray} (h : xs.Nodup) : (srtS xs).Pairwise fun a b => strLt a b = true := by
  have h2 : (srtS xs).Nodup := (srtS_self xs).nodup_iff.2 h
  refine ((srtS_pw xs).and h2).imp fun {a b} ⟨h1, h3⟩ => ?_
  rcases strLt_total a b with k | k | k
  · exact k
  · exact absurd k h3
  · rw [k] at h1; cases h1
theorem flat_take_succ {T : List ByteArray} {j : Nat} {s : ByteArray} (h : T[j]? = some s) : (T.take j).flatMap scsv ++ [.string s] = (T.take (j + 1)).flatMap scsv := by
  rw [List.take_add_one, h, List.flatMap_append]; rfl
set_option maxHeartbeats 4000000 in
theorem rnames_spec (p : Nat) (d : Dk) (hd : d.Ok) (fv sv av wv : Value) : Spec Try.prog 57 [pv p] [blk p 64 (rdC d.quota fv sv av wv d.falls d.off), own 97 2 sv d.seen.length (d.seen.flatMap rN1)] (fun r L => L = [own 9 1 r (namesD d).length ((namesD d).flatMap scsv), blk p 64 (rdC d.quota fv sv av wv d.falls d.off), own 97 2 sv d.seen.length (d.seen.flatMap rN1)]) := by
  have hsl := hd.seenLe
  obtain ⟨T, hT⟩ : ∃ T, T = srtS (d.seen.map (·.1)) := ⟨_, rfl⟩
  have hTl : T.length = d.seen.length := by rw [hT, srtS_len, List.length_map]
  have hne : ∀ x ∈ d.seen.map (·.1), x ≠ ⟨#[]⟩ := fun x hx => by
    obtain ⟨y, hy, rfl⟩ := List.mem_map.1 hx
    intro e
    have := goodN_ne (hd.seenOk.good y hy).1
    rw [e, strEq_refl] at this; cases this
  have hsel : ∀ j, j ≤ T.length → selS (lastS T j) (d.seen.map (·.1)) = (T[j]?).getD ⟨#[]⟩ := fun j hj => selS_at (by rw [hT]; exact srtS_self _) (by rw [hT]; exact srtS_strict hd.seenOk.nodup) hne hj
  refine Spec.pre (pre := [own 97 2 sv d.seen.length (d.seen.flatMap rN1), blk p 64 (rdC d.quota fv sv av wv d.falls d.off)]) ?_ (Split.ent' (by repeat (first | exact Split.nil | (apply Split.cons; (repeat (first | with_reducible exact Take.here | apply Take.there))))))
  refine Spec.fact' (fun m h => own_cap2 h) fun ⟨A, c, hv, hlc, hcm, hA, hA2⟩ => ?_
  simp only [maxLen] at hcm
  subst hv
  refine Spec.of 51 Try.func57 rfl rfl rfl ?_
  refine swp_seq ?_
  refine swp_region ?_
  refine s_pu (pu_assign rfl) ?_
  refine swl_sub _ (.cons (t := 0) rfl .nil) ?_
  refine swl_nil ?_
  refine then_n ?_
  refine swp_seq ?_
  refine swp_region ?_
  refine s_pu (pu_assign rfl) ?_
  refine swl_sub _ (.cons (t := 0) rfl (.cons (t := 3) rfl .nil)) ?_
  refine swl_nil ?_
  refine then_n ?_
  refine swp_seq ?_
  refine swp_seq ?_
  refine swp_region ?_
  refine s_pu (pu_move rfl) ?_
  first | refine s_pu (pu_nilCheck rfl) ?_ | refine s_pu (pu_nilCheck_fn rfl) ?_ | refine s_pu (pu_nilCheck_if rfl) ?_
  first | refine s_pu (pu_fieldAddr0 rfl) ?_ | refine s_pu (pu_fieldAddr rfl) ?_
  refine s_rd (rd_load rfl rfl) ?_
  refine swl_sub _ (.cons (t := 0) rfl (.cons (t := 3) rfl (.cons (t := 11) rfl .nil))) ?_
  refine swl_nil ?_
  refine then_n ?_
  refine swp_cond (b := _) rfl (fun h11 => ?_) (fun h11 => ?_)
  · skip   -- 11 T
    refine swp_seq ?_
    refine swp_region ?_
    refine s_pu (pu_move rfl) ?_
    refine s_pu (pu_assign rfl) ?_
    refine swl_sub _ (.cons (t := 2) rfl .nil) ?_
    refine swl_nil ?_
    refine then_n ?_
    refine swp_ret ?_
    refine then_r ?_
    have key : namesD d = [] := by unfold namesD; rw [if_pos h11]
    rw [key]
    refine done_retE [own 9 1 (.slice none 0 0) 0 [], blk p 64 (rdC d.quota fv (.slice A d.seen.length c) av wv d.falls d.off), own 97 2 (.slice A d.seen.length c) d.seen.length (d.seen.flatMap rN1)] (.tmp rfl .nil) rfl ?_
    exact (Split.ent' (K := [blk p 64 (rdC d.quota fv (.slice A d.seen.length c) av wv d.falls d.off), own 97 2 (.slice A d.seen.length c) d.seen.length (d.seen.flatMap rN1)]) (by repeat (first | exact Split.nil | (apply Split.cons; (repeat (first | with_reducible exact Take.here | apply Take.there)))))).trans own_nil_ent
  · skip   -- 11 F
    refine swp_skip ?_
    refine then_n ?_
    refine swp_seq ?_
    refine swp_region ?_
    refine s_pu (pu_assign rfl) ?_
    refine swl_sub _ (.cons (t := 0) rfl (.cons (t := 3) rfl (.cons (t := 4) rfl .nil))) ?_
    refine swl_nil ?_
    refine then_n ?_
    refine swp_block ?_
    have key : namesD d = T := by unfold namesD; rw [if_neg (by rw [h11]; decide), hT]
    refine swp_ent (own_nil_ent (e := 9) (n := 1)) ?_
    refine swp_loop (ι := Nat) (fun j env L => ∃ v, Sub env [(0, pv p), (3, v), (4, .string (lastS T j))] ∧ Ent L [own 9 1 v (T.take j).length ((T.take j).flatMap scsv), blk p 64 (rdC d.quota fv (.slice A d.seen.length c) av wv d.falls d.off), own 97 2 (.slice A d.seen.length c) d.seen.length (d.seen.flatMap rN1)] ∧ j ≤ T.length) (fun j => T.length - j) 0 ⟨.slice none 0 0, ⟨rfl, rfl, rfl, trivial⟩, (show Ent _ [own 9 1 (.slice none 0 0) 0 [], blk p 64 (rdC d.quota fv (.slice A d.seen.length c) av wv d.falls d.off), own 97 2 (.slice A d.seen.length c) d.seen.length (d.seen.flatMap rN1)] from Split.ent' (by repeat (first | exact Split.nil | (apply Split.cons; (repeat (first | with_reducible exact Take.here | apply Take.there)))))), Nat.zero_le _⟩ ?_
    rintro j env L ⟨v, hsub, hE, hj⟩
    refine swp_sub _ hsub ?_
    refine swp_ent hE ?_
    clear hsub hE env L
    refine swp_block ?_
    refine swp_seq ?_
    refine swp_region ?_
    refine s_pu (pu_assign rfl) ?_
    refine swl_sub _ (.cons (t := 0) rfl (.cons (t := 3) rfl (.cons (t := 4) rfl (.cons (t := 5) rfl .nil)))) ?_
    refine swl_nil ?_
    refine then_n ?_
    refine swp_seq ?_
    refine swp_seq ?_
    refine swp_region ?_
    refine s_pu (pu_assign rfl) ?_
    refine swl_sub _ (.cons (t := 0) rfl (.cons (t := 3) rfl (.cons (t := 4) rfl (.cons (t := 5) rfl (.cons (t := 6) rfl .nil))))) ?_
    refine swl_nil ?_
    refine then_n ?_
    refine swp_block ?_
    refine swp_loop (ι := Nat) (fun i env L => Sub env [(0, pv p), (3, v), (4, .string (lastS T j)), (5, .string (selS (lastS T j) ((d.seen.map (·.1)).take i))), (6, .int .i64 (i : Nat))] ∧ Ent L [own 9 1 v (T.take j).length ((T.take j).flatMap scsv), blk p 64 (rdC d.quota fv (.slice A d.seen.length c) av wv d.falls d.off), own 97 2 (.slice A d.seen.length c) d.seen.length (d.seen.flatMap rN1)] ∧ i ≤ d.seen.length) (fun i => d.seen.length - i) 0 ⟨⟨rfl, rfl, rfl, rfl, rfl, trivial⟩, Split.ent' (by repeat (first | exact Split.nil | (apply Split.cons; (repeat (first | with_reducible exact Take.here | apply Take.there))))), Nat.zero_le _⟩ ?_
    rintro i env L ⟨hsub, hE, hi⟩
    refine swp_sub _ hsub ?_
    refine swp_ent hE ?_
    clear hsub hE env L
    refine swp_seq ?_
    refine swp_seq ?_
    refine swp_region ?_
    refine s_pu (pu_move rfl) ?_
    refine s_pu (pu_move rfl) ?_
    first | refine s_pu (pu_nilCheck rfl) ?_ | refine s_pu (pu_nilCheck_fn rfl) ?_ | refine s_pu (pu_nilCheck_if rfl) ?_
    first | refine s_pu (pu_fieldAddr0 rfl) ?_ | refine s_pu (pu_fieldAddr rfl) ?_
    refine s_rd (rd_load rfl rfl) ?_
    refine s_pu (pu_len rfl) ?_
    refine s_pu (pu_lss rfl rfl) ?_
    refine swl_sub _ (.cons (t := 0) rfl (.cons (t := 3) rfl (.cons (t := 4) rfl (.cons (t := 5) rfl (.cons (t := 6) rfl (.cons (t := 19) rfl .nil)))))) ?_
    refine swl_nil ?_
    refine then_n ?_
    refine swp_cond (b := _) rfl (fun h19 => ?_) (fun h19 => ?_)
    · skip   -- 19 T
      have h19' : i < d.seen.length := by have := of_decide_eq_true h19; omega
      obtain ⟨a, ha⟩ : ∃ a, A = some a := by cases A with | none => have := hA rfl; omega | some a => exact ⟨a, rfl⟩
      obtain ⟨b, rfl⟩ := hA2 a ha
      subst ha
      obtain ⟨y, hy⟩ : ∃ y, d.seen[i]? = some y := ⟨_, List.getElem?_eq_getElem h19'⟩
      have hcell := flat_at (f := rN1) (n := 2) (fun _ => rfl) hy 0 _ rfl
      have hstep := selS_succ (xs := d.seen.map (·.1)) (lastS T j) (show (d.seen.map (·.1))[i]? = some y.1 by rw [List.getElem?_map, hy]; rfl)
      generalize hr : selS (lastS T j) ((d.seen.map (·.1)).take i) = r at hstep ⊢
      refine swp_skip ?_
      refine then_n ?_
      refine swp_seq ?_
      refine swp_block ?_
      refine swp_seq ?_
      refine swp_region ?_
      refine s_pu (pu_move rfl) ?_
      first | refine s_pu (pu_nilCheck rfl) ?_ | refine s_pu (pu_nilCheck_fn rfl) ?_ | refine s_pu (pu_nilCheck_if rfl) ?_
      first | refine s_pu (pu_fieldAddr0 rfl) ?_ | refine s_pu (pu_fieldAddr rfl) ?_
      refine s_rd (rd_load rfl rfl) ?_
      refine s_pu (pu_move rfl) ?_
      refine s_pu (pu_indexAddr (0 + i * 2) rfl rfl (by omega) (by omega) (by rw [Int.toNat_natCast])) ?_
      first | refine s_pu (pu_fieldAddr0 rfl) ?_ | refine s_pu (pu_fieldAddr rfl) ?_
      refine s_rd (rd_own rfl (by repeat (first | with_reducible exact Take.here | apply Take.there)) (by rw [Nat.zero_add]; exact hcell)) ?_
      refine s_pu (pu_assign rfl) ?_
      refine swl_sub _ (.cons (t := 0) rfl (.cons (t := 3) rfl (.cons (t := 4) rfl (.cons (t := 5) rfl (.cons (t := 6) rfl (.cons (t := 7) rfl .nil)))))) ?_
      refine swl_nil ?_
      refine then_n ?_
      refine swp_seq ?_
      refine swp_region ?_
      refine s_pu (pu_move rfl) ?_
      refine s_pu (pu_move rfl) ?_
      refine s_pu (pu_str_gtr rfl rfl) ?_
      refine s_pu (pu_move rfl) ?_
      refine s_split 33 rfl (fun h33 => ?_) (fun h33 => ?_)
      · skip   -- 33 T
        refine s_on rfl rfl ?_
        refine s_pu (pu_move rfl) ?_
        refine s_on rfl rfl ?_
        refine s_pu (pu_str_eql rfl rfl) ?_
        refine s_on rfl rfl ?_
        refine s_pu (pu_move rfl) ?_
        refine s_split 36 rfl (fun h36 => ?_) (fun h36 => ?_)
        · skip   -- 36 T
          refine s_off rfl rfl rfl ?_
          refine s_off rfl rfl rfl ?_
          refine s_off rfl rfl rfl ?_
          refine s_on rfl rfl ?_
          first | refine s_pu (pu_pick_t rfl rfl) ?_ | refine s_pu (pu_pick_f rfl rfl) ?_
          first | refine s_pu (pu_pick_t rfl rfl) ?_ | refine s_pu (pu_pick_f rfl rfl) ?_
          refine swl_sub _ (.cons (t := 0) rfl (.cons (t := 3) rfl (.cons (t := 4) rfl (.cons (t := 5) rfl (.cons (t := 6) rfl (.cons (t := 7) rfl (.cons (t := 41) rfl .nil))))))) ?_
          refine swl_nil ?_
          refine then_n ?_
          refine swp_cond (b := _) rfl (fun h41 => ?_) (fun h41 => by cases h41)
          refine swp_region ?_
          refine s_pu (pu_move rfl) ?_
          refine s_pu (pu_assign rfl) ?_
          refine swl_sub _ (.cons (t := 0) rfl (.cons (t := 3) rfl (.cons (t := 4) rfl (.cons (t := 5) rfl (.cons (t := 6) rfl .nil))))) ?_
          refine swl_nil ?_
          refine block_n ?_
          refine then_n ?_
          refine swp_region ?_
          refine s_pu (pu_move rfl) ?_
          refine s_pu (pu_add_as ((i + 1 : Nat) : Int) rfl rfl (by omega) (by omega) (by omega)) ?_
          refine s_pu (pu_assign rfl) ?_
          refine swl_sub _ (.cons (t := 0) rfl (.cons (t := 3) rfl (.cons (t := 4) rfl (.cons (t := 5) rfl (.cons (t := 6) rfl .nil))))) ?_
          refine swl_nil ?_
          have e : updS (lastS T j) r y.1 = y.1 := by unfold updS; rw [gt_lt] at h33; rw [if_pos ⟨h33, .inl (strEq_iff.1 h36)⟩]
          rw [e] at hstep
          exact then_n ⟨i + 1, ⟨⟨rfl, rfl, rfl, by rw [hstep]; rfl, rfl, trivial⟩, Split.ent' (by repeat (first | exact Split.nil | (apply Split.cons; (repeat (first | with_reducible exact Take.here | apply Take.there))))), h19'⟩, by omega⟩
        · skip   -- 36 F
          refine s_on rfl rfl ?_
          refine s_pu (pu_move rfl) ?_
          refine s_on rfl rfl ?_
          refine s_pu (pu_move rfl) ?_
          refine s_on rfl rfl ?_
          refine s_pu (pu_str_lss rfl rfl) ?_
          refine s_on rfl rfl ?_
          first | refine s_pu (pu_pick_t rfl rfl) ?_ | refine s_pu (pu_pick_f rfl rfl) ?_
          first | refine s_pu (pu_pick_t rfl rfl) ?_ | refine s_pu (pu_pick_f rfl rfl) ?_
          refine swl_sub _ (.cons (t := 0) rfl (.cons (t := 3) rfl (.cons (t := 4) rfl (.cons (t := 5) rfl (.cons (t := 6) rfl (.cons (t := 7) rfl (.cons (t := 41) rfl .nil))))))) ?_
          refine swl_nil ?_
          refine then_n ?_
          refine swp_cond (b := _) rfl (fun h41 => ?_) (fun h41 => ?_)
          · skip   -- 41 T
            refine swp_region ?_
            refine s_pu (pu_move rfl) ?_
            refine s_pu (pu_assign rfl) ?_
            refine swl_sub _ (.cons (t := 0) rfl (.cons (t := 3) rfl (.cons (t := 4) rfl (.cons (t := 5) rfl (.cons (t := 6) rfl .nil))))) ?_
            refine swl_nil ?_
            refine block_n ?_
            refine then_n ?_
            refine swp_region ?_
            refine s_pu (pu_move rfl) ?_
            refine s_pu (pu_add_as ((i + 1 : Nat) : Int) rfl rfl (by omega) (by omega) (by omega)) ?_
            refine s_pu (pu_assign rfl) ?_
            refine swl_sub _ (.cons (t := 0) rfl (.cons (t := 3) rfl (.cons (t := 4) rfl (.cons (t := 5) rfl (.cons (t := 6) rfl .nil))))) ?_
            refine swl_nil ?_
            have e : updS (lastS T j) r y.1 = y.1 := by unfold updS; rw [gt_lt] at h33; rw [if_pos ⟨h33, .inr h41⟩]
            rw [e] at hstep
            exact then_n ⟨i + 1, ⟨⟨rfl, rfl, rfl, by rw [hstep]; rfl, rfl, trivial⟩, Split.ent' (by repeat (first | exact Split.nil | (apply Split.cons; (repeat (first | with_reducible exact Take.here | apply Take.there))))), h19'⟩, by omega⟩
          · skip   -- 41 F
            refine swp_skip ?_
            refine block_n ?_
            refine then_n ?_
            refine swp_region ?_
            refine s_pu (pu_move rfl) ?_
            refine s_pu (pu_add_as ((i + 1 : Nat) : Int) rfl rfl (by omega) (by omega) (by omega)) ?_
            refine s_pu (pu_assign rfl) ?_
            refine swl_sub _ (.cons (t := 0) rfl (.cons (t := 3) rfl (.cons (t := 4) rfl (.cons (t := 5) rfl (.cons (t := 6) rfl .nil))))) ?_
            refine swl_nil ?_
            have e : updS (lastS T j) r y.1 = r := by unfold updS; rw [if_neg (fun q => q.2.elim (fun q => by rw [strEq_iff.2 q] at h36; cases h36) (fun q => by rw [q] at h41; cases h41))]
            rw [e] at hstep
            exact then_n ⟨i + 1, ⟨⟨rfl, rfl, rfl, by rw [hstep]; rfl, rfl, trivial⟩, Split.ent' (by repeat (first | exact Split.nil | (apply Split.cons; (repeat (first | with_reducible exact Take.here | apply Take.there))))), h19'⟩, by omega⟩
      · skip   -- 33 F
        refine s_off rfl rfl rfl ?_
        refine s_off rfl rfl rfl ?_
        refine s_off rfl rfl rfl ?_
        refine s_off rfl rfl rfl ?_
        refine s_off rfl rfl rfl ?_
        refine s_off rfl rfl rfl ?_
        refine s_off rfl rfl rfl ?_
        first | refine s_pu (pu_pick_t rfl rfl) ?_ | refine s_pu (pu_pick_f rfl rfl) ?_
        refine swl_sub _ (.cons (t := 0) rfl (.cons (t := 3) rfl (.cons (t := 4) rfl (.cons (t := 5) rfl (.cons (t := 6) rfl (.cons (t := 7) rfl (.cons (t := 41) rfl .nil))))))) ?_
        refine swl_nil ?_
        refine then_n ?_
        refine swp_cond (b := _) rfl (fun h41 => by cases h41) (fun h41 => ?_)
        refine swp_skip ?_
        refine block_n ?_
        refine then_n ?_
        refine swp_region ?_
        refine s_pu (pu_move rfl) ?_
        refine s_pu (pu_add_as ((i + 1 : Nat) : Int) rfl rfl (by omega) (by omega) (by omega)) ?_
        refine s_pu (pu_assign rfl) ?_
        refine swl_sub _ (.cons (t := 0) rfl (.cons (t := 3) rfl (.cons (t := 4) rfl (.cons (t := 5) rfl (.cons (t := 6) rfl .nil))))) ?_
        refine swl_nil ?_
        have e : updS (lastS T j) r y.1 = r := by unfold updS; rw [gt_lt] at h33; rw [if_neg (fun q => by rw [q.1] at h33; cases h33)]
        rw [e] at hstep
        exact then_n ⟨i + 1, ⟨⟨rfl, rfl, rfl, by rw [hstep]; rfl, rfl, trivial⟩, Split.ent' (by repeat (first | exact Split.nil | (apply Split.cons; (repeat (first | with_reducible exact Take.here | apply Take.there))))), h19'⟩, by omega⟩
    · skip   -- 19 F
      have h19' : i = d.seen.length := by have := of_decide_eq_false h19; omega
      have hfin : selS (lastS T j) ((d.seen.map (·.1)).take i) = (T[j]?).getD ⟨#[]⟩ := by rw [h19', List.take_of_length_le (by rw [List.length_map]; omega)]; exact hsel j hj
      rw [hfin]
      refine swp_exit ?_
      refine then_x ?_
      refine then_x ?_
      refine block_hit rfl ?_
      refine then_n ?_
      refine swp_seq ?_
      refine swp_seq ?_
      refine swp_region ?_
      refine s_pu (pu_move rfl) ?_
      refine s_pu (pu_str_eql rfl rfl) ?_
      refine swl_sub _ (.cons (t := 0) rfl (.cons (t := 3) rfl (.cons (t := 5) rfl (.cons (t := 44) rfl .nil)))) ?_
      refine swl_nil ?_
      refine then_n ?_
      refine swp_cond (b := _) rfl (fun h44 => ?_) (fun h44 => ?_)
      · skip   -- 44 T
        have hjT : j = T.length := by
          have h44' := strEq_iff.1 h44
          by_cases hc : j < T.length
          · rw [List.getElem?_eq_getElem hc, Option.getD_some] at h44'
            have hperm : T.Perm (d.seen.map (·.1)) := by rw [hT]; exact srtS_self _
            have hm : T[j] ∈ d.seen.map (·.1) := hperm.mem_iff.1 (List.getElem_mem hc)
            exact absurd h44' (hne _ hm)
          · omega
        refine swp_seq ?_
        refine swp_region ?_
        refine s_pu (pu_move rfl) ?_
        refine s_pu (pu_assign rfl) ?_
        refine swl_sub _ (.cons (t := 2) rfl .nil) ?_
        refine swl_nil ?_
        refine then_n ?_
        refine swp_ret ?_
        refine then_r ?_
        refine block_r ?_
        refine then_r ?_
        refine block_r ?_
        rw [key]
        rw [hjT, List.take_length]
        refine done_ret [own 9 1 v T.length (T.flatMap scsv), blk p 64 (rdC d.quota fv (.slice A d.seen.length c) av wv d.falls d.off), own 97 2 (.slice A d.seen.length c) d.seen.length (d.seen.flatMap rN1)] (.tmp rfl .nil) rfl (by repeat (first | exact Split.nil | (apply Split.cons; (repeat (first | with_reducible exact Take.here | apply Take.there)))))
      · skip   -- 44 F
        have hjT : j < T.length := by
          by_cases hc : j < T.length
          · exact hc
          · rw [List.getElem?_eq_none (by omega), Option.getD_none, strEq_refl] at h44; cases h44
        have hTj : T[j]? = some ((T[j]?).getD ⟨#[]⟩) := by rw [List.getElem?_eq_getElem hjT]; rfl
        have hlast : lastS T (j + 1) = (T[j]?).getD ⟨#[]⟩ := by unfold lastS; rw [if_neg (by omega)]; rfl
        have htl : (T.take j).length = j := by rw [List.length_take]; omega
        refine swp_skip ?_
        refine then_n ?_
        refine swp_seq ?_
        refine swp_region ?_
        refine s_pu (pu_move rfl) ?_
        refine s_pu (pu_move rfl) ?_
        refine s_ef (ef_bldS (qs := [(0, _)]) rfl rfl rfl) ?_
        intro b48
        refine s_ef (ef_append_lit (l := (T.take j).length) (m := 1) rfl rfl (by repeat (first | exact Split.nil | (apply Split.cons; (repeat (first | with_reducible exact Take.here | apply Take.there))))) (by simp only [maxLen]; omega) (by omega)) ?_
        rintro v' hv'
        skip
        refine s_pu (pu_assign rfl) ?_
        refine swl_sub _ (.cons (t := 0) rfl (.cons (t := 3) rfl (.cons (t := 5) rfl .nil))) ?_
        refine swl_nil ?_
        refine then_n ?_
        refine swp_region ?_
        refine s_pu (pu_move rfl) ?_
        refine s_pu (pu_assign rfl) ?_
        refine swl_sub _ (.cons (t := 0) rfl (.cons (t := 3) rfl (.cons (t := 4) rfl .nil))) ?_
        refine swl_nil ?_
        refine block_n ?_
        refine then_n ⟨j + 1, ⟨v', ⟨rfl, rfl, by rw [hlast]; rfl, trivial⟩, ?_, hjT⟩, by omega⟩
        rw [← flat_take_succ hTj, show (T.take (j + 1)).length = (T.take j).length + 1 by rw [List.length_take, List.length_take]; omega]
        exact Split.ent' (by repeat (first | exact Split.nil | (apply Split.cons; (repeat (first | with_reducible exact Take.here | apply Take.there)))))
end SX
namespace SX
open Go Go.Proofs
set_option maxHeartbeats 4000000 in
theorem rsame_spec (v u : Value) (xs : List ByteArray) (_ : xs.length ≤ 1048576) : Spec Try.prog 59 [v, u] [own 9 1 v xs.length (xs.flatMap scsv), own 9 1 u xs.length (xs.flatMap scsv)] (fun r L => r = .bool true ∧ L = [own 9 1 v xs.length (xs.flatMap scsv), own 9 1 u xs.length (xs.flatMap scsv)]) := by
  refine Spec.fact' (fun m h => own_cap2 h) fun ⟨A, c, hv, hlc, hcm, hA, hA2⟩ => ?_
  refine Spec.pre (pre := [own 9 1 u xs.length (xs.flatMap scsv), own 9 1 v xs.length (xs.flatMap scsv)]) ?_ Ent.swap
  refine Spec.fact' (fun m h => own_cap2 h) fun ⟨A', c', hv', hlc', hcm', hA', hA2'⟩ => ?_
  simp only [maxLen] at hcm hcm'
  subst hv hv'
  refine Spec.of 26 Try.func59 rfl rfl rfl ?_
  refine swp_seq ?_
  refine swp_region ?_
  refine s_pu (pu_assign rfl) ?_
  refine swl_sub _ (.cons (t := 0) rfl (.cons (t := 1) rfl .nil)) ?_
  refine swl_nil ?_
  refine then_n ?_
  refine swp_seq ?_
  refine swp_seq ?_
  refine swp_region ?_
  refine s_pu (pu_move rfl) ?_
  refine s_pu (pu_len rfl) ?_
  refine s_pu (pu_move rfl) ?_
  refine s_pu (pu_len rfl) ?_
  refine s_pu (pu_neq rfl rfl) ?_
  refine swl_sub _ (.cons (t := 0) rfl (.cons (t := 1) rfl (.cons (t := 10) rfl .nil))) ?_
  refine swl_nil ?_
  refine then_n ?_
  refine swp_cond (b := _) rfl (fun h10 => by simp at h10) (fun h10 => ?_)
  refine swp_skip ?_
  refine then_n ?_
  refine swp_seq ?_
  refine swp_seq ?_
  refine swp_region ?_
  refine s_pu (pu_assign rfl) ?_
  refine swl_sub _ (.cons (t := 0) rfl (.cons (t := 1) rfl (.cons (t := 5) rfl .nil))) ?_
  refine swl_nil ?_
  refine then_n ?_
  refine swp_block ?_
  refine swp_loop (ι := Nat) (fun i env L => Sub env [(0, .slice A xs.length c), (1, .slice A' xs.length c'), (5, .int .i64 (i : Nat))] ∧ Ent L [own 9 1 (.slice A' xs.length c') xs.length (xs.flatMap scsv), own 9 1 (.slice A xs.length c) xs.length (xs.flatMap scsv)] ∧ i ≤ xs.length) (fun i => xs.length - i) 0 ⟨⟨rfl, rfl, rfl, trivial⟩, Split.ent' (by repeat (first | exact Split.nil | (apply Split.cons; (repeat (first | with_reducible exact Take.here | apply Take.there))))), Nat.zero_le _⟩ ?_
  rintro i env L ⟨hsub, hE, hi⟩
  refine swp_sub _ hsub ?_
  refine swp_ent hE ?_
  clear hsub hE env L
  refine swp_seq ?_
  refine swp_seq ?_
  refine swp_region ?_
  refine s_pu (pu_move rfl) ?_
  refine s_pu (pu_move rfl) ?_
  refine s_pu (pu_len rfl) ?_
  refine s_pu (pu_lss rfl rfl) ?_
  refine swl_sub _ (.cons (t := 0) rfl (.cons (t := 1) rfl (.cons (t := 5) rfl (.cons (t := 14) rfl .nil)))) ?_
  refine swl_nil ?_
  refine then_n ?_
  refine swp_cond (b := _) rfl (fun h14 => ?_) (fun h14 => ?_)
  · skip   -- 14 T
    have h14' : i < xs.length := by have := of_decide_eq_true h14; omega
    obtain ⟨a, ha⟩ : ∃ a, A = some a := by cases A with | none => have := hA rfl; omega | some a => exact ⟨a, rfl⟩
    obtain ⟨b, rfl⟩ := hA2 a ha
    subst ha
    obtain ⟨a', ha'⟩ : ∃ a, A' = some a := by cases A' with | none => have := hA' rfl; omega | some a => exact ⟨a, rfl⟩
    obtain ⟨b', rfl⟩ := hA2' a' ha'
    subst ha'
    obtain ⟨y, hy⟩ : ∃ y, xs[i]? = some y := ⟨_, List.getElem?_eq_getElem h14'⟩
    have hcell := flat_at (f := scsv) (n := 1) (fun _ => rfl) hy 0 _ rfl
    refine swp_skip ?_
    refine then_n ?_
    refine swp_seq ?_
    refine swp_block ?_
    refine swp_seq ?_
    refine swp_draw [3, 7] _ [] (by simp only [List.append_nil]; exact Ent.refl _) (by kernel_rfl) ?_
    refine d_pu 0 rfl (pu_move rfl) (by kernel_rfl) (by kernel_rfl) (by kernel_rfl) ?_
    refine d_pu 1 rfl (pu_move rfl) (by kernel_rfl) (by kernel_rfl) (by kernel_rfl) ?_
    refine d_pu 2 rfl (pu_indexAddr (0 + i * 1) rfl rfl (by omega) (by omega) (by rw [Int.toNat_natCast])) (by kernel_rfl) (by kernel_rfl) (by kernel_rfl) ?_
    refine d_rd 3 rfl (rd_own rfl (by repeat (first | with_reducible exact Take.here | apply Take.there)) (by rw [Nat.zero_add]; exact hcell)) rfl (by kernel_rfl) (by kernel_rfl) (by kernel_rfl) ?_
    refine d_pu 4 rfl (pu_move rfl) (by kernel_rfl) (by kernel_rfl) (by kernel_rfl) ?_
    refine d_pu 5 rfl (pu_move rfl) (by kernel_rfl) (by kernel_rfl) (by kernel_rfl) ?_
    refine d_pu 6 rfl (pu_indexAddr (0 + i * 1) rfl rfl (by omega) (by omega) (by rw [Int.toNat_natCast])) (by kernel_rfl) (by kernel_rfl) (by kernel_rfl) ?_
    refine d_rd 7 rfl (rd_own rfl (by repeat (first | with_reducible exact Take.here | apply Take.there)) (by rw [Nat.zero_add]; exact hcell)) rfl (by kernel_rfl) (by kernel_rfl) (by kernel_rfl) ?_
    refine d_pu 8 rfl (pu_str_neq rfl rfl) (by kernel_rfl) (by kernel_rfl) (by kernel_rfl) ?_
    refine d_sub _ (.cons (t := 0) rfl (.cons (t := 1) rfl (.cons (t := 5) rfl (.cons (t := 25) rfl .nil)))) ?_
    first | refine d_nilt (by kernel_rfl) ?_ | refine d_nilf (by kernel_rfl) ?_
    refine then_n ?_
    refine swp_cond (b := _) rfl (fun h25 => by rw [strEq_refl] at h25; cases h25) (fun h25 => ?_)
    refine swp_skip ?_
    refine block_n ?_
    refine then_n ?_
    refine swp_region ?_
    refine s_pu (pu_move rfl) ?_
    refine s_pu (pu_add_as ((i + 1 : Nat) : Int) rfl rfl (by omega) (by omega) (by omega)) ?_
    refine s_pu (pu_assign rfl) ?_
    refine swl_sub _ (.cons (t := 0) rfl (.cons (t := 1) rfl (.cons (t := 5) rfl .nil))) ?_
    refine swl_nil ?_
    exact then_n ⟨i + 1, ⟨⟨rfl, rfl, rfl, trivial⟩, Split.ent' (by repeat (first | exact Split.nil | (apply Split.cons; (repeat (first | with_reducible exact Take.here | apply Take.there))))), h14'⟩, by omega⟩
  · skip   -- 14 F
    refine swp_exit ?_
    refine then_x ?_
    refine then_x ?_
    refine block_hit rfl ?_
    refine then_n ?_
    refine swp_seq ?_
    refine swp_region ?_
    refine s_pu (pu_assign rfl) ?_
    refine swl_sub _ (.cons (t := 4) rfl .nil) ?_
    refine swl_nil ?_
    refine then_n ?_
    refine swp_ret ?_
    exact done_ret [own 9 1 (.slice A xs.length c) xs.length (xs.flatMap scsv), own 9 1 (.slice A' xs.length c') xs.length (xs.flatMap scsv)] (.tmp rfl .nil) ⟨rfl, rfl⟩ (by repeat (first | exact Split.nil | (apply Split.cons; (repeat (first | with_reducible exact Take.here | apply Take.there)))))
theorem new_bad (q : Int) (h : ¬ newOk q) : Spec Try.prog 12 [.int .i64 q] [] (fun r L => r = .tuple #[.pointer none, .int .i64 1] ∧ L = []) :=
  (new_spec q).mono fun _ _ k => by
    rcases k with ⟨_, k⟩ | ⟨k, _⟩
    · exact k
    · exact absurd k h
theorem rnew_bad (q : Int) (h : ¬ newOk q) : Spec Try.prog 19 [.int .i64 q] [] (fun r L => r = .tuple #[.pointer none, .int .i64 1] ∧ L = []) :=
  (rnew_spec q).mono fun _ _ k => by
    rcases k with ⟨_, k⟩ | ⟨k, _⟩
    · exact k
    · exact absurd k h
theorem begun_bad (q : Int) (h : ¬ newOk q) : Spec Try.prog 25 [.int .i64 q] [] (fun r L => r = .tuple #[.pointer none, .pointer none, .bool true] ∧ L = []) := by
  refine Spec.of 31 Try.func25 rfl rfl rfl ?_
  refine swp_seq ?_
  refine swp_region ?_
  refine s_pu (pu_assign rfl) ?_
  refine s_pu (pu_assign rfl) ?_
  refine s_pu (pu_assign rfl) ?_
  refine swl_sub _ (.cons (t := 0) rfl .nil) ?_
  refine swl_nil ?_
  refine then_n ?_
  refine swp_seq ?_
  refine swp_region ?_
  refine s_pu (pu_move rfl) ?_
  refine s_ef (ef_fn (new_bad q h) rfl rfl (by repeat (first | exact Split.nil | (apply Split.cons; (repeat (first | with_reducible exact Take.here | apply Take.there)))))) ?_
  rintro v11 L1 ⟨rfl, rfl⟩
  refine swl_app ?_
  refine s_pu (pu_move rfl) ?_
  first | refine s_pu (pu_extractL rfl) ?_ | refine s_pu (pu_extract rfl rfl) ?_
  first | refine s_pu (pu_extractL rfl) ?_ | refine s_pu (pu_extract rfl rfl) ?_
  refine s_pu (pu_assign rfl) ?_
  refine s_pu (pu_assign rfl) ?_
  refine swl_sub _ (.cons (t := 0) rfl (.cons (t := 5) rfl (.cons (t := 6) rfl .nil))) ?_
  refine swl_nil ?_
  refine then_n ?_
  refine swp_seq ?_
  refine swp_region ?_
  refine s_pu (pu_move rfl) ?_
  refine s_ef (ef_fn (rnew_bad q h) rfl rfl (by repeat (first | exact Split.nil | (apply Split.cons; (repeat (first | with_reducible exact Take.here | apply Take.there)))))) ?_
  rintro v16 L1 ⟨rfl, rfl⟩
  refine swl_app ?_
  refine s_pu (pu_move rfl) ?_
  first | refine s_pu (pu_extractL rfl) ?_ | refine s_pu (pu_extract rfl rfl) ?_
  first | refine s_pu (pu_extractL rfl) ?_ | refine s_pu (pu_extract rfl rfl) ?_
  refine s_pu (pu_assign rfl) ?_
  refine s_pu (pu_assign rfl) ?_
  refine swl_sub _ (.cons (t := 5) rfl (.cons (t := 6) rfl (.cons (t := 7) rfl (.cons (t := 8) rfl .nil)))) ?_
  refine swl_nil ?_
  refine then_n ?_
  refine swp_seq ?_
  refine swp_region ?_
  refine s_pu (pu_move rfl) ?_
  refine s_pu (pu_move rfl) ?_
  refine s_pu (pu_move rfl) ?_
  refine s_pu (pu_move rfl) ?_
  refine s_pu (pu_eql rfl rfl) ?_
  refine s_pu (pu_move rfl) ?_
  refine s_split 24 rfl (fun h24 => ?_) (fun h24 => by cases h24)
  refine s_on rfl rfl ?_
  refine s_pu (pu_move rfl) ?_
  refine s_on rfl rfl ?_
  refine s_pu (pu_ptr_eq_nil rfl rfl) ?_
  refine s_on rfl rfl ?_
  refine s_pu (pu_move rfl) ?_
  refine s_on rfl rfl ?_
  refine s_pu (pu_ptr_eq_nil rfl rfl) ?_
  refine s_on rfl rfl ?_
  refine s_pu (pu_bool_eq rfl rfl) ?_
  first | refine s_pu (pu_pick_t rfl rfl) ?_ | refine s_pu (pu_pick_f rfl rfl) ?_
  refine s_pu (pu_assign rfl) ?_
  refine s_pu (pu_assign rfl) ?_
  refine s_pu (pu_assign rfl) ?_
  refine swl_sub _ (.cons (t := 2) rfl (.cons (t := 3) rfl (.cons (t := 4) rfl .nil))) ?_
  refine swl_nil ?_
  refine then_n ?_
  refine swp_ret ?_
  exact done_ret [] (.tmp rfl (.tmp rfl (.tmp rfl .nil))) ⟨rfl, rfl⟩ (by repeat (first | exact Split.nil | (apply Split.cons; (repeat (first | with_reducible exact Take.here | apply Take.there)))))
theorem begun_at (q : Int) (h : newOk q) : Spec Try.prog 25 [.int .i64 q] [] (fun r L => ∃ p w, r = .tuple #[pv p, pv w, .bool true] ∧ L = [FSA p (newD q), RDA w (newD q)]) := by
  refine Spec.of 31 Try.func25 rfl rfl rfl ?_
  refine swp_seq ?_
  refine swp_region ?_
  refine s_pu (pu_assign rfl) ?_
  refine s_pu (pu_assign rfl) ?_
  refine s_pu (pu_assign rfl) ?_
  refine swl_sub _ (.cons (t := 0) rfl .nil) ?_
  refine swl_nil ?_
  refine then_n ?_
  refine swp_seq ?_
  refine swp_region ?_
  refine s_pu (pu_move rfl) ?_
  refine s_ef (ef_fn (new_at q h) rfl rfl (by repeat (first | exact Split.nil | (apply Split.cons; (repeat (first | with_reducible exact Take.here | apply Take.there)))))) ?_
  rintro v11 L1 ⟨p, rfl, rfl⟩
  refine swl_app ?_
  refine s_pu (pu_move rfl) ?_
  first | refine s_pu (pu_extractL rfl) ?_ | refine s_pu (pu_extract rfl rfl) ?_
  first | refine s_pu (pu_extractL rfl) ?_ | refine s_pu (pu_extract rfl rfl) ?_
  refine s_pu (pu_assign rfl) ?_
  refine s_pu (pu_assign rfl) ?_
  refine swl_sub _ (.cons (t := 0) rfl (.cons (t := 5) rfl (.cons (t := 6) rfl .nil))) ?_
  refine swl_nil ?_
  refine then_n ?_
  refine swp_seq ?_
  refine swp_region ?_
  refine s_pu (pu_move rfl) ?_
  refine s_ef (ef_fn (rnew_at q h) rfl rfl (by repeat (first | exact Split.nil | (apply Split.cons; (repeat (first | with_reducible exact Take.here | apply Take.there)))))) ?_
  rintro v16 L1 ⟨w, rfl, rfl⟩
  refine swl_app ?_
  refine s_pu (pu_move rfl) ?_
  first | refine s_pu (pu_extractL rfl) ?_ | refine s_pu (pu_extract rfl rfl) ?_
  first | refine s_pu (pu_extractL rfl) ?_ | refine s_pu (pu_extract rfl rfl) ?_
  refine s_pu (pu_assign rfl) ?_
  refine s_pu (pu_assign rfl) ?_
  refine swl_sub _ (.cons (t := 5) rfl (.cons (t := 6) rfl (.cons (t := 7) rfl (.cons (t := 8) rfl .nil)))) ?_
  refine swl_nil ?_
  refine then_n ?_
  refine swp_seq ?_
  refine swp_region ?_
  refine s_pu (pu_move rfl) ?_
  refine s_pu (pu_move rfl) ?_
  refine s_pu (pu_move rfl) ?_
  refine s_pu (pu_move rfl) ?_
  refine s_pu (pu_eql rfl rfl) ?_
  refine s_pu (pu_move rfl) ?_
  refine s_split 24 rfl (fun h24 => ?_) (fun h24 => by cases h24)
  refine s_on rfl rfl ?_
  refine s_pu (pu_move rfl) ?_
  refine s_on rfl rfl ?_
  refine s_pu (pu_ptr_eq_nil rfl rfl) ?_
  refine s_on rfl rfl ?_
  refine s_pu (pu_move rfl) ?_
  refine s_on rfl rfl ?_
  refine s_pu (pu_ptr_eq_nil rfl rfl) ?_
  refine s_on rfl rfl ?_
  refine s_pu (pu_bool_eq rfl rfl) ?_
  first | refine s_pu (pu_pick_t rfl rfl) ?_ | refine s_pu (pu_pick_f rfl rfl) ?_
  refine s_pu (pu_assign rfl) ?_
  refine s_pu (pu_assign rfl) ?_
  refine s_pu (pu_assign rfl) ?_
  refine swl_sub _ (.cons (t := 2) rfl (.cons (t := 3) rfl (.cons (t := 4) rfl .nil))) ?_
  refine swl_nil ?_
  refine then_n ?_
  refine swp_ret ?_
  exact done_ret [FSA p (newD q), RDA w (newD q)] (.tmp rfl (.tmp rfl (.tmp rfl .nil))) ⟨p, w, rfl, rfl⟩ (by repeat (first | exact Split.nil | (apply Split.cons; (repeat (first | with_reducible exact Take.here | apply Take.there)))))
theorem namesD_le {d : Dk} (hd : d.Ok) : (namesD d).length ≤ 64 := by
  unfold namesD
  split
  · exact Nat.zero_le _
  · rw [srtS_len, List.length_map]; exact hd.seenLe
set_option maxHeartbeats 8000000 in
theorem told_spec (p0 p : Nat) (d : Dk) (hd : d.Ok) (hw : Few d) : Spec Try.prog 26 [pv p0, pv p] [FSA p0 d, RDA p d] (fun r L => r = .bool true ∧ L = [FSA p0 d, RDA p d]) := by
  have hnl := namesD_le hd
  refine Spec.pre (pre := [RDA p d, FSA p0 d]) ?_ Ent.swap
  refine RDA.open' fun ⟨fv, sv, av, wv⟩ => ?_
  dsimp only
  refine Spec.of 62 Try.func26 rfl rfl rfl ?_
  refine swp_seq ?_
  refine swp_region ?_
  refine s_pu (pu_assign rfl) ?_
  refine swl_sub _ (.cons (t := 0) rfl (.cons (t := 1) rfl .nil)) ?_
  refine swl_nil ?_
  refine then_n ?_
  refine swp_seq ?_
  refine swp_region ?_
  refine s_pu (pu_move rfl) ?_
  refine s_ef (ef_fn (rnames_spec p d hd fv sv av wv) rfl rfl (by repeat (first | exact Split.nil | (apply Split.cons; (repeat (first | with_reducible exact Take.here | apply Take.there)))))) ?_
  rintro v13 L1 rfl
  refine swl_app ?_
  refine s_pu (pu_assign rfl) ?_
  refine swl_sub _ (.cons (t := 0) rfl (.cons (t := 1) rfl (.cons (t := 5) rfl .nil))) ?_
  refine swl_nil ?_
  refine then_n ?_
  refine swp_seq ?_
  refine swp_seq ?_
  refine swp_draw [5] ([blk p 64 (rdC d.quota fv sv av wv d.falls d.off)]) ([own 9 1 v13 (namesD d).length ((namesD d).flatMap scsv), own 97 2 sv d.seen.length (d.seen.flatMap rN1), own 99 2 fv d.files.length (d.files.flatMap rF1), own 97 2 av d.safe.length (d.safe.flatMap rN1), own 95 3 wv d.pend.length (d.pend.flatMap rC1), FSA p0 d]) (Split.ent (by repeat (first | exact Split.nil | (apply Split.cons; (repeat (first | with_reducible exact Take.here | apply Take.there)))))) (by kernel_rfl) ?_
  refine d_pu 0 rfl (pu_move rfl) (by kernel_rfl) (by kernel_rfl) (by kernel_rfl) ?_
  refine d_pu 2 rfl (pu_move rfl) (by kernel_rfl) (by kernel_rfl) (by kernel_rfl) ?_
  first | refine d_pu 3 rfl (pu_nilCheck rfl) (by kernel_rfl) (by kernel_rfl) (by kernel_rfl) ?_ | refine d_pu 3 rfl (pu_nilCheck_fn rfl) (by kernel_rfl) (by kernel_rfl) (by kernel_rfl) ?_ | refine d_pu 3 rfl (pu_nilCheck_if rfl) (by kernel_rfl) (by kernel_rfl) (by kernel_rfl) ?_
  first | refine d_pu 4 rfl (pu_fieldAddr0 rfl) (by kernel_rfl) (by kernel_rfl) (by kernel_rfl) ?_ | refine d_pu 4 rfl (pu_fieldAddr rfl) (by kernel_rfl) (by kernel_rfl) (by kernel_rfl) ?_
  refine d_rd 5 rfl (rd_load rfl rfl) rfl (by kernel_rfl) (by kernel_rfl) (by kernel_rfl) ?_
  refine d_eft 1 rfl (by kernel_rfl) (ef_fn (off_spec p0 d) rfl rfl (by repeat (first | exact Split.nil | (apply Split.cons; (repeat (first | with_reducible exact Take.here | apply Take.there)))))) ?_
  rintro v15 L1 ⟨rfl, rfl⟩
  refine ⟨_, ent_appC (Split.ent (by repeat (first | exact Split.nil | (apply Split.cons; (repeat (first | with_reducible exact Take.here | apply Take.there)))))), ?_⟩
  refine d_pu 6 rfl (pu_bool_ne rfl rfl) (by kernel_rfl) (by kernel_rfl) (by kernel_rfl) ?_
  refine d_pu 7 rfl (pu_move rfl) (by kernel_rfl) (by kernel_rfl) (by kernel_rfl) ?_
  refine d_split 21 rfl (fun h21 => by simp at h21) (fun h21 => ?_)
  refine d_pu_on 8 rfl rfl rfl (pu_move rfl) (by kernel_rfl) (by kernel_rfl) (by kernel_rfl) ?_
  refine d_pu_on 10 rfl rfl rfl (pu_move rfl) (by kernel_rfl) (by kernel_rfl) (by kernel_rfl) ?_
  refine d_amb [9] (by kernel_rfl) rfl ?_
  first | refine dA_fint 9 rfl (GOn.some rfl rfl) (by kernel_rfl) (ef_fn (used_fs p0 d hd) rfl rfl (by repeat (first | exact Split.nil | (apply Split.cons; (repeat (first | with_reducible exact Take.here | apply Take.there)))))) ?_ | refine dA_finf 9 rfl (GOn.some rfl rfl) (by kernel_rfl) (ef_fn (used_fs p0 d hd) rfl rfl (by repeat (first | exact Split.nil | (apply Split.cons; (repeat (first | with_reducible exact Take.here | apply Take.there)))))) ?_
  rintro v23 L1 ⟨rfl, rfl⟩
  refine swd_app ?_
  refine d_amb [11] (by kernel_rfl) rfl ?_
  first | refine dA_fint 11 rfl (GOn.some rfl rfl) (by kernel_rfl) (ef_fn (rused_spec p d hd hw fv sv av wv) rfl rfl (by repeat (first | exact Split.nil | (apply Split.cons; (repeat (first | with_reducible exact Take.here | apply Take.there)))))) ?_ | refine dA_finf 11 rfl (GOn.some rfl rfl) (by kernel_rfl) (ef_fn (rused_spec p d hd hw fv sv av wv) rfl rfl (by repeat (first | exact Split.nil | (apply Split.cons; (repeat (first | with_reducible exact Take.here | apply Take.there)))))) ?_
  rintro v25 L1 ⟨rfl, rfl⟩
  refine swd_app ?_
  refine d_pu_on 12 rfl rfl rfl (pu_neq rfl rfl) (by kernel_rfl) (by kernel_rfl) (by kernel_rfl) ?_
  first | refine d_pu 13 rfl (pu_pick_t rfl rfl) (by kernel_rfl) (by kernel_rfl) (by kernel_rfl) ?_ | refine d_pu 13 rfl (pu_pick_f rfl rfl) (by kernel_rfl) (by kernel_rfl) (by kernel_rfl) ?_
  refine d_pu 14 rfl (pu_move rfl) (by kernel_rfl) (by kernel_rfl) (by kernel_rfl) ?_
  refine d_split 28 rfl (fun h28 => by simp at h28) (fun h28 => ?_)
  refine d_pu_on 15 rfl rfl rfl (pu_move rfl) (by kernel_rfl) (by kernel_rfl) (by kernel_rfl) ?_
  refine d_pu_on 17 rfl rfl rfl (pu_move rfl) (by kernel_rfl) (by kernel_rfl) (by kernel_rfl) ?_
  refine d_amb [16] (by kernel_rfl) rfl ?_
  first | refine dA_fint 16 rfl (GOn.some rfl rfl) (by kernel_rfl) (ef_fn (names_spec p0 d hd) rfl rfl (by repeat (first | exact Split.nil | (apply Split.cons; (repeat (first | with_reducible exact Take.here | apply Take.there)))))) ?_ | refine dA_finf 16 rfl (GOn.some rfl rfl) (by kernel_rfl) (ef_fn (names_spec p0 d hd) rfl rfl (by repeat (first | exact Split.nil | (apply Split.cons; (repeat (first | with_reducible exact Take.here | apply Take.there)))))) ?_
  rintro v30 L1 rfl
  refine swd_app ?_
  refine d_amb [18] (by kernel_rfl) rfl ?_
  first | refine dA_fint 18 rfl (GOn.some rfl rfl) (by kernel_rfl) (ef_fn (rsame_spec v30 v13 (namesD d) (by omega)) rfl rfl (by repeat (first | exact Split.nil | (apply Split.cons; (repeat (first | with_reducible exact Take.here | apply Take.there)))))) ?_ | refine dA_finf 18 rfl (GOn.some rfl rfl) (by kernel_rfl) (ef_fn (rsame_spec v30 v13 (namesD d) (by omega)) rfl rfl (by repeat (first | exact Split.nil | (apply Split.cons; (repeat (first | with_reducible exact Take.here | apply Take.there)))))) ?_
  rintro v32 L1 ⟨rfl, rfl⟩
  refine swd_app ?_
  refine d_pu_on 19 rfl rfl rfl (pu_not rfl) (by kernel_rfl) (by kernel_rfl) (by kernel_rfl) ?_
  first | refine d_pu 20 rfl (pu_pick_t rfl rfl) (by kernel_rfl) (by kernel_rfl) (by kernel_rfl) ?_ | refine d_pu 20 rfl (pu_pick_f rfl rfl) (by kernel_rfl) (by kernel_rfl) (by kernel_rfl) ?_
  refine d_sub _ (.cons (t := 0) rfl (.cons (t := 1) rfl (.cons (t := 5) rfl (.cons (t := 34) rfl .nil)))) ?_
  first | refine d_nilt (by kernel_rfl) ?_ | refine d_nilf (by kernel_rfl) ?_
  refine then_n ?_
  refine swp_cond (b := _) rfl (fun h34 => by cases h34) (fun h34 => ?_)
  refine swp_ent (Split.ent' (K := [own 9 1 v13 (namesD d).length ((namesD d).flatMap scsv), blk p 64 (rdC d.quota fv sv av wv d.falls d.off), own 99 2 fv d.files.length (d.files.flatMap rF1), own 97 2 sv d.seen.length (d.seen.flatMap rN1), own 97 2 av d.safe.length (d.safe.flatMap rN1), own 95 3 wv d.pend.length (d.pend.flatMap rC1), FSA p0 d]) (by repeat (first | exact Split.nil | (apply Split.cons; (repeat (first | with_reducible exact Take.here | apply Take.there)))))) ?_
  refine swp_fact (fun m h => own_cap2 h) fun ⟨A, c, hv, hlc, hcm, hA, hA2⟩ => ?_
  simp only [maxLen] at hcm
  subst hv
  refine swp_skip ?_
  refine then_n ?_
  refine swp_seq ?_
  refine swp_seq ?_
  refine swp_region ?_
  refine s_pu (pu_move rfl) ?_
  refine s_pu (pu_len rfl) ?_
  refine s_pu (pu_move rfl) ?_
  refine swl_sub _ (.cons (t := 0) rfl (.cons (t := 1) rfl (.cons (t := 35) rfl (.cons (t := 36) rfl (.cons (t := 37) rfl .nil))))) ?_
  refine swl_nil ?_
  refine then_n ?_
  refine swp_block ?_
  refine swp_loop (ι := Nat) (fun i env L => Sub env [(0, pv p0), (1, pv p), (35, .slice A (namesD d).length c), (36, .int .i64 ((namesD d).length : Nat)), (37, .int .i64 (i : Nat))] ∧ Ent L [own 9 1 (.slice A (namesD d).length c) (namesD d).length ((namesD d).flatMap scsv), FSA p0 d, RDA p d] ∧ i ≤ (namesD d).length) (fun i => (namesD d).length - i) 0 ⟨⟨rfl, rfl, rfl, rfl, rfl, trivial⟩, ?_, Nat.zero_le _⟩ ?_
  · exact Ent.trans (Split.ent' (K := [blk p 64 (rdC d.quota fv sv av wv d.falls d.off), own 99 2 fv d.files.length (d.files.flatMap rF1), own 97 2 sv d.seen.length (d.seen.flatMap rN1), own 97 2 av d.safe.length (d.safe.flatMap rN1), own 95 3 wv d.pend.length (d.pend.flatMap rC1), own 9 1 (.slice A (namesD d).length c) (namesD d).length ((namesD d).flatMap scsv), FSA p0 d]) (by repeat (first | exact Split.nil | (apply Split.cons; (repeat (first | with_reducible exact Take.here | apply Take.there)))))) ((rd_close (x := ⟨fv, sv, av, wv⟩)).trans (Split.ent' (by repeat (first | exact Split.nil | (apply Split.cons; (repeat (first | with_reducible exact Take.here | apply Take.there)))))))
  rintro i env L ⟨hsub, hE, hi⟩
  refine swp_sub _ hsub ?_
  refine swp_ent hE ?_
  clear hsub hE env L
  refine swp_seq ?_
  refine swp_region ?_
  refine s_pu (pu_lss rfl rfl) ?_
  refine swl_sub _ (.cons (t := 0) rfl (.cons (t := 1) rfl (.cons (t := 35) rfl (.cons (t := 36) rfl (.cons (t := 37) rfl (.cons (t := 38) rfl .nil)))))) ?_
  refine swl_nil ?_
  refine then_n ?_
  refine swp_seq ?_
  refine swp_cond (b := _) rfl (fun h38 => ?_) (fun h38 => ?_)
  · skip   -- 38 T
    have h38' : i < (namesD d).length := by have := of_decide_eq_true h38; omega
    obtain ⟨a, ha⟩ : ∃ a, A = some a := by cases A with | none => have := hA rfl; omega | some a => exact ⟨a, rfl⟩
    obtain ⟨b, rfl⟩ := hA2 a ha
    subst ha
    obtain ⟨y, hy⟩ : ∃ y, (namesD d)[i]? = some y := ⟨_, List.getElem?_eq_getElem h38'⟩
    have hcell := flat_at (f := scsv) (n := 1) (fun _ => rfl) hy 0 _ rfl
    refine swp_skip ?_
    refine then_n ?_
    refine swp_seq ?_
    refine swp_block ?_
    refine swp_seq ?_
    refine swp_region ?_
    refine s_pu (pu_indexAddr (0 + i * 1) rfl rfl (by omega) (by omega) (by rw [Int.toNat_natCast])) ?_
    refine s_rd (rd_own rfl (by repeat (first | with_reducible exact Take.here | apply Take.there)) (by rw [Nat.zero_add]; exact hcell)) ?_
    refine s_pu (pu_assign rfl) ?_
    refine swl_sub _ (.cons (t := 0) rfl (.cons (t := 1) rfl (.cons (t := 7) rfl (.cons (t := 35) rfl (.cons (t := 36) rfl (.cons (t := 37) rfl .nil)))))) ?_
    refine swl_nil ?_
    refine then_n ?_
    refine swp_seq ?_
    refine swp_region ?_
    refine s_pu (pu_move rfl) ?_
    refine s_pu (pu_move rfl) ?_
    refine s_ef (ef_fn (read_spec p0 d hd y) rfl rfl (by repeat (first | exact Split.nil | (apply Split.cons; (repeat (first | with_reducible exact Take.here | apply Take.there)))))) ?_
    rintro v44 L1 ⟨rfl, rfl⟩
    refine swl_app ?_
    refine s_pu (pu_move rfl) ?_
    first | refine s_pu (pu_extractL rfl) ?_ | refine s_pu (pu_extract rfl rfl) ?_
    first | refine s_pu (pu_extractL rfl) ?_ | refine s_pu (pu_extract rfl rfl) ?_
    refine s_pu (pu_assign rfl) ?_
    refine s_pu (pu_assign rfl) ?_
    refine swl_sub _ (.cons (t := 0) rfl (.cons (t := 1) rfl (.cons (t := 7) rfl (.cons (t := 8) rfl (.cons (t := 9) rfl (.cons (t := 35) rfl (.cons (t := 36) rfl (.cons (t := 37) rfl .nil)))))))) ?_
    refine swl_nil ?_
    refine then_n ?_
    refine swp_seq ?_
    refine swp_region ?_
    refine s_pu (pu_move rfl) ?_
    refine s_pu (pu_move rfl) ?_
    refine s_ef (ef_fn (rread_spec p d hd hw y) rfl rfl (by repeat (first | exact Split.nil | (apply Split.cons; (repeat (first | with_reducible exact Take.here | apply Take.there)))))) ?_
    rintro v50 L1 ⟨rfl, rfl⟩
    refine swl_app ?_
    refine s_pu (pu_move rfl) ?_
    first | refine s_pu (pu_extractL rfl) ?_ | refine s_pu (pu_extract rfl rfl) ?_
    first | refine s_pu (pu_extractL rfl) ?_ | refine s_pu (pu_extract rfl rfl) ?_
    refine s_pu (pu_assign rfl) ?_
    refine s_pu (pu_assign rfl) ?_
    refine swl_sub _ (.cons (t := 0) rfl (.cons (t := 1) rfl (.cons (t := 8) rfl (.cons (t := 9) rfl (.cons (t := 10) rfl (.cons (t := 11) rfl (.cons (t := 35) rfl (.cons (t := 36) rfl (.cons (t := 37) rfl .nil))))))))) ?_
    refine swl_nil ?_
    refine then_n ?_
    refine swp_seq ?_
    refine swp_region ?_
    refine s_pu (pu_move rfl) ?_
    refine s_pu (pu_move rfl) ?_
    refine s_pu (pu_str_neq rfl rfl) ?_
    refine s_pu (pu_move rfl) ?_
    refine s_split 56 rfl (fun h56 => by simp [strEq_refl] at h56) (fun h56 => ?_)
    refine s_on rfl rfl ?_
    refine s_pu (pu_move rfl) ?_
    refine s_on rfl rfl ?_
    refine s_pu (pu_move rfl) ?_
    refine s_on rfl rfl ?_
    refine s_pu (pu_neq rfl rfl) ?_
    first | refine s_pu (pu_pick_t rfl rfl) ?_ | refine s_pu (pu_pick_f rfl rfl) ?_
    refine swl_sub _ (.cons (t := 0) rfl (.cons (t := 1) rfl (.cons (t := 35) rfl (.cons (t := 36) rfl (.cons (t := 37) rfl (.cons (t := 60) rfl .nil)))))) ?_
    refine swl_nil ?_
    refine then_n ?_
    refine swp_cond (b := _) rfl (fun h60 => by simp at h60) (fun h60 => ?_)
    refine swp_skip ?_
    refine block_n ?_
    refine then_n ?_
    refine swp_region ?_
    refine s_pu (pu_add_as ((i + 1 : Nat) : Int) rfl rfl (by omega) (by omega) (by omega)) ?_
    refine s_pu (pu_move rfl) ?_
    refine swl_sub _ (.cons (t := 0) rfl (.cons (t := 1) rfl (.cons (t := 35) rfl (.cons (t := 36) rfl (.cons (t := 37) rfl .nil))))) ?_
    refine swl_nil ?_
    exact then_n ⟨i + 1, ⟨⟨rfl, rfl, rfl, rfl, rfl, trivial⟩, Split.ent' (by repeat (first | exact Split.nil | (apply Split.cons; (repeat (first | with_reducible exact Take.here | apply Take.there))))), h38'⟩, by omega⟩
  · skip   -- 38 F
    refine swp_exit ?_
    refine then_x ?_
    refine then_x ?_
    refine block_hit rfl ?_
    refine then_n ?_
    refine swp_seq ?_
    refine swp_region ?_
    refine s_pu (pu_assign rfl) ?_
    refine swl_sub _ (.cons (t := 4) rfl .nil) ?_
    refine swl_nil ?_
    refine then_n ?_
    refine swp_ret ?_
    exact done_retE [FSA p0 d, RDA p d] (.tmp rfl .nil) ⟨rfl, rfl⟩ (Split.ent' (by repeat (first | exact Split.nil | (apply Split.cons; (repeat (first | with_reducible exact Take.here | apply Take.there))))))
end SX
namespace SX
open Go Go.Proofs
end SX
