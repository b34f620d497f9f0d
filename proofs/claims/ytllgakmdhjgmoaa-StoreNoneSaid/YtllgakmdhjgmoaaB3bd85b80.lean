/- A part of the proof: walks of the program's functions, and the rules by which they go. -/
import Derived.Test.YtllgakmdhjgmoaaBd7d23380
import Derived.Test.YtllgakmdhjgmoaaBfc69139d
import Derived.Test.YtllgakmdhjgmoaaBf0d8d391
namespace SX
open Go Go.Proofs
theorem own_cap {e n : Nat} {v : Value} {l : Nat} {xs : List Value} {L : List Assn} {m : PH} (h : Sat (own e n v l xs :: L) m) : ∃ A c, v = .slice A l c ∧ l ≤ c ∧ (A = none → c = 0) := by
  obtain ⟨m1, _, ⟨_, ho⟩, _⟩ := h
  rcases ho with ⟨rfl, rfl⟩ | ⟨g, cap, cur, rfl, _, h3, _⟩
  · exact ⟨_, _, rfl, Nat.le_refl _, fun _ => rfl⟩
  · exact ⟨_, _, rfl, h3, fun h => by cases h⟩
theorem bsize (s : ByteArray) : s.data.toList.length = s.size := by rw [Array.length_toList]; rfl
set_option maxHeartbeats 4000000 in
theorem append_spec (p : Nat) (d : Dk) (hd : d.Ok) (s t : ByteArray) (ht : t.size ≤ 1048576) : Spec Try.prog 9 [pv p, .string s, .string t] [FSA p d] (fun r L => r = .int .i64 (appendD d s t.data.toList).2 ∧ L = [FSA p (appendD d s t.data.toList).1]) := by
  refine FSA.open' fun x hx => ?_
  obtain ⟨o, e, hve⟩ := find_ptr x.rs d s
  have hfs := find_spec' (p := p) hx hve
  have hul := Dk.used_le hd
  have hn := strEq_nos t
  have hq := hd.q
  refine Spec.of 35 Try.func9 rfl rfl rfl ?_
  refine swp_seq ?_
  refine swp_region ?_
  refine s_ef (ef_box rfl rfl) ?_
  intro b5
  refine s_pu (pu_assign rfl) ?_
  refine swl_sub _ (.cons (t := 0) rfl (.cons (t := 1) rfl (.cons (t := 5) rfl .nil))) ?_
  refine swl_nil ?_
  refine then_n ?_
  refine swp_seq ?_
  refine swp_region ?_
  refine s_pu (pu_move rfl) ?_
  refine s_pu (pu_move rfl) ?_
  refine s_ef (ef_fn hfs rfl rfl (by repeat (first | exact Split.nil | (apply Split.cons; (repeat (first | with_reducible exact Take.here | apply Take.there)))))) ?_
  rintro v12 L1 ⟨rfl, rfl⟩
  refine swl_app ?_
  refine s_pu (pu_move rfl) ?_
  first | refine s_pu (pu_extractL rfl) ?_ | refine s_pu (pu_extract rfl rfl) ?_
  first | refine s_pu (pu_extractL rfl) ?_ | refine s_pu (pu_extract rfl rfl) ?_
  refine s_ef (ef_alloc) ?_
  intro b7
  refine s_ef0 (ef_store rfl rfl rfl) ?_
  refine s_pu (pu_assign rfl) ?_
  refine swl_sub _ (.cons (t := 0) rfl (.cons (t := 5) rfl (.cons (t := 7) rfl (.cons (t := 8) rfl .nil)))) ?_
  refine swl_nil ?_
  refine then_n ?_
  refine swp_seq ?_
  refine swp_seq ?_
  refine swp_region ?_
  refine s_pu (pu_move rfl) ?_
  refine s_pu (pu_neq rfl rfl) ?_
  refine swl_sub _ (.cons (t := 0) rfl (.cons (t := 5) rfl (.cons (t := 7) rfl (.cons (t := 8) rfl (.cons (t := 16) rfl .nil))))) ?_
  refine swl_nil ?_
  refine then_n ?_
  refine swp_cond (b := _) rfl (fun h16 => ?_) (fun h16 => ?_)
  · skip   -- 16 T
    refine swp_seq ?_
    refine swp_region ?_
    refine s_pu (pu_move rfl) ?_
    refine s_pu (pu_assign rfl) ?_
    refine swl_sub _ (.cons (t := 6) rfl .nil) ?_
    refine swl_nil ?_
    refine then_n ?_
    refine swp_ret ?_
    refine then_r ?_
    have h16' : e ≠ 0 := by simpa using h16
    unfold appendD
    rw [find_err hve h16']
    exact done_retE [FSA p d] (.tmp rfl .nil) ⟨rfl, rfl⟩ ((Split.ent' (K := [fsH p d x, mpe x.sb skv x.es x.cs, mpe x.fb skv x.ef x.cf, own 76 3 x.pv x.ps.length (x.ps.flatMap encP), recsA x.rs]) (by repeat (first | exact Split.nil | (apply Split.cons; (repeat (first | with_reducible exact Take.here | apply Take.there)))))).trans (fs_close hx))
  · skip   -- 16 F
    have h16' : e = 0 := by simpa using h16
    subst h16'
    obtain ⟨k, hk1, hk2, hk3⟩ := find_ok hve
    obtain ⟨r, hr, hf, ha⟩ := hx.find hk1
    rw [ha] at hk2
    rw [hk2]
    have hlen := (Dk.fl_ok hd k).1
    simp only [mostF] at hlen
    rw [← hf] at hlen
    refine swp_skip ?_
    refine then_n ?_
    refine swp_cut (fun env L => Sub env [(0, pv p), (5, pv b5), (7, pv b7)] ∧ Ent L [blk b7 67 [pv r.a], blk b5 9 [.string t], fsH p d x, mpe x.sb skv x.es x.cs, mpe x.fb skv x.ef x.cf, own 76 3 x.pv x.ps.length (x.ps.flatMap encP), recsA x.rs] ∧ ¬ (0 < t.data.toList.length ∧ d.quota < (d.used : Int) + t.data.toList.length)) ?_ ?_
    · skip
      refine swp_seq ?_
      refine swp_draw [0, 5, 11] ([fsH p d x, blk b5 9 [.string t]]) ([blk b7 67 [pv r.a], mpe x.sb skv x.es x.cs, mpe x.fb skv x.ef x.cf, own 76 3 x.pv x.ps.length (x.ps.flatMap encP), recsA x.rs]) (Split.ent (by repeat (first | exact Split.nil | (apply Split.cons; (repeat (first | with_reducible exact Take.here | apply Take.there)))))) (by kernel_rfl) ?_
      refine d_rd 0 rfl (rd_load rfl rfl) rfl (by kernel_rfl) (by kernel_rfl) (by kernel_rfl) ?_
      refine d_pu 1 rfl (pu_str_neq rfl rfl) (by kernel_rfl) (by kernel_rfl) (by kernel_rfl) ?_
      refine d_pu 2 rfl (pu_move rfl) (by kernel_rfl) (by kernel_rfl) (by kernel_rfl) ?_
      refine d_split 20 rfl (fun h20 => ?_) (fun h20 => ?_)
      · skip   -- 20 T
        refine d_pu_on 3 rfl rfl rfl (pu_move rfl) (by kernel_rfl) (by kernel_rfl) (by kernel_rfl) ?_
        refine d_rd_on 5 rfl rfl rfl (rd_load rfl rfl) rfl (by kernel_rfl) (by kernel_rfl) (by kernel_rfl) ?_
        refine d_pu_on 6 rfl rfl rfl (pu_strlen rfl) (by kernel_rfl) (by kernel_rfl) (by kernel_rfl) ?_
        refine d_pu_on 8 rfl rfl rfl (pu_move rfl) (by kernel_rfl) (by kernel_rfl) (by kernel_rfl) ?_
        first | refine d_pu_on 9 rfl rfl rfl (pu_nilCheck rfl) (by kernel_rfl) (by kernel_rfl) (by kernel_rfl) ?_ | refine d_pu_on 9 rfl rfl rfl (pu_nilCheck_fn rfl) (by kernel_rfl) (by kernel_rfl) (by kernel_rfl) ?_ | refine d_pu_on 9 rfl rfl rfl (pu_nilCheck_if rfl) (by kernel_rfl) (by kernel_rfl) (by kernel_rfl) ?_
        first | refine d_pu_on 10 rfl rfl rfl (pu_fieldAddr0 rfl) (by kernel_rfl) (by kernel_rfl) (by kernel_rfl) ?_ | refine d_pu_on 10 rfl rfl rfl (pu_fieldAddr rfl) (by kernel_rfl) (by kernel_rfl) (by kernel_rfl) ?_
        refine d_rd_on 11 rfl rfl rfl (rd_load rfl rfl) rfl (by kernel_rfl) (by kernel_rfl) (by kernel_rfl) ?_
        refine d_amb [4] (by kernel_rfl) rfl ?_
        refine dA_ef 4 rfl (GOn.some rfl rfl) (ef_fn (used_spec p d hd x hx) rfl rfl (by repeat (first | exact Split.nil | (apply Split.cons; (repeat (first | with_reducible exact Take.here | apply Take.there)))))) ?_
        rintro v22 L1 ⟨rfl, rfl⟩
        refine ⟨_, ent_appC (Split.ent (by repeat (first | exact Split.nil | (apply Split.cons; (repeat (first | with_reducible exact Take.here | apply Take.there)))))), ?_⟩
        refine d_pu_on 7 rfl rfl rfl (pu_add_as ((d.used + t.size : Nat) : Int) rfl rfl (by omega) (by omega) (by omega)) (by kernel_rfl) (by kernel_rfl) (by kernel_rfl) ?_
        refine d_pu_on 12 rfl rfl rfl (pu_gtr rfl rfl) (by kernel_rfl) (by kernel_rfl) (by kernel_rfl) ?_
        first | refine d_pu 13 rfl (pu_pick_t rfl rfl) (by kernel_rfl) (by kernel_rfl) (by kernel_rfl) ?_ | refine d_pu 13 rfl (pu_pick_f rfl rfl) (by kernel_rfl) (by kernel_rfl) (by kernel_rfl) ?_
        refine d_sub _ (.cons (t := 0) rfl (.cons (t := 5) rfl (.cons (t := 7) rfl (.cons (t := 31) rfl .nil)))) ?_
        first | refine d_nilt (by kernel_rfl) ?_ | refine d_nilf (by kernel_rfl) ?_
        refine then_n ?_
        refine swp_cond (b := _) rfl (fun h31 => ?_) (fun h31 => ?_)
        · skip   -- 31 T
          refine swp_seq ?_
          refine swp_region ?_
          refine s_pu (pu_assign rfl) ?_
          refine swl_sub _ (.cons (t := 6) rfl .nil) ?_
          refine swl_nil ?_
          refine then_n ?_
          refine swp_ret ?_
          refine then_r ?_
          have h31' := of_decide_eq_true h31
          have key : appendD d s t.data.toList = (d, 7) := by
            unfold appendD
            rw [hk3, if_pos]
            rw [bsize]
            rw [hn] at h20
            have h20' : t.size ≠ 0 := by simpa using h20
            exact ⟨by omega, by omega⟩
          rw [key]
          exact done_retE [FSA p d] (.tmp rfl .nil) ⟨rfl, rfl⟩ ((Split.ent' (K := [fsH p d x, mpe x.sb skv x.es x.cs, mpe x.fb skv x.ef x.cf, own 76 3 x.pv x.ps.length (x.ps.flatMap encP), recsA x.rs]) (by repeat (first | exact Split.nil | (apply Split.cons; (repeat (first | with_reducible exact Take.here | apply Take.there)))))).trans (fs_close hx))
        · skip   -- 31 F
          refine swp_skip ?_
          refine then_n ⟨⟨rfl, rfl, rfl, trivial⟩, Split.ent' (by repeat (first | exact Split.nil | (apply Split.cons; (repeat (first | with_reducible exact Take.here | apply Take.there))))), ?_⟩
          rw [bsize]
          first
            | (have h31' := of_decide_eq_false h31; rintro ⟨_, h2⟩; omega)
            | (rw [hn] at h20
               have h20' : t.size = 0 := by simpa using h20
               rintro ⟨h1, _⟩; omega)
      · skip   -- 20 F
        refine d_off 3 rfl rfl rfl rfl (by kernel_rfl) (by kernel_rfl) (by kernel_rfl) ?_
        refine d_off 4 rfl rfl rfl rfl (by kernel_rfl) (by kernel_rfl) (by kernel_rfl) ?_
        refine d_off 5 rfl rfl rfl rfl (by kernel_rfl) (by kernel_rfl) (by kernel_rfl) ?_
        refine d_off 6 rfl rfl rfl rfl (by kernel_rfl) (by kernel_rfl) (by kernel_rfl) ?_
        refine d_off 7 rfl rfl rfl rfl (by kernel_rfl) (by kernel_rfl) (by kernel_rfl) ?_
        refine d_off 8 rfl rfl rfl rfl (by kernel_rfl) (by kernel_rfl) (by kernel_rfl) ?_
        refine d_off 9 rfl rfl rfl rfl (by kernel_rfl) (by kernel_rfl) (by kernel_rfl) ?_
        refine d_off 10 rfl rfl rfl rfl (by kernel_rfl) (by kernel_rfl) (by kernel_rfl) ?_
        refine d_off 11 rfl rfl rfl rfl (by kernel_rfl) (by kernel_rfl) (by kernel_rfl) ?_
        refine d_off 12 rfl rfl rfl rfl (by kernel_rfl) (by kernel_rfl) (by kernel_rfl) ?_
        first | refine d_pu 13 rfl (pu_pick_t rfl rfl) (by kernel_rfl) (by kernel_rfl) (by kernel_rfl) ?_ | refine d_pu 13 rfl (pu_pick_f rfl rfl) (by kernel_rfl) (by kernel_rfl) (by kernel_rfl) ?_
        refine d_sub _ (.cons (t := 0) rfl (.cons (t := 5) rfl (.cons (t := 7) rfl (.cons (t := 31) rfl .nil)))) ?_
        first | refine d_nilt (by kernel_rfl) ?_ | refine d_nilf (by kernel_rfl) ?_
        refine then_n ?_
        refine swp_cond (b := _) rfl (fun h31 => by cases h31) (fun h31 => ?_)
        refine swp_skip ?_
        refine then_n ⟨⟨rfl, rfl, rfl, trivial⟩, Split.ent' (by repeat (first | exact Split.nil | (apply Split.cons; (repeat (first | with_reducible exact Take.here | apply Take.there))))), ?_⟩
        rw [bsize]
        first
          | (have h31' := of_decide_eq_false h31; rintro ⟨_, h2⟩; omega)
          | (rw [hn] at h20
             have h20' : t.size = 0 := by simpa using h20
             rintro ⟨h1, _⟩; omega)
    rintro env L ⟨hsub, hE, h1⟩
    refine swp_sub _ hsub ?_
    refine swp_ent hE ?_
    clear hsub hE env L
    refine swp_seq ?_
    refine swp_ent (Split.ent' (K := [recsA x.rs, blk b7 67 [pv r.a], blk b5 9 [.string t], fsH p d x, mpe x.sb skv x.es x.cs, mpe x.fb skv x.ef x.cf, own 76 3 x.pv x.ps.length (x.ps.flatMap encP)]) (by repeat (first | exact Split.nil | (apply Split.cons; (repeat (first | with_reducible exact Take.here | apply Take.there)))))) ?_
    refine swp_ent (recs_open' hr (real_of hd hf)) ?_
    refine swp_region ?_
    refine s_pu (pu_move rfl) ?_
    refine s_pu (pu_func (vs := []) (us := [_, _]) rfl rfl) ?_
    refine s_ef (ef_fn (step_spec' (f := 32) (ca := [pv b7, pv b5]) (pre := [blk b7 67 [pv r.a], blk b5 9 [.string t], blk r.a 74 [.int .i64 (k : Nat), r.v, .int .i64 (r.f.safe : Nat)], own 5 1 r.v r.f.bytes.length (bcs r.f.bytes)]) p d.quota x.rs.length x.sb x.fb x.pv d.falls d.off hd.falls (append1_spec b7 b5 r.a k r.f.safe r.f.bytes.length r.v (bcs r.f.bytes) t (by omega))) rfl rfl (by repeat (first | exact Split.nil | (apply Split.cons; (repeat (first | with_reducible exact Take.here | apply Take.there)))))) ?_
    rintro v34 L1 hs
    skip
    refine s_pu (pu_assign rfl) ?_
    refine swl_sub _ (.cons (t := 6) rfl .nil) ?_
    refine swl_nil ?_
    refine then_n ?_
    refine swp_ret ?_
    rcases hs with ⟨hf1, rfl, rfl⟩ | ⟨hfn, rfl, L', ⟨v', rfl⟩, rfl⟩
    · have key : appendD d s t.data.toList = (fa0 d, 8) := by unfold appendD; rw [hk3, if_neg h1]; exact atStep_1 hf1 _
      rw [key]
      refine done_retE [FSA p (fa0 d)] (.tmp rfl .nil) ⟨rfl, rfl⟩ ?_
      simp only [List.cons_append, List.nil_append]
      refine Ent.trans (Split.ent' (K := [own 5 1 r.v r.f.bytes.length (bcs r.f.bytes), blk r.a 74 [.int .i64 (k : Nat), r.v, .int .i64 (r.f.safe : Nat)], holeA x.rs k, fsH p (fa0 d) x, mpe x.sb skv x.es x.cs, mpe x.fb skv x.ef x.cf, own 76 3 x.pv x.ps.length (x.ps.flatMap encP)]) (by repeat (first | exact Split.nil | (apply Split.cons; (repeat (first | with_reducible exact Take.here | apply Take.there)))))) ?_
      refine (recs_back' hr (real_of hd hf)).trans ?_
      exact ((Split.ent' (K := [fsH p (fa0 d) x, mpe x.sb skv x.es x.cs, mpe x.fb skv x.ef x.cf, own 76 3 x.pv x.ps.length (x.ps.flatMap encP), recsA x.rs]) (by repeat (first | exact Split.nil | (apply Split.cons; (repeat (first | with_reducible exact Take.here | apply Take.there)))))).trans (fs_close (d := fa0 d) (hx.fa _ _)))
    · have key : appendD d s t.data.toList = ((fa1 d).setF k ⟨r.f.bytes ++ t.data.toList, r.f.safe⟩, 0) := by
        unfold appendD; rw [hk3, if_neg h1, atStep_n hfn]
        show ((fa1 d).setF k ⟨(d.fl k).bytes ++ _, (d.fl k).safe⟩, _) = _
        rw [← hf]
      rw [key]
      refine done_retE [FSA p ((fa1 d).setF k ⟨r.f.bytes ++ t.data.toList, r.f.safe⟩)] (.tmp rfl .nil) ⟨rfl, rfl⟩ ?_
      simp only [List.cons_append, List.nil_append]
      have hl2 : r.f.bytes.length + t.size = (r.f.bytes ++ t.data.toList).length := by rw [List.length_append, bsize]
      rw [hl2, ← bcs_append]
      refine Ent.trans (Split.ent' (K := [own 5 1 v' (r.f.bytes ++ t.data.toList).length (bcs (r.f.bytes ++ t.data.toList)), blk r.a 74 [.int .i64 (k : Nat), v', .int .i64 (r.f.safe : Nat)], holeA x.rs k, fsH p (fa1 d) x, mpe x.sb skv x.es x.cs, mpe x.fb skv x.ef x.cf, own 76 3 x.pv x.ps.length (x.ps.flatMap encP)]) (by repeat (first | exact Split.nil | (apply Split.cons; (repeat (first | with_reducible exact Take.here | apply Take.there)))))) ?_
      exact fs_set (hx.fa _ _) hr (r' := ⟨r.a, v', ⟨r.f.bytes ++ t.data.toList, r.f.safe⟩⟩) rfl (by have := real_of hd hf; show r.f.safe ≤ (r.f.bytes ++ t.data.toList).length; rw [List.length_append]; omega)
set_option maxHeartbeats 4000000 in
theorem cut_spec (p : Nat) (d : Dk) (hd : d.Ok) (s : ByteArray) (n : Int) : Spec Try.prog 51 [pv p, .string s, .int .i64 n] [FSA p d] (fun r L => r = .int .i64 (cutD d s n).2 ∧ L = [FSA p (cutD d s n).1]) := by
  refine FSA.open' fun x hx => ?_
  obtain ⟨o, e, hve⟩ := find_ptr x.rs d s
  have hfs := find_spec' (p := p) hx hve
  refine Spec.of 32 Try.func51 rfl rfl rfl ?_
  refine swp_seq ?_
  refine swp_region ?_
  refine s_ef (ef_box rfl rfl) ?_
  intro b5
  refine s_pu (pu_assign rfl) ?_
  refine swl_sub _ (.cons (t := 0) rfl (.cons (t := 1) rfl (.cons (t := 5) rfl .nil))) ?_
  refine swl_nil ?_
  refine then_n ?_
  refine swp_seq ?_
  refine swp_region ?_
  refine s_pu (pu_move rfl) ?_
  refine s_pu (pu_move rfl) ?_
  refine s_ef (ef_fn hfs rfl rfl (by repeat (first | exact Split.nil | (apply Split.cons; (repeat (first | with_reducible exact Take.here | apply Take.there)))))) ?_
  rintro v12 L1 ⟨rfl, rfl⟩
  refine swl_app ?_
  refine s_pu (pu_move rfl) ?_
  first | refine s_pu (pu_extractL rfl) ?_ | refine s_pu (pu_extract rfl rfl) ?_
  first | refine s_pu (pu_extractL rfl) ?_ | refine s_pu (pu_extract rfl rfl) ?_
  refine s_ef (ef_alloc) ?_
  intro b7
  refine s_ef0 (ef_store rfl rfl rfl) ?_
  refine s_pu (pu_assign rfl) ?_
  refine swl_sub _ (.cons (t := 0) rfl (.cons (t := 5) rfl (.cons (t := 7) rfl (.cons (t := 8) rfl .nil)))) ?_
  refine swl_nil ?_
  refine then_n ?_
  refine swp_seq ?_
  refine swp_seq ?_
  refine swp_region ?_
  refine s_pu (pu_move rfl) ?_
  refine s_pu (pu_neq rfl rfl) ?_
  refine swl_sub _ (.cons (t := 0) rfl (.cons (t := 5) rfl (.cons (t := 7) rfl (.cons (t := 8) rfl (.cons (t := 16) rfl .nil))))) ?_
  refine swl_nil ?_
  refine then_n ?_
  refine swp_cond (b := _) rfl (fun h16 => ?_) (fun h16 => ?_)
  · skip   -- 16 T
    refine swp_seq ?_
    refine swp_region ?_
    refine s_pu (pu_move rfl) ?_
    refine s_pu (pu_assign rfl) ?_
    refine swl_sub _ (.cons (t := 6) rfl .nil) ?_
    refine swl_nil ?_
    refine then_n ?_
    refine swp_ret ?_
    refine then_r ?_
    have h16' : e ≠ 0 := by simpa using h16
    unfold cutD
    rw [find_err hve h16']
    exact done_retE [FSA p d] (.tmp rfl .nil) ⟨rfl, rfl⟩ ((Split.ent' (K := [fsH p d x, mpe x.sb skv x.es x.cs, mpe x.fb skv x.ef x.cf, own 76 3 x.pv x.ps.length (x.ps.flatMap encP), recsA x.rs]) (by repeat (first | exact Split.nil | (apply Split.cons; (repeat (first | with_reducible exact Take.here | apply Take.there)))))).trans (fs_close hx))
  · skip   -- 16 F
    have h16' : e = 0 := by simpa using h16
    subst h16'
    obtain ⟨k, hk1, hk2, hk3⟩ := find_ok hve
    obtain ⟨r, hr, hf, ha⟩ := hx.find hk1
    rw [ha] at hk2
    rw [hk2]
    have hlen := (Dk.fl_ok hd k).1
    simp only [mostF] at hlen
    rw [← hf] at hlen
    refine swp_ent (Split.ent' (K := [recsA x.rs, blk b7 67 [pv r.a], blk b5 3 [.int .i64 n], fsH p d x, mpe x.sb skv x.es x.cs, mpe x.fb skv x.ef x.cf, own 76 3 x.pv x.ps.length (x.ps.flatMap encP)]) (by repeat (first | exact Split.nil | (apply Split.cons; (repeat (first | with_reducible exact Take.here | apply Take.there)))))) ?_
    refine swp_ent (recs_open' hr (real_of hd hf)) ?_
    refine swp_fact (fun m h => own_cap h) fun ⟨A, c, hv, hlc, hA⟩ => ?_
    refine swp_skip ?_
    refine then_n ?_
    refine swp_cut (fun env L => Sub env [(0, pv p), (5, pv b5), (7, pv b7)] ∧ Ent L [own 5 1 r.v r.f.bytes.length (bcs r.f.bytes), blk r.a 74 [.int .i64 (k : Nat), r.v, .int .i64 (r.f.safe : Nat)], holeA x.rs k, blk b7 67 [pv r.a], blk b5 3 [.int .i64 n], fsH p d x, mpe x.sb skv x.es x.cs, mpe x.fb skv x.ef x.cf, own 76 3 x.pv x.ps.length (x.ps.flatMap encP)] ∧ 0 ≤ n ∧ n ≤ r.f.bytes.length) ?_ ?_
    · skip
      refine swp_seq ?_
      refine swp_draw [0, 3, 4, 7] _ [] (by simp only [List.append_nil]; exact Ent.refl _) (by kernel_rfl) ?_
      refine d_rd 0 rfl (rd_load rfl rfl) rfl (by kernel_rfl) (by kernel_rfl) (by kernel_rfl) ?_
      refine d_pu 1 rfl (pu_lss rfl rfl) (by kernel_rfl) (by kernel_rfl) (by kernel_rfl) ?_
      refine d_pu 2 rfl (pu_move rfl) (by kernel_rfl) (by kernel_rfl) (by kernel_rfl) ?_
      refine d_split 20 rfl (fun h20 => ?_) (fun h20 => ?_)
      · skip   -- 20 T
        refine d_off 3 rfl rfl rfl rfl (by kernel_rfl) (by kernel_rfl) (by kernel_rfl) ?_
        refine d_off 4 rfl rfl rfl rfl (by kernel_rfl) (by kernel_rfl) (by kernel_rfl) ?_
        refine d_off 5 rfl rfl rfl rfl (by kernel_rfl) (by kernel_rfl) (by kernel_rfl) ?_
        refine d_off 6 rfl rfl rfl rfl (by kernel_rfl) (by kernel_rfl) (by kernel_rfl) ?_
        refine d_off 7 rfl rfl rfl rfl (by kernel_rfl) (by kernel_rfl) (by kernel_rfl) ?_
        refine d_off 8 rfl rfl rfl rfl (by kernel_rfl) (by kernel_rfl) (by kernel_rfl) ?_
        refine d_off 9 rfl rfl rfl rfl (by kernel_rfl) (by kernel_rfl) (by kernel_rfl) ?_
        first | refine d_pu 10 rfl (pu_pick_t rfl rfl) (by kernel_rfl) (by kernel_rfl) (by kernel_rfl) ?_ | refine d_pu 10 rfl (pu_pick_f rfl rfl) (by kernel_rfl) (by kernel_rfl) (by kernel_rfl) ?_
        refine d_sub _ (.cons (t := 0) rfl (.cons (t := 5) rfl (.cons (t := 7) rfl (.cons (t := 28) rfl .nil)))) ?_
        first | refine d_nilt (by kernel_rfl) ?_ | refine d_nilf (by kernel_rfl) ?_
        refine then_n ?_
        refine swp_cond (b := _) rfl (fun h28 => ?_) (fun h28 => by cases h28)
        refine swp_seq ?_
        refine swp_region ?_
        refine s_pu (pu_assign rfl) ?_
        refine swl_sub _ (.cons (t := 6) rfl .nil) ?_
        refine swl_nil ?_
        refine then_n ?_
        refine swp_ret ?_
        refine then_r ?_
        have h20' := of_decide_eq_true h20
        have key : cutD d s n = (d, 1) := by unfold cutD; rw [hk3, if_pos (.inl h20')]
        rw [key]
        refine done_retE [FSA p d] (.tmp rfl .nil) ⟨rfl, rfl⟩ ?_
        refine Ent.trans (Split.ent' (K := [own 5 1 r.v r.f.bytes.length (bcs r.f.bytes), blk r.a 74 [.int .i64 (k : Nat), r.v, .int .i64 (r.f.safe : Nat)], holeA x.rs k, fsH p d x, mpe x.sb skv x.es x.cs, mpe x.fb skv x.ef x.cf, own 76 3 x.pv x.ps.length (x.ps.flatMap encP)]) (by repeat (first | exact Split.nil | (apply Split.cons; (repeat (first | with_reducible exact Take.here | apply Take.there)))))) ?_
        exact (recs_back' hr (real_of hd hf)).trans ((Split.ent' (K := [fsH p d x, mpe x.sb skv x.es x.cs, mpe x.fb skv x.ef x.cf, own 76 3 x.pv x.ps.length (x.ps.flatMap encP), recsA x.rs]) (by repeat (first | exact Split.nil | (apply Split.cons; (repeat (first | with_reducible exact Take.here | apply Take.there)))))).trans (fs_close hx))
      · skip   -- 20 F
        refine d_rd_on 3 rfl rfl rfl (rd_load rfl rfl) rfl (by kernel_rfl) (by kernel_rfl) (by kernel_rfl) ?_
        refine d_rd_on 4 rfl rfl rfl (rd_load rfl rfl) rfl (by kernel_rfl) (by kernel_rfl) (by kernel_rfl) ?_
        first | refine d_pu_on 5 rfl rfl rfl (pu_nilCheck rfl) (by kernel_rfl) (by kernel_rfl) (by kernel_rfl) ?_ | refine d_pu_on 5 rfl rfl rfl (pu_nilCheck_fn rfl) (by kernel_rfl) (by kernel_rfl) (by kernel_rfl) ?_ | refine d_pu_on 5 rfl rfl rfl (pu_nilCheck_if rfl) (by kernel_rfl) (by kernel_rfl) (by kernel_rfl) ?_
        first | refine d_pu_on 6 rfl rfl rfl (pu_fieldAddr0 rfl) (by kernel_rfl) (by kernel_rfl) (by kernel_rfl) ?_ | refine d_pu_on 6 rfl rfl rfl (pu_fieldAddr rfl) (by kernel_rfl) (by kernel_rfl) (by kernel_rfl) ?_
        refine d_rd_on 7 rfl rfl rfl (rd_load rfl rfl) rfl (by kernel_rfl) (by kernel_rfl) (by kernel_rfl) ?_
        refine d_pu_on 8 rfl rfl rfl (pu_len_own ⟨A, c, hv⟩ rfl) (by kernel_rfl) (by kernel_rfl) (by kernel_rfl) ?_
        refine d_pu_on 9 rfl rfl rfl (pu_gtr rfl rfl) (by kernel_rfl) (by kernel_rfl) (by kernel_rfl) ?_
        first | refine d_pu 10 rfl (pu_pick_t rfl rfl) (by kernel_rfl) (by kernel_rfl) (by kernel_rfl) ?_ | refine d_pu 10 rfl (pu_pick_f rfl rfl) (by kernel_rfl) (by kernel_rfl) (by kernel_rfl) ?_
        refine d_sub _ (.cons (t := 0) rfl (.cons (t := 5) rfl (.cons (t := 7) rfl (.cons (t := 28) rfl .nil)))) ?_
        first | refine d_nilt (by kernel_rfl) ?_ | refine d_nilf (by kernel_rfl) ?_
        refine then_n ?_
        refine swp_cond (b := _) rfl (fun h28 => ?_) (fun h28 => ?_)
        · skip   -- 28 T
          refine swp_seq ?_
          refine swp_region ?_
          refine s_pu (pu_assign rfl) ?_
          refine swl_sub _ (.cons (t := 6) rfl .nil) ?_
          refine swl_nil ?_
          refine then_n ?_
          refine swp_ret ?_
          refine then_r ?_
          have h28' := of_decide_eq_true h28
          have key : cutD d s n = (d, 1) := by unfold cutD; rw [hk3, if_pos (.inr (by rw [← hf]; exact h28'))]
          rw [key]
          refine done_retE [FSA p d] (.tmp rfl .nil) ⟨rfl, rfl⟩ ?_
          refine Ent.trans (Split.ent' (K := [own 5 1 r.v r.f.bytes.length (bcs r.f.bytes), blk r.a 74 [.int .i64 (k : Nat), r.v, .int .i64 (r.f.safe : Nat)], holeA x.rs k, fsH p d x, mpe x.sb skv x.es x.cs, mpe x.fb skv x.ef x.cf, own 76 3 x.pv x.ps.length (x.ps.flatMap encP)]) (by repeat (first | exact Split.nil | (apply Split.cons; (repeat (first | with_reducible exact Take.here | apply Take.there)))))) ?_
          exact (recs_back' hr (real_of hd hf)).trans ((Split.ent' (K := [fsH p d x, mpe x.sb skv x.es x.cs, mpe x.fb skv x.ef x.cf, own 76 3 x.pv x.ps.length (x.ps.flatMap encP), recsA x.rs]) (by repeat (first | exact Split.nil | (apply Split.cons; (repeat (first | with_reducible exact Take.here | apply Take.there)))))).trans (fs_close hx))
        · skip   -- 28 F
          refine swp_skip ?_
          exact then_n ⟨⟨rfl, rfl, rfl, trivial⟩, Split.ent' (by repeat (first | exact Split.nil | (apply Split.cons; (repeat (first | with_reducible exact Take.here | apply Take.there))))), by have := of_decide_eq_false h20; omega, by have := of_decide_eq_false h28; omega⟩
    rintro env L ⟨hsub, hE, h1, h2⟩
    refine swp_sub _ hsub ?_
    refine swp_ent hE ?_
    clear hsub hE env L
    obtain ⟨m, rfl⟩ : ∃ m : Nat, n = (m : Int) := ⟨n.toNat, by omega⟩
    have h2' : m ≤ r.f.bytes.length := by omega
    have hv2 : r.v = .slice A r.f.bytes.length c := hv
    refine swp_seq ?_
    refine swp_region ?_
    refine s_pu (pu_move rfl) ?_
    refine s_pu (pu_func (vs := []) (us := [_, _]) rfl rfl) ?_
    refine s_ef (ef_fn (step_spec' (f := 77) (ca := [pv b7, pv b5]) (pre := [blk b7 67 [pv r.a], blk b5 3 [.int .i64 (m : Nat)], blk r.a 74 [.int .i64 (k : Nat), r.v, .int .i64 (r.f.safe : Nat)], own 5 1 r.v r.f.bytes.length (bcs r.f.bytes)]) p d.quota x.rs.length x.sb x.fb x.pv d.falls d.off hd.falls (by rw [hv2]; exact cut1_spec b7 b5 r.a k r.f.safe m r.f.bytes.length c A r.f.bytes rfl h2' hlc (by omega) hA)) rfl rfl (by repeat (first | exact Split.nil | (apply Split.cons; (repeat (first | with_reducible exact Take.here | apply Take.there)))))) ?_
    rintro v31 L1 hs
    skip
    refine s_pu (pu_assign rfl) ?_
    refine swl_sub _ (.cons (t := 6) rfl .nil) ?_
    refine swl_nil ?_
    refine then_n ?_
    refine swp_ret ?_
    rcases hs with ⟨hf1, rfl, rfl⟩ | ⟨hfn, rfl, L', ⟨v', rfl⟩, rfl⟩
    · have key : cutD d s (m : Int) = (fa0 d, 8) := by unfold cutD; rw [hk3, if_neg (by rw [← hf]; omega)]; exact atStep_1 hf1 _
      rw [key]
      refine done_retE [FSA p (fa0 d)] (.tmp rfl .nil) ⟨rfl, rfl⟩ ?_
      simp only [List.cons_append, List.nil_append]
      refine Ent.trans (Split.ent' (K := [own 5 1 r.v r.f.bytes.length (bcs r.f.bytes), blk r.a 74 [.int .i64 (k : Nat), r.v, .int .i64 (r.f.safe : Nat)], holeA x.rs k, fsH p (fa0 d) x, mpe x.sb skv x.es x.cs, mpe x.fb skv x.ef x.cf, own 76 3 x.pv x.ps.length (x.ps.flatMap encP)]) (by repeat (first | exact Split.nil | (apply Split.cons; (repeat (first | with_reducible exact Take.here | apply Take.there)))))) ?_
      refine (recs_back' hr (real_of hd hf)).trans ?_
      exact ((Split.ent' (K := [fsH p (fa0 d) x, mpe x.sb skv x.es x.cs, mpe x.fb skv x.ef x.cf, own 76 3 x.pv x.ps.length (x.ps.flatMap encP), recsA x.rs]) (by repeat (first | exact Split.nil | (apply Split.cons; (repeat (first | with_reducible exact Take.here | apply Take.there)))))).trans (fs_close (d := fa0 d) (hx.fa _ _)))
    · have key : cutD d s (m : Int) = ((fa1 d).setF k ⟨r.f.bytes.take m, min r.f.safe m⟩, 0) := by
        unfold cutD; rw [hk3, if_neg (by rw [← hf]; omega), atStep_n hfn]
        show ((fa1 d).setF k ⟨(d.fl k).bytes.take (m : Int).toNat, min (d.fl k).safe (m : Int).toNat⟩, _) = _
        rw [← hf, Int.toNat_natCast]
      rw [key]
      refine done_retE [FSA p ((fa1 d).setF k ⟨r.f.bytes.take m, min r.f.safe m⟩)] (.tmp rfl .nil) ⟨rfl, rfl⟩ ?_
      simp only [List.cons_append, List.nil_append]
      have hl2 : m = (r.f.bytes.take m).length := by rw [List.length_take, Nat.min_eq_left h2']
      refine Ent.trans (Split.ent' (K := [own 5 1 v' m (bcs (r.f.bytes.take m)), blk r.a 74 [.int .i64 (k : Nat), v', .int .i64 (min r.f.safe m : Nat)], holeA x.rs k, fsH p (fa1 d) x, mpe x.sb skv x.es x.cs, mpe x.fb skv x.ef x.cf, own 76 3 x.pv x.ps.length (x.ps.flatMap encP)]) (by repeat (first | exact Split.nil | (apply Split.cons; (repeat (first | with_reducible exact Take.here | apply Take.there)))))) ?_
      have := fs_set (p := p) (L := []) (hx.fa (fa1 d).falls d.off) hr (r' := ⟨r.a, v', ⟨r.f.bytes.take m, min r.f.safe m⟩⟩) rfl (by have := real_of hd hf; show min r.f.safe m ≤ (r.f.bytes.take m).length; rw [List.length_take]; omega)
      simp only [← hl2] at this
      exact this
end SX
namespace SX
open Go Go.Proofs
instance : MClone Try.prog 72 := ⟨_, Try.func72, by kernel_rfl, by kernel_rfl, by kernel_rfl, by kernel_rfl⟩
/-- maps.Clone -/
theorem mclone_spec (b : Nat) (es : Ents ByteArray) (cl : Nat) : Spec Try.prog 46 [.map (some b)] [mpe b skv es cl] (fun r L => ∃ b', r = .map (some b') ∧ L = [mpe b' skv es cl, mpe b skv es cl]) := by
  refine Spec.of 9 Try.func46 rfl rfl rfl ?_
  refine swp_seq ?_
  refine swp_region ?_
  refine s_pu (pu_assign rfl) ?_
  refine swl_sub _ (.cons (t := 0) rfl .nil) ?_
  refine swl_nil ?_
  refine then_n ?_
  refine swp_seq ?_
  refine swp_seq ?_
  refine swp_region ?_
  refine s_pu (pu_move rfl) ?_
  refine s_pu (pu_map_eq_nil rfl rfl) ?_
  refine swl_sub _ (.cons (t := 0) rfl (.cons (t := 4) rfl .nil)) ?_
  refine swl_nil ?_
  refine then_n ?_
  refine swp_cond (b := _) rfl (fun h4 => by cases h4) (fun h4 => ?_)
  refine swp_skip ?_
  refine then_n ?_
  refine swp_seq ?_
  refine swp_region ?_
  refine s_pu (pu_move rfl) ?_
  refine s_pu (pu_iface rfl) ?_
  refine s_ef (ef_mclone (κ := ByteArray) rfl rfl) ?_
  rintro b7
  skip
  refine s_pu (pu_typeAssert_map rfl) ?_
  refine s_pu (pu_assign rfl) ?_
  refine swl_sub _ (.cons (t := 2) rfl .nil) ?_
  refine swl_nil ?_
  refine then_n ?_
  refine swp_ret ?_
  exact done_ret [mpe b7 skv es cl, mpe b skv es cl] (.tmp rfl .nil) ⟨b7, rfl, rfl⟩ (by repeat (first | exact Split.nil | (apply Split.cons; (repeat (first | with_reducible exact Take.here | apply Take.there)))))
/-- SyncNames' step -/
theorem syncn1_spec (p d0 : Nat) (q : Int) (n sb fb : Nat) (w : Value) (fa : Int) (off : Bool) (es : Ents ByteArray) (cl : Nat) :
    Spec Try.prog 45 [pv d0] [blk p 59 (fsC q n sb fb w fa off), blk d0 25 [pv p], mpe sb skv es cl]
      (fun _ L => ∃ fb', L = [blk p 59 (fsC q n sb fb' (.slice none 0 0) fa off), mpe sb skv es cl, mpe fb' skv es cl]) := by
  refine Spec.of 12 Try.func45 rfl rfl rfl ?_
  refine swp_seq ?_
  refine swp_draw [0, 1, 4] ([blk p 59 (fsC q n sb fb w fa off), blk d0 25 [pv p]]) ([mpe sb skv es cl]) (Split.ent (by repeat (first | exact Split.nil | (apply Split.cons; (repeat (first | with_reducible exact Take.here | apply Take.there)))))) (by kernel_rfl) ?_
  refine d_rd 0 rfl (rd_load rfl rfl) rfl (by kernel_rfl) (by kernel_rfl) (by kernel_rfl) ?_
  refine d_rd 1 rfl (rd_load rfl rfl) rfl (by kernel_rfl) (by kernel_rfl) (by kernel_rfl) ?_
  first | refine d_pu 2 rfl (pu_nilCheck rfl) (by kernel_rfl) (by kernel_rfl) (by kernel_rfl) ?_ | refine d_pu 2 rfl (pu_nilCheck_fn rfl) (by kernel_rfl) (by kernel_rfl) (by kernel_rfl) ?_ | refine d_pu 2 rfl (pu_nilCheck_if rfl) (by kernel_rfl) (by kernel_rfl) (by kernel_rfl) ?_
  first | refine d_pu 3 rfl (pu_fieldAddr0 rfl) (by kernel_rfl) (by kernel_rfl) (by kernel_rfl) ?_ | refine d_pu 3 rfl (pu_fieldAddr rfl) (by kernel_rfl) (by kernel_rfl) (by kernel_rfl) ?_
  refine d_rd 4 rfl (rd_load rfl rfl) rfl (by kernel_rfl) (by kernel_rfl) (by kernel_rfl) ?_
  refine d_eft 5 rfl (by kernel_rfl) (ef_fn (mclone_spec sb es cl) rfl rfl (by repeat (first | exact Split.nil | (apply Split.cons; (repeat (first | with_reducible exact Take.here | apply Take.there)))))) ?_
  rintro v6 L1 ⟨b', rfl, rfl⟩
  refine ⟨_, ent_appC (Split.ent (by repeat (first | exact Split.nil | (apply Split.cons; (repeat (first | with_reducible exact Take.here | apply Take.there)))))), ?_⟩
  first | refine d_pu 6 rfl (pu_nilCheck rfl) (by kernel_rfl) (by kernel_rfl) (by kernel_rfl) ?_ | refine d_pu 6 rfl (pu_nilCheck_fn rfl) (by kernel_rfl) (by kernel_rfl) (by kernel_rfl) ?_ | refine d_pu 6 rfl (pu_nilCheck_if rfl) (by kernel_rfl) (by kernel_rfl) (by kernel_rfl) ?_
  first | refine d_pu 7 rfl (pu_fieldAddr0 rfl) (by kernel_rfl) (by kernel_rfl) (by kernel_rfl) ?_ | refine d_pu 7 rfl (pu_fieldAddr rfl) (by kernel_rfl) (by kernel_rfl) (by kernel_rfl) ?_
  first | refine d_fin0t 8 rfl (by kernel_rfl) (by kernel_rfl) (ef_store rfl rfl rfl) ?_ | refine d_fin0f 8 rfl (by kernel_rfl) (by kernel_rfl) (ef_store rfl rfl rfl) ?_
  refine d_sub _ (.cons (t := 0) rfl .nil) ?_
  first | refine d_nilt (by kernel_rfl) ?_ | refine d_nilf (by kernel_rfl) ?_
  refine then_n ?_
  refine swp_region ?_
  refine s_rd (rd_load rfl rfl) ?_
  first | refine s_pu (pu_nilCheck rfl) ?_ | refine s_pu (pu_nilCheck_fn rfl) ?_ | refine s_pu (pu_nilCheck_if rfl) ?_
  first | refine s_pu (pu_fieldAddr0 rfl) ?_ | refine s_pu (pu_fieldAddr rfl) ?_
  refine s_ef0 (ef_store rfl rfl rfl) ?_
  refine swl_sub _ .nil ?_
  refine swl_nil ?_
  exact done_end [blk p 59 (fsC q n sb b' (.slice none 0 0) fa off), mpe sb skv es cl, mpe b' skv es cl] .nil ⟨b', rfl⟩ (by repeat (first | exact Split.nil | (apply Split.cons; (repeat (first | with_reducible exact Take.here | apply Take.there)))))
theorem Rep.sync {d : Dk} {x : FX} (h : Rep d x) (fb' : Nat) : Rep { d with safe := d.seen, pend := [] } { x with fb := fb', ef := x.es, cf := x.cs, ps := [], pv := .slice none 0 0 } :=
  ⟨h.seen, h.seen, h.bs, h.bs, h.len, fun k hk => h.fl k (by
    rcases hk with hk | hk | ⟨c, hc, _⟩
    · exact .inl hk
    · exact .inl hk
    · cases hc), rfl, fun i p c hp => by cases hp⟩
set_option maxHeartbeats 4000000 in
theorem syncn_spec (p : Nat) (d : Dk) (hd : d.Ok) : Spec Try.prog 24 [pv p] [FSA p d] (fun r L => r = .int .i64 (syncNamesD d).2 ∧ L = [FSA p (syncNamesD d).1]) := by
  refine FSA.open' fun x hx => ?_
  obtain ⟨o, e, hve⟩ := find_ptr x.rs d nos
  have hfs := find_spec' (p := p) hx hve
  have hcs := find_cases hve
  have hno : findN d.seen nos = none := findN_none.2 fun x hx e => by have := hd.names x hx; rw [e, strEq_refl] at this; cases this
  refine Spec.of 16 Try.func24 rfl rfl rfl ?_
  refine swp_seq ?_
  refine swp_region ?_
  refine s_ef (ef_box rfl rfl) ?_
  intro b1
  refine s_pu (pu_assign rfl) ?_
  refine swl_sub _ (.cons (t := 1) rfl .nil) ?_
  refine swl_nil ?_
  refine then_n ?_
  refine swp_seq ?_
  refine swp_seq ?_
  refine swp_region ?_
  refine s_rd (rd_load rfl rfl) ?_
  refine s_ef (ef_fn hfs rfl rfl (by repeat (first | exact Split.nil | (apply Split.cons; (repeat (first | with_reducible exact Take.here | apply Take.there)))))) ?_
  rintro v7 L1 ⟨rfl, rfl⟩
  refine swl_app ?_
  refine s_pu (pu_move rfl) ?_
  first | refine s_pu (pu_extractL rfl) ?_ | refine s_pu (pu_extract rfl rfl) ?_
  first | refine s_pu (pu_extractL rfl) ?_ | refine s_pu (pu_extract rfl rfl) ?_
  refine s_pu (pu_assign rfl) ?_
  refine s_pu (pu_assign rfl) ?_
  refine swl_sub _ (.cons (t := 1) rfl (.cons (t := 4) rfl .nil)) ?_
  refine swl_nil ?_
  refine then_n ?_
  refine swp_seq ?_
  refine swp_region ?_
  refine s_pu (pu_move rfl) ?_
  refine s_pu (pu_neq rfl rfl) ?_
  refine swl_sub _ (.cons (t := 1) rfl (.cons (t := 4) rfl (.cons (t := 11) rfl .nil))) ?_
  refine swl_nil ?_
  refine then_n ?_
  refine swp_cond (b := _) rfl (fun h11 => ?_) (fun h11 => ?_)
  · skip   -- 11 T
    refine swp_seq ?_
    refine swp_region ?_
    refine s_pu (pu_move rfl) ?_
    refine s_pu (pu_assign rfl) ?_
    refine swl_sub _ (.cons (t := 2) rfl .nil) ?_
    refine swl_nil ?_
    refine then_n ?_
    refine swp_ret ?_
    refine then_r ?_
    have h11' : e ≠ 6 := by simpa using h11
    have h8 : e = 8 ∧ d.off = true := by
      rcases hcs with h | ⟨h, _⟩ | ⟨_, _, k, h, _⟩
      · exact h
      · exact absurd h h11'
      · rw [hno] at h; cases h
    have key : syncNamesD d = (d, 8) := by unfold syncNamesD; rw [if_pos h8.2]
    rw [key, h8.1]
    exact done_retE [FSA p d] (.tmp rfl .nil) ⟨rfl, rfl⟩ ((Split.ent' (K := [fsH p d x, mpe x.sb skv x.es x.cs, mpe x.fb skv x.ef x.cf, own 76 3 x.pv x.ps.length (x.ps.flatMap encP), recsA x.rs]) (by repeat (first | exact Split.nil | (apply Split.cons; (repeat (first | with_reducible exact Take.here | apply Take.there)))))).trans (fs_close hx))
  · skip   -- 11 F
    have h11' : e = 6 := by simpa using h11
    have hoff : d.off = false := by
      rcases hcs with ⟨h, _⟩ | ⟨_, h, _⟩ | ⟨h, _⟩
      · rw [h11'] at h; cases h
      · exact h
      · rw [h11'] at h; cases h
    refine swp_skip ?_
    refine then_n ?_
    refine swp_seq ?_
    refine swp_region ?_
    refine s_rd (rd_load rfl rfl) ?_
    refine s_pu (pu_func (vs := []) (us := [_]) rfl rfl) ?_
    refine s_ef (ef_fn (step_spec (f := 45) (ca := [pv b1]) (pre := [blk b1 25 [pv p], mpe x.sb skv x.es x.cs]) p d.quota x.rs.length x.sb x.fb x.pv d.falls d.off hd.falls (fun fa' => syncn1_spec p b1 d.quota x.rs.length x.sb x.fb x.pv fa' d.off x.es x.cs)) rfl rfl (by repeat (first | exact Split.nil | (apply Split.cons; (repeat (first | with_reducible exact Take.here | apply Take.there)))))) ?_
    rintro v15 L1 hs
    skip
    refine s_pu (pu_assign rfl) ?_
    refine swl_sub _ (.cons (t := 2) rfl .nil) ?_
    refine swl_nil ?_
    refine then_n ?_
    refine swp_ret ?_
    rcases hs with ⟨hf1, rfl, rfl⟩ | ⟨hfn, rfl, fb', rfl⟩
    · have key : syncNamesD d = (fa0 d, 8) := by unfold syncNamesD; rw [if_neg (by rw [hoff]; decide)]; exact atStep_1 hf1 _
      rw [key]
      refine done_retE [FSA p (fa0 d)] (.tmp rfl .nil) ⟨rfl, rfl⟩ ?_
      simp only [List.cons_append, List.nil_append]
      exact ((Split.ent' (K := [fsH p (fa0 d) x, mpe x.sb skv x.es x.cs, mpe x.fb skv x.ef x.cf, own 76 3 x.pv x.ps.length (x.ps.flatMap encP), recsA x.rs]) (by repeat (first | exact Split.nil | (apply Split.cons; (repeat (first | with_reducible exact Take.here | apply Take.there)))))).trans (fs_close (d := fa0 d) (hx.fa _ _)))
    · have key : syncNamesD d = (({ (fa1 d) with safe := d.seen, pend := [] } : Dk), 0) := by unfold syncNamesD; rw [if_neg (by rw [hoff]; decide)]; exact atStep_n hfn _
      rw [key]
      refine done_retE [FSA p ({ (fa1 d) with safe := d.seen, pend := [] } : Dk)] (.tmp rfl .nil) ⟨rfl, rfl⟩ ?_
      simp only [List.cons_append, List.nil_append]
      refine Ent.trans (own_nil_ent (e := 76) (n := 3)) ?_
      refine Ent.trans (Split.ent' (K := [blk p 59 (fsC d.quota x.rs.length x.sb fb' (.slice none 0 0) (if 0 < d.falls then d.falls - 1 else d.falls) d.off), mpe x.sb skv x.es x.cs, mpe fb' skv x.es x.cs, own 76 3 (.slice none 0 0) 0 [], recsA x.rs]) (by repeat (first | exact Split.nil | (apply Split.cons; (repeat (first | with_reducible exact Take.here | apply Take.there)))))) ?_
      exact fs_close (d := { (fa1 d) with safe := d.seen, pend := [] }) (x := { x with fb := fb', ef := x.es, cf := x.cs, ps := [], pv := .slice none 0 0 }) ((hx.fa (fa1 d).falls d.off).sync fb')
end SX
namespace SX
open Go Go.Proofs
theorem read_err {rs : List Rc} {d : Dk} {s : ByteArray} {v : Value} {e : Int} (h : findV rs d s = (v, e)) (he : e ≠ 0) : readD d s = ([], e) := by
  unfold readD
  rcases find_cases h with ⟨rfl, h1⟩ | ⟨rfl, h1, h2⟩ | ⟨h0, _⟩
  · rw [if_pos h1]
  · rw [if_neg (by rw [h1]; decide), h2]
  · exact absurd h0 he
set_option maxHeartbeats 4000000 in
theorem read_spec (p : Nat) (d : Dk) (hd : d.Ok) (s : ByteArray) : Spec Try.prog 21 [pv p, .string s] [FSA p d] (fun r L => r = .tuple #[.string ⟨(readD d s).1.toArray⟩, .int .i64 (readD d s).2] ∧ L = [FSA p d]) := by
  refine FSA.open' fun x hx => ?_
  obtain ⟨o, e, hve⟩ := find_ptr x.rs d s
  have hfs := find_spec' (p := p) hx hve
  refine Spec.of 22 Try.func21 rfl rfl rfl ?_
  refine swp_seq ?_
  refine swp_region ?_
  refine s_pu (pu_assign rfl) ?_
  refine s_pu (pu_assign rfl) ?_
  refine swl_sub _ (.cons (t := 0) rfl (.cons (t := 1) rfl .nil)) ?_
  refine swl_nil ?_
  refine then_n ?_
  refine swp_seq ?_
  refine swp_region ?_
  refine s_pu (pu_move rfl) ?_
  refine s_pu (pu_move rfl) ?_
  refine s_ef (ef_fn hfs rfl rfl (by repeat (first | exact Split.nil | (apply Split.cons; (repeat (first | with_reducible exact Take.here | apply Take.there)))))) ?_
  rintro v11 L1 ⟨rfl, rfl⟩
  refine swl_app ?_
  refine s_pu (pu_move rfl) ?_
  first | refine s_pu (pu_extractL rfl) ?_ | refine s_pu (pu_extract rfl rfl) ?_
  first | refine s_pu (pu_extractL rfl) ?_ | refine s_pu (pu_extract rfl rfl) ?_
  refine s_pu (pu_assign rfl) ?_
  refine s_pu (pu_assign rfl) ?_
  refine swl_sub _ (.cons (t := 6) rfl (.cons (t := 7) rfl .nil)) ?_
  refine swl_nil ?_
  refine then_n ?_
  refine swp_seq ?_
  refine swp_seq ?_
  refine swp_region ?_
  refine s_pu (pu_move rfl) ?_
  refine s_pu (pu_neq rfl rfl) ?_
  refine swl_sub _ (.cons (t := 6) rfl (.cons (t := 7) rfl (.cons (t := 15) rfl .nil))) ?_
  refine swl_nil ?_
  refine then_n ?_
  refine swp_cond (b := _) rfl (fun h15 => ?_) (fun h15 => ?_)
  · skip   -- 15 T
    refine swp_seq ?_
    refine swp_region ?_
    refine s_pu (pu_move rfl) ?_
    refine s_pu (pu_assign rfl) ?_
    refine s_pu (pu_assign rfl) ?_
    refine swl_sub _ (.cons (t := 4) rfl (.cons (t := 5) rfl .nil)) ?_
    refine swl_nil ?_
    refine then_n ?_
    refine swp_ret ?_
    refine then_r ?_
    have h15' : e ≠ 0 := by simpa using h15
    rw [read_err hve h15']
    exact done_retE [FSA p d] (.tmp rfl (.tmp rfl .nil)) ⟨rfl, rfl⟩ ((Split.ent' (K := [fsH p d x, mpe x.sb skv x.es x.cs, mpe x.fb skv x.ef x.cf, own 76 3 x.pv x.ps.length (x.ps.flatMap encP), recsA x.rs]) (by repeat (first | exact Split.nil | (apply Split.cons; (repeat (first | with_reducible exact Take.here | apply Take.there)))))).trans (fs_close hx))
  · skip   -- 15 F
    have h15' : e = 0 := by simpa using h15
    subst h15'
    have hk3 : ∃ k, findN d.seen s = some k ∧ .pointer o = adr x.rs k ∧ readD d s = ((d.fl k).bytes, 0) := by
      rcases find_cases hve with ⟨h0, _⟩ | ⟨h0, _⟩ | ⟨_, h1, k, h2, h3⟩
      · cases h0
      · cases h0
      · refine ⟨k, h2, h3, ?_⟩
        unfold readD
        rw [if_neg (by rw [h1]; decide), h2]
    obtain ⟨k, hk1, hk2, hk3⟩ := hk3
    obtain ⟨r, hr, hf, ha⟩ := hx.find hk1
    rw [ha] at hk2
    rw [hk2]
    refine swp_ent (Split.ent' (K := [recsA x.rs, fsH p d x, mpe x.sb skv x.es x.cs, mpe x.fb skv x.ef x.cf, own 76 3 x.pv x.ps.length (x.ps.flatMap encP)]) (by repeat (first | exact Split.nil | (apply Split.cons; (repeat (first | with_reducible exact Take.here | apply Take.there)))))) ?_
    refine swp_ent (recs_open' hr (real_of hd hf)) ?_
    refine swp_skip ?_
    refine then_n ?_
    refine swp_seq ?_
    refine swp_region ?_
    refine s_pu (pu_move rfl) ?_
    first | refine s_pu (pu_nilCheck rfl) ?_ | refine s_pu (pu_nilCheck_fn rfl) ?_ | refine s_pu (pu_nilCheck_if rfl) ?_
    first | refine s_pu (pu_fieldAddr0 rfl) ?_ | refine s_pu (pu_fieldAddr rfl) ?_
    refine s_rd (rd_load rfl rfl) ?_
    refine s_rd (rd_bytes_own r.f.bytes rfl (by repeat (first | with_reducible exact Take.here | apply Take.there))) ?_
    refine s_pu (pu_assign rfl) ?_
    refine s_pu (pu_assign rfl) ?_
    refine swl_sub _ (.cons (t := 4) rfl (.cons (t := 5) rfl .nil)) ?_
    refine swl_nil ?_
    refine then_n ?_
    refine swp_ret ?_
    rw [hk3, ← hf]
    refine done_retE [FSA p d] (.tmp rfl (.tmp rfl .nil)) ⟨rfl, rfl⟩ ?_
    refine Ent.trans (Split.ent' (K := [own 5 1 r.v r.f.bytes.length (bcs r.f.bytes), blk r.a 74 [.int .i64 (k : Nat), r.v, .int .i64 (r.f.safe : Nat)], holeA x.rs k, fsH p d x, mpe x.sb skv x.es x.cs, mpe x.fb skv x.ef x.cf, own 76 3 x.pv x.ps.length (x.ps.flatMap encP)]) (by repeat (first | exact Split.nil | (apply Split.cons; (repeat (first | with_reducible exact Take.here | apply Take.there)))))) ?_
    exact (recs_back' hr (real_of hd hf)).trans ((Split.ent' (K := [fsH p d x, mpe x.sb skv x.es x.cs, mpe x.fb skv x.ef x.cf, own 76 3 x.pv x.ps.length (x.ps.flatMap encP), recsA x.rs]) (by repeat (first | exact Split.nil | (apply Split.cons; (repeat (first | with_reducible exact Take.here | apply Take.there)))))).trans (fs_close hx))
theorem newD_rep (q : Int) (sb fb : Nat) : Rep (newD q) ⟨sb, fb, [], 0, [], 0, [], [], .slice none 0 0⟩ :=
  ⟨.nil _, .nil _, .nil _, .nil _, rfl, (fun k hk => by
    rcases hk with ⟨⟨y, hy, _⟩⟩ | ⟨⟨y, hy, _⟩⟩ | ⟨c, hc, _⟩
    · cases hy
    · cases hy
    · cases hc), rfl, fun i p c hp => by cases hp⟩
def newOk (q : Int) : Prop := 0 ≤ q ∧ q ≤ 16777216
theorem new_spec (q : Int) : Spec Try.prog 6 [.int .i64 q] [] (fun r L => (¬ newOk q ∧ r = .tuple #[.pointer none, .int .i64 1] ∧ L = []) ∨ (newOk q ∧ ∃ p, r = .tuple #[pv p, .int .i64 0] ∧ L = [FSA p (newD q)])) := by
  refine Spec.of 15 Try.func6 rfl rfl rfl ?_
  refine swp_seq ?_
  refine swp_region ?_
  refine s_pu (pu_assign rfl) ?_
  refine s_pu (pu_assign rfl) ?_
  refine swl_sub _ (.cons (t := 0) rfl .nil) ?_
  refine swl_nil ?_
  refine then_n ?_
  refine swp_seq ?_
  refine swp_seq ?_
  refine swp_region ?_
  refine s_pu (pu_move rfl) ?_
  refine s_pu (pu_lss rfl rfl) ?_
  refine s_pu (pu_move rfl) ?_
  refine s_split 6 rfl (fun h6 => ?_) (fun h6 => ?_)
  · skip   -- 6 T
    refine s_off rfl rfl rfl ?_
    refine s_off rfl rfl rfl ?_
    first | refine s_pu (pu_pick_t rfl rfl) ?_ | refine s_pu (pu_pick_f rfl rfl) ?_
    refine swl_sub _ (.cons (t := 0) rfl (.cons (t := 9) rfl .nil)) ?_
    refine swl_nil ?_
    refine then_n ?_
    refine swp_cond (b := _) rfl (fun h9 => ?_) (fun h9 => by cases h9)
    refine swp_seq ?_
    refine swp_region ?_
    refine s_pu (pu_assign rfl) ?_
    refine s_pu (pu_assign rfl) ?_
    refine swl_sub _ (.cons (t := 2) rfl (.cons (t := 3) rfl .nil)) ?_
    refine swl_nil ?_
    refine then_n ?_
    refine swp_ret ?_
    refine then_r ?_
    exact done_ret [] (.tmp rfl (.tmp rfl .nil)) (.inl ⟨fun h => by have := of_decide_eq_true h6; have := h.1; omega, rfl, rfl⟩) (by repeat (first | exact Split.nil | (apply Split.cons; (repeat (first | with_reducible exact Take.here | apply Take.there)))))
  · skip   -- 6 F
    refine s_on rfl rfl ?_
    refine s_pu (pu_move rfl) ?_
    refine s_on rfl rfl ?_
    refine s_pu (pu_gtr rfl rfl) ?_
    first | refine s_pu (pu_pick_t rfl rfl) ?_ | refine s_pu (pu_pick_f rfl rfl) ?_
    refine swl_sub _ (.cons (t := 0) rfl (.cons (t := 9) rfl .nil)) ?_
    refine swl_nil ?_
    refine then_n ?_
    refine swp_cond (b := _) rfl (fun h9 => ?_) (fun h9 => ?_)
    · skip   -- 9 T
      refine swp_seq ?_
      refine swp_region ?_
      refine s_pu (pu_assign rfl) ?_
      refine s_pu (pu_assign rfl) ?_
      refine swl_sub _ (.cons (t := 2) rfl (.cons (t := 3) rfl .nil)) ?_
      refine swl_nil ?_
      refine then_n ?_
      refine swp_ret ?_
      refine then_r ?_
      exact done_ret [] (.tmp rfl (.tmp rfl .nil)) (.inl ⟨fun h => by have := of_decide_eq_true h9; have := h.2; omega, rfl, rfl⟩) (by repeat (first | exact Split.nil | (apply Split.cons; (repeat (first | with_reducible exact Take.here | apply Take.there)))))
    · skip   -- 9 F
      refine swp_skip ?_
      refine then_n ?_
      refine swp_seq ?_
      refine swp_region ?_
      refine s_pu (pu_move rfl) ?_
      refine s_ef (ef_makeMap (kv := skv)) ?_
      intro b11
      refine s_ef (ef_makeMap (kv := skv)) ?_
      intro b12
      refine s_pu (pu_bld (qs := [(0, _), (2, _), (3, _)]) rfl) ?_
      refine s_ef (ef_box rfl rfl) ?_
      intro b14
      refine s_pu (pu_assign rfl) ?_
      refine s_pu (pu_assign rfl) ?_
      refine swl_sub _ (.cons (t := 2) rfl (.cons (t := 3) rfl .nil)) ?_
      refine swl_nil ?_
      refine then_n ?_
      refine swp_ret ?_
      refine done_retE [FSA b14 (newD q)] (.tmp rfl (.tmp rfl .nil)) (.inr ⟨⟨by have := of_decide_eq_false h6; omega, by have := of_decide_eq_false h9; omega⟩, b14, rfl, rfl⟩) ?_
      refine Ent.trans (own_nil_ent (e := 76) (n := 3)) ?_
      have e1 : Ent [] [recsA []] := star_close (K := []) (L := [])
      exact Ent.trans (Split.ent' (K := [blk b14 59 [.int .i64 q, .int .i64 0, .map (some b11), .map (some b12), .slice none 0 0, .int .i64 0, .bool false], mpe b11 skv [] 0, mpe b12 skv [] 0, own 76 3 (.slice none 0 0) 0 []]) (by repeat (first | exact Split.nil | (apply Split.cons; (repeat (first | with_reducible exact Take.here | apply Take.there)))))) ((Ent.under (X := [blk b14 59 [.int .i64 q, .int .i64 0, .map (some b11), .map (some b12), .slice none 0 0, .int .i64 0, .bool false], mpe b11 skv [] 0, mpe b12 skv [] 0, own 76 3 (.slice none 0 0) 0 []]) e1).trans (fs_close (newD_rep q b11 b12)))
end SX
namespace SX
open Go Go.Proofs
def brk (k : Nat) (W : Assn) : Nat → Assn := fun i => if i = k then W else (fun _ => False : Assn)
theorem brk_hit (k : Nat) (W : Assn) : brk k W k = W := if_pos rfl
theorem brk_miss {k i : Nat} (W : Assn) (h : ¬ i = k) {m : PH} (hm : brk k W i m) : False := by
  have e : brk k W i = (fun _ => False : Assn) := if_neg h
  rw [e] at hm; exact hm
abbrev logN : ByteArray := ⟨#[108, 111, 103]⟩
/-- the rest of the log is cut off -/
def cutRest (d : Dk) (n len : Nat) : Dk × Int := if n = len then (d, 0) else cutD d logN (n : Nat)
def settleD (d : Dk) (n len : Nat) : Dk × Int :=
  if (cutRest d n len).2 ≠ 0 then cutRest d n len else
  if (syncD (cutRest d n len).1 logN).2 ≠ 0 then syncD (cutRest d n len).1 logN else syncNamesD (syncD (cutRest d n len).1 logN).1
abbrev recL (q b5 b3 b2 p : Nat) (W : SW) (d : Dk) (n : Nat) (s : List UInt8) : List Assn := [FSA q d, blk b5 3 [.int .i64 (n : Nat)], blk b3 9 [.string (str s)], blk b2 29 [pv p], stH p W]
theorem rec1_spec (b5 b3 b2 p : Nat) (W : SW) (d : Dk) (hd : d.Ok) (n : Nat) (s : List UInt8) : Spec Try.prog 50 [pv b5, pv b3, pv b2] (recL W.q b5 b3 b2 p W d n s) (fun r L => r = .int .i64 (cutRest d n s.length).2 ∧ L = recL W.q b5 b3 b2 p W (cutRest d n s.length).1 n s) := by
  refine Spec.of 14 Try.func50 rfl rfl rfl ?_
  refine swp_seq ?_
  refine swp_region ?_
  refine s_pu (pu_assign rfl) ?_
  refine swl_sub _ (.cons (t := 0) rfl (.cons (t := 1) rfl (.cons (t := 2) rfl .nil))) ?_
  refine swl_nil ?_
  refine then_n ?_
  refine swp_seq ?_
  refine swp_seq ?_
  refine swp_region ?_
  refine s_rd (rd_load rfl rfl) ?_
  refine s_rd (rd_load rfl rfl) ?_
  refine s_pu (pu_strln rfl) ?_
  refine s_pu (pu_eql rfl rfl) ?_
  refine swl_sub _ (.cons (t := 0) rfl (.cons (t := 2) rfl (.cons (t := 7) rfl .nil))) ?_
  refine swl_nil ?_
  refine then_n ?_
  refine swp_cond (b := _) rfl (fun h7 => ?_) (fun h7 => ?_)
  · skip   -- 7 T
    refine swp_seq ?_
    refine swp_region ?_
    refine s_pu (pu_assign rfl) ?_
    refine swl_sub _ (.cons (t := 3) rfl .nil) ?_
    refine swl_nil ?_
    refine then_n ?_
    refine swp_ret ?_
    refine then_r ?_
    have h7' : n = s.length := by have := of_decide_eq_true h7; omega
    have e : cutRest d n s.length = (d, 0) := by unfold cutRest; rw [if_pos h7']
    rw [e]
    exact done_ret (recL W.q b5 b3 b2 p W d n s) (.tmp rfl .nil) ⟨rfl, rfl⟩ (by repeat (first | exact Split.nil | (apply Split.cons; (repeat (first | with_reducible exact Take.here | apply Take.there)))))
  · skip   -- 7 F
    have h7' : ¬ n = s.length := fun e => (of_decide_eq_false h7) (by omega)
    have e : cutRest d n s.length = cutD d logN (n : Nat) := by unfold cutRest; rw [if_neg h7']
    rw [e]
    refine swp_skip ?_
    refine then_n ?_
    refine swp_seq ?_
    refine swp_draw [0, 3, 4] _ [] (by simp only [List.append_nil]; exact Ent.refl _) (by kernel_rfl) ?_
    refine d_rd 0 rfl (rd_load rfl rfl) rfl (by kernel_rfl) (by kernel_rfl) (by kernel_rfl) ?_
    first | refine d_pu 1 rfl (pu_nilCheck rfl) (by kernel_rfl) (by kernel_rfl) (by kernel_rfl) ?_ | refine d_pu 1 rfl (pu_nilCheck_fn rfl) (by kernel_rfl) (by kernel_rfl) (by kernel_rfl) ?_ | refine d_pu 1 rfl (pu_nilCheck_if rfl) (by kernel_rfl) (by kernel_rfl) (by kernel_rfl) ?_
    first | refine d_pu 2 rfl (pu_fieldAddr0 rfl) (by kernel_rfl) (by kernel_rfl) (by kernel_rfl) ?_ | refine d_pu 2 rfl (pu_fieldAddr rfl) (by kernel_rfl) (by kernel_rfl) (by kernel_rfl) ?_
    refine d_rd 3 rfl (rd_load rfl rfl) rfl (by kernel_rfl) (by kernel_rfl) (by kernel_rfl) ?_
    refine d_rd 4 rfl (rd_load rfl rfl) rfl (by kernel_rfl) (by kernel_rfl) (by kernel_rfl) ?_
    first | refine d_fint 5 rfl (by kernel_rfl) (by kernel_rfl) (ef_fn (cut_spec W.q d hd logN (n : Nat)) rfl rfl (by repeat (first | exact Split.nil | (apply Split.cons; (repeat (first | with_reducible exact Take.here | apply Take.there)))))) ?_ | refine d_finf 5 rfl (by kernel_rfl) (by kernel_rfl) (ef_fn (cut_spec W.q d hd logN (n : Nat)) rfl rfl (by repeat (first | exact Split.nil | (apply Split.cons; (repeat (first | with_reducible exact Take.here | apply Take.there)))))) ?_
    rintro v13 L1 ⟨rfl, rfl⟩
    refine swd_app ?_
    refine d_pu 6 rfl (pu_assign rfl) (by kernel_rfl) (by kernel_rfl) (by kernel_rfl) ?_
    refine d_sub _ (.cons (t := 3) rfl .nil) ?_
    first | refine d_nilt (by kernel_rfl) ?_ | refine d_nilf (by kernel_rfl) ?_
    refine then_n ?_
    refine swp_ret ?_
    exact done_ret (recL W.q b5 b3 b2 p W (cutD d logN (n : Nat)).1 n s) (.tmp rfl .nil) ⟨rfl, rfl⟩ (by repeat (first | exact Split.nil | (apply Split.cons; (repeat (first | with_reducible exact Take.here | apply Take.there)))))
theorem rec2_spec (b5 b3 b2 p : Nat) (W : SW) (d : Dk) (hd : d.Ok) (n : Nat) (s : List UInt8) : Spec Try.prog 52 [pv b2] (recL W.q b5 b3 b2 p W d n s) (fun r L => r = .int .i64 (syncD d logN).2 ∧ L = recL W.q b5 b3 b2 p W (syncD d logN).1 n s) := by
  refine Spec.of 7 Try.func52 rfl rfl rfl ?_
  refine swp_seq ?_
  refine swp_region ?_
  refine s_pu (pu_assign rfl) ?_
  refine swl_sub _ (.cons (t := 0) rfl .nil) ?_
  refine swl_nil ?_
  refine then_n ?_
  refine swp_seq ?_
  refine swp_region ?_
  refine s_rd (rd_load rfl rfl) ?_
  first | refine s_pu (pu_nilCheck rfl) ?_ | refine s_pu (pu_nilCheck_fn rfl) ?_ | refine s_pu (pu_nilCheck_if rfl) ?_
  first | refine s_pu (pu_fieldAddr0 rfl) ?_ | refine s_pu (pu_fieldAddr rfl) ?_
  refine s_rd (rd_load rfl rfl) ?_
  refine s_ef (ef_fn (sync_spec W.q d hd logN) rfl rfl (by repeat (first | exact Split.nil | (apply Split.cons; (repeat (first | with_reducible exact Take.here | apply Take.there)))))) ?_
  rintro v6 L1 ⟨rfl, rfl⟩
  refine swl_app ?_
  refine s_pu (pu_assign rfl) ?_
  refine swl_sub _ (.cons (t := 1) rfl .nil) ?_
  refine swl_nil ?_
  refine then_n ?_
  refine swp_ret ?_
  exact done_ret (recL W.q b5 b3 b2 p W (syncD d logN).1 n s) (.tmp rfl .nil) ⟨rfl, rfl⟩ (by repeat (first | exact Split.nil | (apply Split.cons; (repeat (first | with_reducible exact Take.here | apply Take.there)))))
theorem rec3_spec (b5 b3 b2 p : Nat) (W : SW) (d : Dk) (hd : d.Ok) (n : Nat) (s : List UInt8) : Spec Try.prog 24 [pv W.q] (recL W.q b5 b3 b2 p W d n s) (fun r L => r = .int .i64 (syncNamesD d).2 ∧ L = recL W.q b5 b3 b2 p W (syncNamesD d).1 n s) :=
  Spec.mono (Spec.fr (syncn_spec W.q d hd) [blk b5 3 [.int .i64 (n : Nat)], blk b3 9 [.string (str s)], blk b2 29 [pv p], stH p W]) (by rintro r L ⟨L', ⟨rfl, rfl⟩, rfl⟩; exact ⟨rfl, rfl⟩)
theorem settle_steps (b5 b3 b2 p : Nat) (W : SW) (d : Dk) (hd : d.Ok) (n : Nat) (s : List UInt8) :
    StepsF [.func (.func 50) #[] #[pv b5, pv b3, pv b2], .func (.func 52) #[] #[pv b2], .func (.func 24) #[pv W.q] #[]] (recL W.q b5 b3 b2 p W d n s) (fun e L => e = (settleD d n s.length).2 ∧ L = recL W.q b5 b3 b2 p W (settleD d n s.length).1 n s) := by
  have hd1 : (cutRest d n s.length).1.Ok := by unfold cutRest; split; exact hd; exact cutD_ok hd _ _
  refine ⟨50, inferInstance, [], [pv b5, pv b3, pv b2], rfl, Spec.mono (rec1_spec b5 b3 b2 p W d hd n s) ?_⟩
  rintro r L ⟨rfl, rfl⟩
  refine ⟨_, rfl, ?_⟩
  by_cases h1 : (cutRest d n s.length).2 = 0
  · refine .inl ⟨h1, 52, inferInstance, [], [pv b2], rfl, Spec.mono (rec2_spec b5 b3 b2 p W _ hd1 n s) ?_⟩
    rintro r L ⟨rfl, rfl⟩
    refine ⟨_, rfl, ?_⟩
    by_cases h2 : (syncD (cutRest d n s.length).1 logN).2 = 0
    · refine .inl ⟨h2, 24, inferInstance, [pv W.q], [], rfl, Spec.mono (rec3_spec b5 b3 b2 p W _ (syncD_ok hd1 _) n s) ?_⟩
      rintro r L ⟨rfl, rfl⟩
      have e : settleD d n s.length = syncNamesD (syncD (cutRest d n s.length).1 logN).1 := by unfold settleD; rw [if_neg (not_not_intro h1), if_neg (not_not_intro h2)]
      refine ⟨_, rfl, ?_⟩
      by_cases h3 : (syncNamesD (syncD (cutRest d n s.length).1 logN).1).2 = 0
      · exact .inl ⟨h3, by rw [e]; exact ⟨h3.symm, rfl⟩⟩
      · exact .inr ⟨h3, by rw [e]; exact ⟨rfl, rfl⟩⟩
    · have e : settleD d n s.length = syncD (cutRest d n s.length).1 logN := by unfold settleD; rw [if_neg (not_not_intro h1), if_pos h2]
      exact .inr ⟨h2, by rw [e]; exact ⟨rfl, rfl⟩⟩
  · have e : settleD d n s.length = cutRest d n s.length := by unfold settleD; rw [if_pos h1]
    exact .inr ⟨h1, by rw [e]; exact ⟨rfl, rfl⟩⟩
/-- the store while its log is read -/
abbrev RecX (μ : PH) (W : SW) (l : List Fm) : Type := {x : SW × PH // Le μ x.2 ∧ x.1.Ok x.2 ∧ x.1.q = W.q ∧ x.1.dead = W.dead ∧ stands W.pl l = some x.1.pl}
abbrev recK (q b5 b3 b2 p : Nat) (d : Dk) (s : List UInt8) (n : Nat) (x : SW × PH) : List Assn := recL q b5 b3 b2 p x.1 d n s ++ [ttA x.1, ccA x.1, ro x.2]
def recC (μ : PH) (W : SW) (b5 b3 b2 p : Nat) (d : Dk) (s : List UInt8) (l : List Fm) : Assn := exA fun x : RecX μ W l => recK W.q b5 b3 b2 p d s (sizeF l) x.1
abbrev FinX (μ : PH) (W : SW) (l : List Fm) : Type := {x : SW × PH // Le μ x.2 ∧ x.1.Ok x.2 ∧ x.1.q = W.q ∧ x.1.dead = W.dead ∧ x.1.pl = (runS W.pl l).1}
def recF (μ : PH) (W : SW) (b5 b3 b2 p : Nat) (d : Dk) (s : List UInt8) : Assn := exA fun x : FinX μ W (scan s) => recK W.q b5 b3 b2 p d s (runS W.pl (scan s)).2 x.1
theorem StandQ.two {μ μ' : PH} {W W' : SW} {f : Fm} {r : Value} (h : StandQ μ W f r W' μ') : ∃ b : Bool, r = .bool b ∧ (b = false → stand1 W.pl f = none ∧ W'.pl = W.pl) ∧ (b = true → stand1 W.pl f = some W'.pl) := by
  obtain ⟨_, _, _, _, h⟩ := h
  rcases h with ⟨h1, h2, h3⟩ | ⟨s, h1, h2, h3⟩
  · exact ⟨false, h2, fun _ => ⟨h1, h3⟩, fun k => (by cases k)⟩
  · exact ⟨true, h2, fun k => (by cases k), fun _ => by rw [h3]; exact h1⟩
set_option maxHeartbeats 4000000 in
theorem recover_spec (μ : PH) (p : Nat) (W : SW) (hW : W.Ok μ) (d : Dk) (hd : d.Ok) (s : List UInt8) (hs : s.length ≤ 1073741824) : Spec Try.prog 25 [pv p, .string (str s)] [FSA W.q d, stH p W, ttA W, ccA W, ro μ]
    (fun r L => ∃ W' μ', Le μ μ' ∧ W'.Ok μ' ∧ W'.q = W.q ∧ W'.dead = W.dead ∧ W'.pl = (runS W.pl (scan s)).1 ∧ r = .int .i64 (settleD d (runS W.pl (scan s)).2 s.length).2 ∧ L = [FSA W.q (settleD d (runS W.pl (scan s)).2 s.length).1, stH p W', ttA W', ccA W', ro μ']) := by
  refine Spec.of 29 Try.func25 rfl rfl rfl ?_
  refine swp_seq ?_
  refine swp_region ?_
  refine s_ef (ef_box rfl rfl) ?_
  intro b2
  refine s_ef (ef_box rfl rfl) ?_
  intro b3
  refine s_pu (pu_assign rfl) ?_
  refine swl_sub _ (.cons (t := 2) rfl (.cons (t := 3) rfl .nil)) ?_
  refine swl_nil ?_
  refine then_n ?_
  refine swp_seq ?_
  refine swp_region ?_
  refine s_ef (ef_alloc) ?_
  intro b5
  refine s_ef0 (ef_store rfl rfl rfl) ?_
  refine swl_sub _ (.cons (t := 2) rfl (.cons (t := 3) rfl (.cons (t := 5) rfl .nil))) ?_
  refine swl_nil ?_
  refine then_n ?_
  refine swp_cut (fun env L => Sub env [(2, pv b2), (3, pv b3), (5, pv b5)] ∧ Ent L [recF μ W b5 b3 b2 p d s]) ?_ ?_
  · skip
    refine swp_seq ?_
    refine swp_region ?_
    refine s_rd (rd_load rfl rfl) ?_
    refine s_ef (ef_fn (each_spec s) rfl rfl (by repeat (first | exact Split.nil | (apply Split.cons; (repeat (first | with_reducible exact Take.here | apply Take.there)))))) ?_
    rintro v9 L1 ⟨be, rfl, rfl⟩
    refine swl_app ?_
    refine swl_sub _ (.cons (t := 2) rfl (.cons (t := 3) rfl (.cons (t := 5) rfl (.cons (t := 9) rfl .nil)))) ?_
    refine swl_nil ?_
    refine then_n ?_
    refine swp_block ?_
    refine swp_rangeK (each_iter be s hs) (B := recK W.q b5 b3 b2 p d s 0 (W, μ)) (fun pre => recC μ W b5 b3 b2 p d s (pre.map (·.2))) (fun _ => False) (brk 0 (recF μ W b5 b3 b2 p d s)) rfl rfl (fun _ => rfl) ((Split.ent (K := [blk be 9 [.string (str s)], FSA W.q d, blk b5 3 [.int .i64 0], blk b3 9 [.string (str s)], blk b2 29 [pv p], stH p W, ttA W, ccA W, ro μ]) (by repeat (first | exact Split.nil | (apply Split.cons; (repeat (first | with_reducible exact Take.here | apply Take.there)))))).trans (by rw [List.append_nil]; exact Ent.refl _)) (ent_ex1 (F := fun x : RecX μ W [] => recK W.q b5 b3 b2 p d s 0 x.1) ⟨(W, μ), Le.refl _, hW, rfl, rfl, rfl⟩) ?_ ?_ ?_ ?_
    · skip
      rintro ln pre x ⟨⟨post, hpost⟩, hx1, hx2, hx3⟩
      refine swp_ex fun ⟨⟨W1, μ1⟩, h1, h2, h3, h4, h5⟩ => ?_
      refine swp_app ?_
      dsimp only at h1 h2 h3 h4 h5 ⊢
      simp only [recK, recL, List.cons_append, List.nil_append]
      refine swp_seq ?_
      refine swp_region ?_
      refine s_pu (pu_assign rfl) ?_
      refine swl_sub _ (.cons (t := 2) rfl (.cons (t := 5) rfl (.cons (t := 6) rfl (.cons (t := 11) rfl .nil)))) ?_
      refine swl_nil ?_
      refine then_n ?_
      refine swp_region ?_
      refine s_ef (ef_alloc) ?_
      intro b7
      refine s_ef0 (ef_storeA rfl rfl rfl rfl) ?_
      refine swl_sub _ (.cons (t := 2) rfl (.cons (t := 5) rfl (.cons (t := 6) rfl (.cons (t := 7) rfl .nil)))) ?_
      refine swl_nil ?_
      refine then_n ?_
      refine swp_block ?_
      refine swp_seq ?_
      refine swp_seq ?_
      refine swp_region ?_
      refine s_rd (rd_load rfl rfl) ?_
      first | refine s_rd (rd_loadW rfl rfl) ?_ | refine s_rd (rd_loadX rfl rfl rfl) ?_
      refine s_ef (ef_fn (stand_spec μ1 p W1 h2 x.2 (by omega)) rfl rfl (by repeat (first | exact Split.nil | (apply Split.cons; (repeat (first | with_reducible exact Take.here | apply Take.there)))))) ?_
      rintro v14 L1 ⟨W2, μ2, hst, rfl⟩
      obtain ⟨bv, rfl, hb1, hb2⟩ := hst.two
      obtain ⟨g1, g2, g3, g4, _⟩ := hst
      refine swl_app ?_
      refine s_pu (pu_not rfl) ?_
      refine swl_sub _ (.cons (t := 5) rfl (.cons (t := 6) rfl (.cons (t := 7) rfl (.cons (t := 15) rfl .nil)))) ?_
      refine swl_nil ?_
      refine then_n ?_
      refine swp_cond (b := _) rfl (fun h15 => ?_) (fun h15 => ?_)
      · skip   -- 15 T
        refine swp_exit ?_
        refine then_x ?_
        refine block_miss rfl ?_
        refine rnd_x ?_
        have hbv : bv = false := by simpa using h15
        obtain ⟨k1, k2⟩ := hb1 hbv
        have hrun : runS W.pl (scan s) = (W1.pl, sizeF (pre.map (·.2))) := by rw [hpost]; exact runS_stop h5 k1
        rw [brk_hit]
        refine (Split.ent' (K := [FSA W.q d, blk b5 3 [.int .i64 (sizeF (pre.map (·.2)) : Nat)], blk b3 9 [.string (str s)], blk b2 29 [pv p], stH p W2, ttA W2, ccA W2, ro μ2]) (by repeat (first | exact Split.nil | (apply Split.cons; (repeat (first | with_reducible exact Take.here | apply Take.there)))))).trans ?_
        have e2 : sizeF (pre.map (·.2)) = (runS W.pl (scan s)).2 := by rw [hrun]
        rw [e2]
        exact ent_ex1 (F := fun x : FinX μ W (scan s) => recK W.q b5 b3 b2 p d s (runS W.pl (scan s)).2 x.1) ⟨(W2, μ2), h1.trans g1, g2, g3.trans h3, g4.trans h4, by rw [hrun]; exact k2⟩
      · skip   -- 15 F
        refine swp_skip ?_
        refine then_n ?_
        refine swp_region ?_
        refine s_pu (pu_move rfl) ?_
        first | refine s_rd (rd_loadW rfl rfl) ?_ | refine s_rd (rd_loadX rfl rfl rfl) ?_
        have hsz : x.1 + (x.2.2.length + 9) = sizeF ((pre ++ [x]).map (·.2)) := by
          rw [List.map_append, sizeF_app, ← hx1]
          show _ = x.1 + (x.2.2.length + 9 + 0)
          omega
        refine s_ef (ef_fn (fsize_spec x.2 hx2) rfl rfl (by repeat (first | exact Split.nil | (apply Split.cons; (repeat (first | with_reducible exact Take.here | apply Take.there)))))) ?_
        rintro v18 L2 ⟨rfl, rfl⟩
        refine swl_app ?_
        refine s_pu (pu_add_as ((sizeF ((pre ++ [x]).map (·.2)) : Nat) : Int) rfl rfl (by omega) (by omega) (by omega)) ?_
        refine s_ef0 (ef_store rfl rfl rfl) ?_
        refine swl_sub _ .nil ?_
        refine swl_nil ?_
        refine block_n ?_
        refine rnd_n ?_
        have hbv : bv = true := by simpa using h15
        have k1 := hb2 hbv
        refine (Split.ent' (K := [FSA W.q d, blk b5 3 [.int .i64 (sizeF ((pre ++ [x]).map (·.2)) : Nat)], blk b3 9 [.string (str s)], blk b2 29 [pv p], stH p W2, ttA W2, ccA W2, ro μ2]) (by repeat (first | exact Split.nil | (apply Split.cons; (repeat (first | with_reducible exact Take.here | apply Take.there)))))).trans ?_
        exact ent_ex1 (F := fun y : RecX μ W ((pre ++ [x]).map (·.2)) => recK W.q b5 b3 b2 p d s (sizeF ((pre ++ [x]).map (·.2))) y.1) ⟨(W2, μ2), h1.trans g1, g2, g3.trans h3, g4.trans h4, by rw [List.map_append]; exact stands_snoc h5 k1⟩
    · skip
      rintro ys hys
      refine block_n ?_
      refine then_n ⟨⟨rfl, rfl, rfl, trivial⟩, ?_⟩
      rw [hys]
      refine ent_open fun ⟨⟨W1, μ1⟩, h1, h2, h3, h4, h5⟩ => ?_
      have hrun := runS_all h5
      have e2 : sizeF (scan s) = (runS W.pl (scan s)).2 := by rw [hrun]
      rw [e2]
      simp only [recK, recL, List.cons_append, List.nil_append]
      refine (Split.ent' (K := [FSA W.q d, blk b5 3 [.int .i64 ((runS W.pl (scan s)).2 : Nat)], blk b3 9 [.string (str s)], blk b2 29 [pv p], stH p W1, ttA W1, ccA W1, ro μ1]) (by repeat (first | exact Split.nil | (apply Split.cons; (repeat (first | with_reducible exact Take.here | apply Take.there)))))).trans ?_
      exact ent_ex1 (F := fun x : FinX μ W (scan s) => recK W.q b5 b3 b2 p d s (runS W.pl (scan s)).2 x.1) ⟨(W1, μ1), h1, h2, h3, h4, by rw [hrun]⟩
    · exact swp_fact (p := False) (fun m h => by obtain ⟨_, _, h, _⟩ := h; exact h) False.elim
    · intro j
      by_cases hj : j = 0
      · subst hj
        refine swp_exit ?_
        refine block_hit rfl ?_
        exact then_n ⟨⟨rfl, rfl, rfl, trivial⟩, by rw [brk_hit]; exact Split.ent' (by repeat (first | exact Split.nil | (apply Split.cons; (repeat (first | with_reducible exact Take.here | apply Take.there)))))⟩
      · exact swp_fact (p := False) (fun m h => by obtain ⟨_, _, h, _⟩ := h; exact brk_miss _ hj h) False.elim
  rintro env L ⟨hsub, hE⟩
  refine swp_sub _ hsub ?_
  refine swp_ent hE ?_
  clear hsub hE env L
  refine swp_ex fun ⟨⟨W1, μ1⟩, h1, h2, h3, h4, h5⟩ => ?_
  refine swp_app ?_
  dsimp only at h1 h2 h3 h4 h5 ⊢
  simp only [recK, recL, List.cons_append, List.nil_append]
  generalize (runS W.pl (scan s)).2 = n at *
  rw [← h3]
  refine swp_seq ?_
  refine swp_region ?_
  refine s_pu (pu_func (vs := []) (us := [_, _, _]) rfl rfl) ?_
  refine s_pu (pu_func (vs := []) (us := [_]) rfl rfl) ?_
  refine s_rd (rd_load rfl rfl) ?_
  first | refine s_pu (pu_nilCheck rfl) ?_ | refine s_pu (pu_nilCheck_fn rfl) ?_ | refine s_pu (pu_nilCheck_if rfl) ?_
  first | refine s_pu (pu_fieldAddr0 rfl) ?_ | refine s_pu (pu_fieldAddr rfl) ?_
  refine s_rd (rd_load rfl rfl) ?_
  refine s_pu (pu_func (vs := [_]) (us := []) rfl rfl) ?_
  refine s_ef (ef_bldS (qs := [(0, _), (1, _), (2, _)]) rfl rfl rfl) ?_
  intro b27
  refine s_ef (ef_fn (first_spec b27 3 [.func (.func 50) #[] #[pv b5, pv b3, pv b2], .func (.func 52) #[] #[pv b2], .func (.func 24) #[pv W1.q] #[]] (recL W1.q b5 b3 b2 p W1 d n s) _ (by show 3 ≤ 1000; decide) (settle_steps b5 b3 b2 p W1 d hd n s)) rfl rfl (by repeat (first | exact Split.nil | (apply Split.cons; (repeat (first | with_reducible exact Take.here | apply Take.there)))))) ?_
  rintro v28 L1 ⟨e, L2, rfl, ⟨rfl, rfl⟩, rfl⟩
  refine swl_app ?_
  refine s_pu (pu_assign rfl) ?_
  refine swl_sub _ (.cons (t := 4) rfl .nil) ?_
  refine swl_nil ?_
  refine then_n ?_
  refine swp_ret ?_
  exact done_ret [FSA W1.q (settleD d n s.length).1, stH p W1, ttA W1, ccA W1, ro μ1] (.tmp rfl .nil) ⟨W1, μ1, h1, h2, rfl, h4, h5, rfl, rfl⟩ (by repeat (first | exact Split.nil | (apply Split.cons; (repeat (first | with_reducible exact Take.here | apply Take.there)))))
end SX
namespace SX
open Go Go.Proofs
theorem readD_len {d : Dk} (h : d.Ok) (s : ByteArray) : (readD d s).1.length ≤ 1073741824 := by
  unfold readD
  split
  · exact Nat.zero_le _
  · split
    · exact Nat.zero_le _
    · rename_i k hk
      have := (Dk.fl_ok h k).1
      unfold mostF at this
      show (d.fl k).bytes.length ≤ _
      omega
theorem readD_err {d : Dk} {s : ByteArray} (h : (readD d s).2 ≠ 0) : (readD d s).1 = [] := by
  unfold readD at h ⊢
  split
  · rfl
  · split
    · rfl
    · rename_i h1 _ _ hk
      rw [if_neg h1, hk] at h
      exact absurd rfl h
/-- a new log -/
def freshD (d : Dk) : Dk × Int := if (createD d logN).2 ≠ 0 then createD d logN else syncNamesD (createD d logN).1
/-- the trees and commits of a log -/
def openS (d : Dk) : St2 := (runS ([], []) (scan (readD d logN).1)).1
def openD (d : Dk) : Dk × Int := if (readD d logN).2 = 6 then freshD d else if (readD d logN).2 ≠ 0 then (d, (readD d logN).2) else
  settleD d (runS ([], []) (scan (readD d logN).1)).2 (readD d logN).1.length
theorem open1_spec (b1 q : Nat) (d : Dk) (hd : d.Ok) (hw : Few d) : Spec Try.prog 23 [pv b1] [FSA q d, blk b1 25 [pv q]] (fun r L => r = .int .i64 (createD d logN).2 ∧ L = [FSA q (createD d logN).1, blk b1 25 [pv q]]) := by
  refine Spec.of 4 Try.func23 rfl rfl rfl ?_
  refine swp_seq ?_
  refine swp_region ?_
  refine s_pu (pu_assign rfl) ?_
  refine swl_sub _ (.cons (t := 0) rfl .nil) ?_
  refine swl_nil ?_
  refine then_n ?_
  refine swp_seq ?_
  refine swp_region ?_
  refine s_rd (rd_load rfl rfl) ?_
  refine s_ef (ef_fn (create_spec q d hd hw logN) rfl rfl (by repeat (first | exact Split.nil | (apply Split.cons; (repeat (first | with_reducible exact Take.here | apply Take.there)))))) ?_
  rintro v3 L1 ⟨rfl, rfl⟩
  refine swl_app ?_
  refine s_pu (pu_assign rfl) ?_
  refine swl_sub _ (.cons (t := 1) rfl .nil) ?_
  refine swl_nil ?_
  refine then_n ?_
  refine swp_ret ?_
  exact done_ret [FSA q (createD d logN).1, blk b1 25 [pv q]] (.tmp rfl .nil) ⟨rfl, rfl⟩ (by repeat (first | exact Split.nil | (apply Split.cons; (repeat (first | with_reducible exact Take.here | apply Take.there)))))
theorem fresh_steps (b1 q : Nat) (d : Dk) (hd : d.Ok) (hw : Few d) :
    StepsF [.func (.func 23) #[] #[pv b1], .func (.func 24) #[pv q] #[]] [FSA q d, blk b1 25 [pv q]] (fun e L => e = (freshD d).2 ∧ L = [FSA q (freshD d).1, blk b1 25 [pv q]]) := by
  have hd1 := createD_ok hd logN
  refine ⟨23, inferInstance, [], [pv b1], rfl, Spec.mono (open1_spec b1 q d hd hw) ?_⟩
  rintro r L ⟨rfl, rfl⟩
  refine ⟨_, rfl, ?_⟩
  by_cases h1 : (createD d logN).2 = 0
  · refine .inl ⟨h1, 24, inferInstance, [pv q], [], rfl, Spec.mono (Spec.fr (syncn_spec q _ hd1) [blk b1 25 [pv q]]) ?_⟩
    rintro r L ⟨L', ⟨rfl, rfl⟩, rfl⟩
    have e : freshD d = syncNamesD (createD d logN).1 := by unfold freshD; rw [if_neg (not_not_intro h1)]
    refine ⟨_, rfl, ?_⟩
    by_cases h3 : (syncNamesD (createD d logN).1).2 = 0
    · exact .inl ⟨h3, by rw [e]; exact ⟨h3.symm, rfl⟩⟩
    · exact .inr ⟨h3, by rw [e]; exact ⟨rfl, rfl⟩⟩
  · have e : freshD d = createD d logN := by unfold freshD; rw [if_pos h1]
    exact .inr ⟨h1, by rw [e]; exact ⟨rfl, rfl⟩⟩
/-- what opening answers -/
def OpenQ (μ : PH) (q : Nat) (d : Dk) (e : Int) (W : SW) (μ' : PH) : Prop := Le μ μ' ∧ W.Ok μ' ∧ W.q = q ∧ W.dead = false ∧ e = (openD d).2 ∧ (e = 0 → W.pl = openS d)
abbrev newSW (q : Nat) : SW := ⟨q, .slice none 0 0, .slice none 0 0, [], [], false⟩
theorem newSW_ok (μ : PH) (q : Nat) : (newSW q).Ok μ := ⟨⟨none, 0, rfl⟩, ⟨none, 0, rfl⟩, fun x hx => (by cases hx), fun x hx => (by cases hx), Nat.zero_le _, Nat.zero_le _⟩
set_option maxHeartbeats 4000000 in
theorem open_spec (μ : PH) (q : Nat) (d : Dk) (hd : d.Ok) (hw : Few d) : Spec Try.prog 7 [pv q] [FSA q d, ro μ] (fun r L => ∃ p W μ' e, OpenQ μ q d e W μ' ∧ r = .tuple #[if e = 0 then pv p else .pointer none, .int .i64 e] ∧ L = [FSA q (openD d).1, stH p W, ttA W, ccA W, ro μ']) := by
  refine Spec.of 34 Try.func7 rfl rfl rfl ?_
  refine swp_seq ?_
  refine swp_region ?_
  refine s_ef (ef_box rfl rfl) ?_
  intro b1
  refine s_pu (pu_assign rfl) ?_
  refine s_pu (pu_assign rfl) ?_
  refine swl_sub _ (.cons (t := 1) rfl .nil) ?_
  refine swl_nil ?_
  refine then_n ?_
  refine swp_seq ?_
  refine swp_seq ?_
  refine swp_region ?_
  refine s_rd (rd_load rfl rfl) ?_
  refine s_pu (pu_ptr_eq_nil rfl rfl) ?_
  refine swl_sub _ (.cons (t := 1) rfl (.cons (t := 8) rfl .nil)) ?_
  refine swl_nil ?_
  refine then_n ?_
  refine swp_cond (b := _) rfl (fun h8 => by cases h8) (fun h8 => ?_)
  refine swp_skip ?_
  refine then_n ?_
  refine swp_seq ?_
  refine swp_region ?_
  refine s_rd (rd_load rfl rfl) ?_
  refine s_pu (pu_bld (qs := [(0, _)]) rfl) ?_
  refine s_ef (ef_box rfl rfl) ?_
  intro b11
  refine s_pu (pu_assign rfl) ?_
  refine swl_sub _ (.cons (t := 1) rfl (.cons (t := 4) rfl .nil)) ?_
  refine swl_ent (own_nil_ent (e := 23) (n := 1)) ?_
  refine swl_ent (own_nil_ent (e := 48) (n := 2)) ?_
  refine swl_ent (L' := [FSA q d, stH b11 (newSW q), ttA (newSW q), ccA (newSW q), blk b1 25 [pv q], ro μ]) ?_ ?_
  · show Ent [own 48 2 (.slice none 0 0) 0 [], own 23 1 (.slice none 0 0) 0 [], blk b11 63 [pv q, .slice none 0 0, .slice none 0 0, .bool false], blk b1 25 [pv q], FSA q d, ro μ] [FSA q d, blk b11 63 [pv q, .slice none 0 0, .slice none 0 0, .bool false], own 23 1 (.slice none 0 0) 0 [], own 48 2 (.slice none 0 0) 0 [], blk b1 25 [pv q], ro μ]
    exact Split.ent' (by repeat (first | exact Split.nil | (apply Split.cons; (repeat (first | with_reducible exact Take.here | apply Take.there)))))
  refine swl_nil ?_
  refine then_n ?_
  refine swp_seq ?_
  refine swp_region ?_
  refine s_rd (rd_load rfl rfl) ?_
  refine s_ef (ef_fn (read_spec q d hd logN) rfl rfl (by repeat (first | exact Split.nil | (apply Split.cons; (repeat (first | with_reducible exact Take.here | apply Take.there)))))) ?_
  rintro v14 L1 ⟨rfl, rfl⟩
  rw [show (⟨(readD d logN).1.toArray⟩ : ByteArray) = str (readD d logN).1 from rfl]
  refine swl_app ?_
  refine s_pu (pu_move rfl) ?_
  first | refine s_pu (pu_extractL rfl) ?_ | refine s_pu (pu_extract rfl rfl) ?_
  first | refine s_pu (pu_extractL rfl) ?_ | refine s_pu (pu_extract rfl rfl) ?_
  refine s_pu (pu_assign rfl) ?_
  refine s_pu (pu_assign rfl) ?_
  refine swl_sub _ (.cons (t := 1) rfl (.cons (t := 4) rfl (.cons (t := 5) rfl (.cons (t := 6) rfl .nil)))) ?_
  refine swl_nil ?_
  refine then_n ?_
  refine swp_cut (fun env L => ∃ W μ' e, OpenQ μ q d e W μ' ∧ Sub env [(4, pv b11), (6, .int .i64 e)] ∧ Ent L [FSA q (openD d).1, stH b11 W, ttA W, ccA W, ro μ']) ?_ ?_
  · skip
    refine swp_seq ?_
    refine swp_region ?_
    refine s_pu (pu_move rfl) ?_
    refine swl_sub _ (.cons (t := 1) rfl (.cons (t := 4) rfl (.cons (t := 5) rfl (.cons (t := 6) rfl (.cons (t := 17) rfl .nil))))) ?_
    refine swl_nil ?_
    refine then_n ?_
    refine swp_block ?_
    refine swp_seq ?_
    refine swp_region ?_
    refine s_pu (pu_eql rfl rfl) ?_
    refine s_pu (pu_assign rfl) ?_
    refine swl_sub _ (.cons (t := 1) rfl (.cons (t := 4) rfl (.cons (t := 5) rfl (.cons (t := 6) rfl (.cons (t := 17) rfl (.cons (t := 18) rfl .nil)))))) ?_
    refine swl_nil ?_
    refine then_n ?_
    refine swp_cond (b := _) rfl (fun h18 => ?_) (fun h18 => ?_)
    · skip   -- 18 T
      refine swp_region ?_
      refine s_pu (pu_func (vs := []) (us := [_]) rfl rfl) ?_
      refine s_rd (rd_load rfl rfl) ?_
      refine s_pu (pu_func (vs := [_]) (us := []) rfl rfl) ?_
      refine s_ef (ef_bldS (qs := [(0, _), (1, _)]) rfl rfl rfl) ?_
      intro b23
      refine s_ef (ef_fn (first_spec b23 2 [.func (.func 23) #[] #[pv b1], .func (.func 24) #[pv q] #[]] [FSA q d, blk b1 25 [pv q]] _ (by show 2 ≤ 1000; decide) (fresh_steps b1 q d hd hw)) rfl rfl (by repeat (first | exact Split.nil | (apply Split.cons; (repeat (first | with_reducible exact Take.here | apply Take.there)))))) ?_
      rintro v24 L1 ⟨e, L2, rfl, ⟨rfl, rfl⟩, rfl⟩
      refine swl_app ?_
      refine s_pu (pu_assign rfl) ?_
      refine swl_sub _ (.cons (t := 4) rfl (.cons (t := 6) rfl .nil)) ?_
      refine swl_nil ?_
      refine block_n ?_
      have h18' : (readD d logN).2 = 6 := by simpa using h18
      have he : openD d = freshD d := by unfold openD; rw [if_pos h18']
      have hs : openS d = ([], []) := by unfold openS; rw [readD_err (by rw [h18']; decide)]; rfl
      refine then_n ⟨newSW q, μ, _, ⟨Le.refl _, newSW_ok μ q, rfl, rfl, by rw [he], fun _ => by rw [hs]; rfl⟩, ⟨rfl, rfl, trivial⟩, ?_⟩
      rw [he]
      exact Split.ent' (by repeat (first | exact Split.nil | (apply Split.cons; (repeat (first | with_reducible exact Take.here | apply Take.there)))))
    · skip   -- 18 F
      refine swp_seq ?_
      refine swp_region ?_
      refine s_pu (pu_eql rfl rfl) ?_
      refine s_pu (pu_assign rfl) ?_
      refine swl_sub _ (.cons (t := 4) rfl (.cons (t := 5) rfl (.cons (t := 6) rfl (.cons (t := 25) rfl .nil)))) ?_
      refine swl_nil ?_
      refine then_n ?_
      refine swp_cond (b := _) rfl (fun h25 => ?_) (fun h25 => ?_)
      · skip   -- 25 T
        refine swp_region ?_
        refine s_pu (pu_move rfl) ?_
        refine s_pu (pu_move rfl) ?_
        refine s_ef (ef_fn (recover_spec μ b11 (newSW q) (newSW_ok μ q) d hd (readD d logN).1 (readD_len hd logN)) rfl rfl (by repeat (first | exact Split.nil | (apply Split.cons; (repeat (first | with_reducible exact Take.here | apply Take.there)))))) ?_
        rintro v29 L1 ⟨W', μ', g1, g2, g3, g4, g5, rfl, rfl⟩
        refine swl_app ?_
        refine s_pu (pu_assign rfl) ?_
        refine swl_sub _ (.cons (t := 4) rfl (.cons (t := 6) rfl .nil)) ?_
        refine swl_nil ?_
        refine block_n ?_
        have h18' : (readD d logN).2 ≠ 6 := by simpa using h18
        have h25' : (readD d logN).2 = 0 := by simpa using h25
        have he : openD d = settleD d (runS ([], []) (scan (readD d logN).1)).2 (readD d logN).1.length := by unfold openD; rw [if_neg h18', if_neg (not_not_intro h25')]
        refine then_n ⟨W', μ', _, ⟨g1, g2, g3, g4, by rw [he]; rfl, fun _ => g5⟩, ⟨rfl, rfl, trivial⟩, ?_⟩
        rw [he]
        show Ent [FSA q (settleD d (runS ([], []) (scan (readD d logN).1)).2 (readD d logN).1.length).1, stH b11 W', ttA W', ccA W', ro μ', blk b1 25 [pv q]] _
        exact Split.ent' (by repeat (first | exact Split.nil | (apply Split.cons; (repeat (first | with_reducible exact Take.here | apply Take.there)))))
      · skip   -- 25 F
        refine swp_skip ?_
        refine block_n ?_
        have h18' : (readD d logN).2 ≠ 6 := by simpa using h18
        have h25' : (readD d logN).2 ≠ 0 := by simpa using h25
        have he : openD d = (d, (readD d logN).2) := by unfold openD; rw [if_neg h18', if_pos h25']
        refine then_n ⟨newSW q, μ, _, ⟨Le.refl _, newSW_ok μ q, rfl, rfl, by rw [he], fun k => absurd k h25'⟩, ⟨rfl, rfl, trivial⟩, ?_⟩
        rw [he]
        exact Split.ent' (by repeat (first | exact Split.nil | (apply Split.cons; (repeat (first | with_reducible exact Take.here | apply Take.there)))))
  rintro env L ⟨W, μ', e, hq, hsub, hE⟩
  refine swp_sub _ hsub ?_
  refine swp_ent hE ?_
  clear hsub hE env L
  refine swp_seq ?_
  refine swp_seq ?_
  refine swp_region ?_
  refine s_pu (pu_move rfl) ?_
  refine s_pu (pu_neq rfl rfl) ?_
  refine swl_sub _ (.cons (t := 4) rfl (.cons (t := 6) rfl (.cons (t := 31) rfl .nil))) ?_
  refine swl_nil ?_
  refine then_n ?_
  refine swp_cond (b := _) rfl (fun h31 => ?_) (fun h31 => ?_)
  · skip   -- 31 T
    refine swp_seq ?_
    refine swp_region ?_
    refine s_pu (pu_move rfl) ?_
    refine s_pu (pu_assign rfl) ?_
    refine s_pu (pu_assign rfl) ?_
    refine swl_sub _ (.cons (t := 2) rfl (.cons (t := 3) rfl .nil)) ?_
    refine swl_nil ?_
    refine then_n ?_
    refine swp_ret ?_
    refine then_r ?_
    have h31' : e ≠ 0 := by simpa using h31
    exact done_ret [FSA q (openD d).1, stH b11 W, ttA W, ccA W, ro μ'] (.tmp rfl (.tmp rfl .nil)) ⟨b11, W, μ', e, hq, by rw [if_neg h31']; rfl, rfl⟩ (by repeat (first | exact Split.nil | (apply Split.cons; (repeat (first | with_reducible exact Take.here | apply Take.there)))))
  · skip   -- 31 F
    refine swp_skip ?_
    refine then_n ?_
    refine swp_seq ?_
    refine swp_region ?_
    refine s_pu (pu_move rfl) ?_
    refine s_pu (pu_assign rfl) ?_
    refine s_pu (pu_assign rfl) ?_
    refine swl_sub _ (.cons (t := 2) rfl (.cons (t := 3) rfl .nil)) ?_
    refine swl_nil ?_
    refine then_n ?_
    refine swp_ret ?_
    have h31' : e = 0 := by simpa using h31
    subst h31'
    exact done_ret [FSA q (openD d).1, stH b11 W, ttA W, ccA W, ro μ'] (.tmp rfl (.tmp rfl .nil)) ⟨b11, W, μ', 0, hq, by rw [if_pos rfl]; rfl, rfl⟩ (by repeat (first | exact Split.nil | (apply Split.cons; (repeat (first | with_reducible exact Take.here | apply Take.there)))))
end SX
namespace SX
open Go Go.Proofs
theorem cloneT_spec (μ : PH) (v : Value) (t : List En) (hv : Row μ v 2 t.length (ens t)) (hl : t.length ≤ 1048576) : Spec Try.prog 37 [v] [ro μ] (fun r L => ∃ A c, r = .slice A t.length c ∧ L = [own 44 2 (.slice A t.length c) t.length (ens t), ro μ]) := by
  obtain ⟨A, cap, rfl⟩ := hv.sl
  refine Spec.of 8 Try.func37 rfl rfl rfl ?_
  refine swp_seq ?_
  refine swp_region ?_
  refine s_pu (pu_assign rfl) ?_
  refine swl_sub _ (.cons (t := 0) rfl .nil) ?_
  refine swl_nil ?_
  refine then_n ?_
  refine swp_seq ?_
  refine swp_seq ?_
  refine swp_region ?_
  refine s_pu (pu_move rfl) ?_
  refine s_pu (pu_sl_eq_nil rfl rfl) ?_
  refine swl_sub _ (.cons (t := 0) rfl (.cons (t := 4) rfl .nil)) ?_
  refine swl_nil ?_
  refine then_n ?_
  refine swp_cond (b := _) rfl (fun h4 => ?_) (fun h4 => ?_)
  · skip   -- 4 T
    refine swp_seq ?_
    refine swp_region ?_
    refine s_pu (pu_assign rfl) ?_
    refine swl_sub _ (.cons (t := 2) rfl .nil) ?_
    refine swl_nil ?_
    refine then_n ?_
    refine swp_ret ?_
    refine then_r ?_
    have hA : A = none := by cases A <;> simp_all
    subst hA
    have h0 : t = [] := by
      cases t with
      | nil => rfl
      | cons x l => obtain ⟨b, o, c, h, _⟩ := hv.pos (by simp); cases h
    subst h0
    exact done_retE [own 44 2 (.slice none 0 0) 0 [], ro μ] (.tmp rfl .nil) ⟨none, 0, rfl, rfl⟩ own_nil_ent
  · skip   -- 4 F
    refine swp_skip ?_
    refine then_n ?_
    refine swp_seq ?_
    refine swp_region ?_
    refine s_ef (ef_bldS (qs := []) rfl rfl rfl) ?_
    intro b5
    refine s_pu (pu_move rfl) ?_
    refine swl_ent (own_empty (n := 2)) ?_
    refine s_ef (ef_append_ro hv rfl rfl (by repeat (first | exact Split.nil | (apply Split.cons; (repeat (first | with_reducible exact Take.here | apply Take.there))))) (ens_one _) (by simp only [maxLen]; omega) (by omega)) ?_
    rintro v7 -
    rw [Nat.zero_add, List.nil_append]
    refine swl_fact (fun m h => own_form h) fun ⟨A7, c7, hv7⟩ => ?_
    subst hv7
    refine s_pu (pu_assign rfl) ?_
    refine swl_sub _ (.cons (t := 2) rfl .nil) ?_
    refine swl_nil ?_
    refine then_n ?_
    refine swp_ret ?_
    exact done_ret [own 44 2 (.slice A7 t.length c7) t.length (ens t), ro μ] (.tmp rfl .nil) ⟨A7, c7, rfl, rfl⟩ (by repeat (first | exact Split.nil | (apply Split.cons; (repeat (first | with_reducible exact Take.here | apply Take.there)))))
theorem cloneI_spec (μ : PH) (v : Value) (xs : List Int) (hv : Row μ v 1 xs.length (xs.flatMap (icsk .i64))) (hl : xs.length ≤ 1048576) : Spec Try.prog 44 [v] [ro μ] (fun r L => ∃ A c, r = .slice A xs.length c ∧ L = [own 3 1 (.slice A xs.length c) xs.length (xs.flatMap (icsk .i64)), ro μ]) := by
  obtain ⟨A, cap, rfl⟩ := hv.sl
  refine Spec.of 8 Try.func44 rfl rfl rfl ?_
  refine swp_seq ?_
  refine swp_region ?_
  refine s_pu (pu_assign rfl) ?_
  refine swl_sub _ (.cons (t := 0) rfl .nil) ?_
  refine swl_nil ?_
  refine then_n ?_
  refine swp_seq ?_
  refine swp_seq ?_
  refine swp_region ?_
  refine s_pu (pu_move rfl) ?_
  refine s_pu (pu_sl_eq_nil rfl rfl) ?_
  refine swl_sub _ (.cons (t := 0) rfl (.cons (t := 4) rfl .nil)) ?_
  refine swl_nil ?_
  refine then_n ?_
  refine swp_cond (b := _) rfl (fun h4 => ?_) (fun h4 => ?_)
  · skip   -- 4 T
    refine swp_seq ?_
    refine swp_region ?_
    refine s_pu (pu_assign rfl) ?_
    refine swl_sub _ (.cons (t := 2) rfl .nil) ?_
    refine swl_nil ?_
    refine then_n ?_
    refine swp_ret ?_
    refine then_r ?_
    have hA : A = none := by cases A <;> simp_all
    subst hA
    have h0 : xs = [] := by
      cases xs with
      | nil => rfl
      | cons x l => obtain ⟨b, o, c, h, _⟩ := hv.pos (by simp); cases h
    subst h0
    exact done_retE [own 3 1 (.slice none 0 0) 0 [], ro μ] (.tmp rfl .nil) ⟨none, 0, rfl, rfl⟩ own_nil_ent
  · skip   -- 4 F
    refine swp_skip ?_
    refine then_n ?_
    refine swp_seq ?_
    refine swp_region ?_
    refine s_ef (ef_bldS (qs := []) rfl rfl rfl) ?_
    intro b5
    refine s_pu (pu_move rfl) ?_
    refine swl_ent (own_empty (n := 1)) ?_
    refine s_ef (ef_append_ro hv rfl rfl (by repeat (first | exact Split.nil | (apply Split.cons; (repeat (first | with_reducible exact Take.here | apply Take.there))))) (icsk_one _) (by simp only [maxLen]; omega) (by omega)) ?_
    rintro v7 -
    rw [Nat.zero_add, List.nil_append]
    refine swl_fact (fun m h => own_form h) fun ⟨A7, c7, hv7⟩ => ?_
    subst hv7
    refine s_pu (pu_assign rfl) ?_
    refine swl_sub _ (.cons (t := 2) rfl .nil) ?_
    refine swl_nil ?_
    refine then_n ?_
    refine swp_ret ?_
    exact done_ret [own 3 1 (.slice A7 xs.length c7) xs.length (xs.flatMap (icsk .i64)), ro μ] (.tmp rfl .nil) ⟨A7, c7, rfl, rfl⟩ (by repeat (first | exact Split.nil | (apply Split.cons; (repeat (first | with_reducible exact Take.here | apply Take.there)))))
/-- a record, on the disk -/
def writeD (d : Dk) (f : Fm) : Dk × Int := if (appendD d logN (encFm f)).2 ≠ 0 then appendD d logN (encFm f) else syncD (appendD d logN (encFm f)).1 logN
theorem append_l (q : Nat) (d : Dk) (hd : d.Ok) (s : ByteArray) (l : List UInt8) (hl : l.length ≤ 1048576) : Spec Try.prog 9 [pv q, .string s, .string (str l)] [FSA q d] (fun r L => r = .int .i64 (appendD d s l).2 ∧ L = [FSA q (appendD d s l).1]) := append_spec q d hd s (str l) hl
abbrev wriL (b3 b7 p : Nat) (W : SW) (d : Dk) (f : Fm) : List Assn := [FSA W.q d, blk b3 29 [pv p], blk b7 9 [.string (str (encFm f))], stH p W]
theorem wri1_spec (b3 b7 p : Nat) (W : SW) (d : Dk) (hd : d.Ok) (f : Fm) (hf : f.2.length ≤ 1048567) : Spec Try.prog 66 [pv b3, pv b7] (wriL b3 b7 p W d f) (fun r L => r = .int .i64 (appendD d logN (encFm f)).2 ∧ L = wriL b3 b7 p W (appendD d logN (encFm f)).1 f) := by
  refine Spec.of 9 Try.func66 rfl rfl rfl ?_
  refine swp_seq ?_
  refine swp_region ?_
  refine s_pu (pu_assign rfl) ?_
  refine swl_sub _ (.cons (t := 0) rfl (.cons (t := 1) rfl .nil)) ?_
  refine swl_nil ?_
  refine then_n ?_
  refine swp_seq ?_
  refine swp_draw [0, 3, 4] _ [] (by simp only [List.append_nil]; exact Ent.refl _) (by kernel_rfl) ?_
  refine d_rd 0 rfl (rd_load rfl rfl) rfl (by kernel_rfl) (by kernel_rfl) (by kernel_rfl) ?_
  first | refine d_pu 1 rfl (pu_nilCheck rfl) (by kernel_rfl) (by kernel_rfl) (by kernel_rfl) ?_ | refine d_pu 1 rfl (pu_nilCheck_fn rfl) (by kernel_rfl) (by kernel_rfl) (by kernel_rfl) ?_ | refine d_pu 1 rfl (pu_nilCheck_if rfl) (by kernel_rfl) (by kernel_rfl) (by kernel_rfl) ?_
  first | refine d_pu 2 rfl (pu_fieldAddr0 rfl) (by kernel_rfl) (by kernel_rfl) (by kernel_rfl) ?_ | refine d_pu 2 rfl (pu_fieldAddr rfl) (by kernel_rfl) (by kernel_rfl) (by kernel_rfl) ?_
  refine d_rd 3 rfl (rd_load rfl rfl) rfl (by kernel_rfl) (by kernel_rfl) (by kernel_rfl) ?_
  refine d_rd 4 rfl (rd_load rfl rfl) rfl (by kernel_rfl) (by kernel_rfl) (by kernel_rfl) ?_
  first | refine d_fint 5 rfl (by kernel_rfl) (by kernel_rfl) (ef_fn (append_l W.q d hd logN (encFm f) (by rw [encFm_len]; omega)) rfl rfl (by repeat (first | exact Split.nil | (apply Split.cons; (repeat (first | with_reducible exact Take.here | apply Take.there)))))) ?_ | refine d_finf 5 rfl (by kernel_rfl) (by kernel_rfl) (ef_fn (append_l W.q d hd logN (encFm f) (by rw [encFm_len]; omega)) rfl rfl (by repeat (first | exact Split.nil | (apply Split.cons; (repeat (first | with_reducible exact Take.here | apply Take.there)))))) ?_
  rintro v8 L1 ⟨rfl, rfl⟩
  refine swd_app ?_
  refine d_pu 6 rfl (pu_assign rfl) (by kernel_rfl) (by kernel_rfl) (by kernel_rfl) ?_
  refine d_sub _ (.cons (t := 2) rfl .nil) ?_
  first | refine d_nilt (by kernel_rfl) ?_ | refine d_nilf (by kernel_rfl) ?_
  refine then_n ?_
  refine swp_ret ?_
  exact done_ret (wriL b3 b7 p W (appendD d logN (encFm f)).1 f) (.tmp rfl .nil) ⟨rfl, rfl⟩ (by repeat (first | exact Split.nil | (apply Split.cons; (repeat (first | with_reducible exact Take.here | apply Take.there)))))
theorem wri2_spec (b3 b7 p : Nat) (W : SW) (d : Dk) (hd : d.Ok) (f : Fm) : Spec Try.prog 67 [pv b3] (wriL b3 b7 p W d f) (fun r L => r = .int .i64 (syncD d logN).2 ∧ L = wriL b3 b7 p W (syncD d logN).1 f) := by
  refine Spec.of 7 Try.func67 rfl rfl rfl ?_
  refine swp_seq ?_
  refine swp_region ?_
  refine s_pu (pu_assign rfl) ?_
  refine swl_sub _ (.cons (t := 0) rfl .nil) ?_
  refine swl_nil ?_
  refine then_n ?_
  refine swp_seq ?_
  refine swp_region ?_
  refine s_rd (rd_load rfl rfl) ?_
  first | refine s_pu (pu_nilCheck rfl) ?_ | refine s_pu (pu_nilCheck_fn rfl) ?_ | refine s_pu (pu_nilCheck_if rfl) ?_
  first | refine s_pu (pu_fieldAddr0 rfl) ?_ | refine s_pu (pu_fieldAddr rfl) ?_
  refine s_rd (rd_load rfl rfl) ?_
  refine s_ef (ef_fn (sync_spec W.q d hd logN) rfl rfl (by repeat (first | exact Split.nil | (apply Split.cons; (repeat (first | with_reducible exact Take.here | apply Take.there)))))) ?_
  rintro v6 L1 ⟨rfl, rfl⟩
  refine swl_app ?_
  refine s_pu (pu_assign rfl) ?_
  refine swl_sub _ (.cons (t := 1) rfl .nil) ?_
  refine swl_nil ?_
  refine then_n ?_
  refine swp_ret ?_
  exact done_ret (wriL b3 b7 p W (syncD d logN).1 f) (.tmp rfl .nil) ⟨rfl, rfl⟩ (by repeat (first | exact Split.nil | (apply Split.cons; (repeat (first | with_reducible exact Take.here | apply Take.there)))))
theorem write_steps (b3 b7 p : Nat) (W : SW) (d : Dk) (hd : d.Ok) (f : Fm) (hf : f.2.length ≤ 1048567) :
    StepsF [.func (.func 66) #[] #[pv b3, pv b7], .func (.func 67) #[] #[pv b3]] (wriL b3 b7 p W d f) (fun e L => e = (writeD d f).2 ∧ L = wriL b3 b7 p W (writeD d f).1 f) := by
  have hd1 := appendD_ok hd logN (encFm f)
  refine ⟨66, inferInstance, [], [pv b3, pv b7], rfl, Spec.mono (wri1_spec b3 b7 p W d hd f hf) ?_⟩
  rintro r L ⟨rfl, rfl⟩
  refine ⟨_, rfl, ?_⟩
  by_cases h1 : (appendD d logN (encFm f)).2 = 0
  · refine .inl ⟨h1, 67, inferInstance, [], [pv b3], rfl, Spec.mono (wri2_spec b3 b7 p W _ hd1 f) ?_⟩
    rintro r L ⟨rfl, rfl⟩
    have e : writeD d f = syncD (appendD d logN (encFm f)).1 logN := by unfold writeD; rw [if_neg (not_not_intro h1)]
    refine ⟨_, rfl, ?_⟩
    by_cases h3 : (syncD (appendD d logN (encFm f)).1 logN).2 = 0
    · exact .inl ⟨h3, by rw [e]; exact ⟨h3.symm, rfl⟩⟩
    · exact .inr ⟨h3, by rw [e]; exact ⟨rfl, rfl⟩⟩
  · have e : writeD d f = appendD d logN (encFm f) := by unfold writeD; rw [if_pos h1]
    exact .inr ⟨h1, by rw [e]; exact ⟨rfl, rfl⟩⟩
theorem writeD_ok {d : Dk} (hd : d.Ok) (f : Fm) : (writeD d f).1.Ok := by
  unfold writeD
  split
  · exact appendD_ok hd _ _
  · exact syncD_ok (appendD_ok hd _ _) _
set_option maxHeartbeats 2000000 in
theorem write_spec (p : Nat) (W : SW) (d : Dk) (hd : d.Ok) (f : Fm) (h1 : 0 < f.1) (h2 : f.1 < 256) (hf : f.2.length ≤ 1048567) : Spec Try.prog 36 [pv p, .int .i64 (f.1 : Nat), .string (str f.2)] [FSA W.q d, stH p W] (fun r L => r = .int .i64 (writeD d f).2 ∧ L = [FSA W.q (writeD d f).1, stH p { W with dead := decide ((writeD d f).2 = 8) }]) := by
  refine Spec.of 28 Try.func36 rfl rfl rfl ?_
  refine swp_seq ?_
  refine swp_region ?_
  refine s_ef (ef_box rfl rfl) ?_
  intro b3
  refine s_pu (pu_assign rfl) ?_
  refine swl_sub _ (.cons (t := 1) rfl (.cons (t := 2) rfl (.cons (t := 3) rfl .nil))) ?_
  refine swl_nil ?_
  refine then_n ?_
  refine swp_seq ?_
  refine swp_region ?_
  refine s_pu (pu_move rfl) ?_
  refine s_pu (pu_move rfl) ?_
  refine s_pu (pu_bld (qs := [(0, _), (1, _)]) rfl) ?_
  refine s_ef (ef_fn (fenc_spec f h1 h2 (by omega)) rfl rfl (by repeat (first | exact Split.nil | (apply Split.cons; (repeat (first | with_reducible exact Take.here | apply Take.there)))))) ?_
  rintro v13 L1 ⟨rfl, rfl⟩
  refine swl_app ?_
  refine s_pu (pu_move rfl) ?_
  first | refine s_pu (pu_extractL rfl) ?_ | refine s_pu (pu_extract rfl rfl) ?_
  first | refine s_pu (pu_extractL rfl) ?_ | refine s_pu (pu_extract rfl rfl) ?_
  refine s_ef (ef_alloc) ?_
  intro b7
  refine s_ef0 (ef_store rfl rfl rfl) ?_
  refine s_pu (pu_assign rfl) ?_
  refine swl_sub _ (.cons (t := 3) rfl (.cons (t := 7) rfl (.cons (t := 8) rfl .nil))) ?_
  refine swl_nil ?_
  refine then_n ?_
  refine swp_seq ?_
  refine swp_seq ?_
  refine swp_region ?_
  refine s_pu (pu_move rfl) ?_
  refine s_pu (pu_eql rfl rfl) ?_
  refine swl_sub _ (.cons (t := 3) rfl (.cons (t := 7) rfl (.cons (t := 8) rfl (.cons (t := 17) rfl .nil)))) ?_
  refine swl_nil ?_
  refine then_n ?_
  refine swp_cond (b := _) rfl (fun h17 => ?_) (fun h17 => by cases h17)
  refine swp_region ?_
  refine s_pu (pu_func (vs := []) (us := [_, _]) rfl rfl) ?_
  refine s_pu (pu_func (vs := []) (us := [_]) rfl rfl) ?_
  refine s_ef (ef_bldS (qs := [(0, _), (1, _)]) rfl rfl rfl) ?_
  intro b20
  refine s_ef (ef_fn (first_spec b20 2 [.func (.func 66) #[] #[pv b3, pv b7], .func (.func 67) #[] #[pv b3]] (wriL b3 b7 p W d f) _ (by show 2 ≤ 1000; decide) (write_steps b3 b7 p W d hd f hf)) rfl rfl (by repeat (first | exact Split.nil | (apply Split.cons; (repeat (first | with_reducible exact Take.here | apply Take.there)))))) ?_
  rintro v21 L1 ⟨e, L2, rfl, ⟨rfl, rfl⟩, rfl⟩
  refine swl_app ?_
  refine s_pu (pu_assign rfl) ?_
  refine swl_sub _ (.cons (t := 3) rfl (.cons (t := 8) rfl .nil)) ?_
  refine swl_nil ?_
  refine then_n ?_
  refine swp_seq ?_
  refine swp_region ?_
  refine s_rd (rd_load rfl rfl) ?_
  refine s_pu (pu_move rfl) ?_
  refine s_pu (pu_eql rfl rfl) ?_
  first | refine s_pu (pu_nilCheck rfl) ?_ | refine s_pu (pu_nilCheck_fn rfl) ?_ | refine s_pu (pu_nilCheck_if rfl) ?_
  first | refine s_pu (pu_fieldAddr0 rfl) ?_ | refine s_pu (pu_fieldAddr rfl) ?_
  refine s_ef0 (ef_store rfl rfl rfl) ?_
  refine swl_sub _ (.cons (t := 8) rfl .nil) ?_
  refine swl_nil ?_
  refine then_n ?_
  refine swp_seq ?_
  refine swp_region ?_
  refine s_pu (pu_move rfl) ?_
  refine s_pu (pu_assign rfl) ?_
  refine swl_sub _ (.cons (t := 6) rfl .nil) ?_
  refine swl_nil ?_
  refine then_n ?_
  refine swp_ret ?_
  exact done_ret [FSA W.q (writeD d f).1, stH p { W with dead := decide ((writeD d f).2 = 8) }] (.tmp rfl .nil) ⟨rfl, rfl⟩ (by repeat (first | exact Split.nil | (apply Split.cons; (repeat (first | with_reducible exact Take.here | apply Take.there)))))
theorem live_spec (p : Nat) (W : SW) : Spec Try.prog 34 [pv p] [stH p W] (fun r L => r = .int .i64 (if W.dead = true then 8 else 0) ∧ L = [stH p W]) := by
  refine Spec.of 11 Try.func34 rfl rfl rfl ?_
  refine swp_seq ?_
  refine swp_region ?_
  refine s_pu (pu_assign rfl) ?_
  refine swl_sub _ (.cons (t := 0) rfl .nil) ?_
  refine swl_nil ?_
  refine then_n ?_
  refine swp_seq ?_
  refine swp_block ?_
  refine swp_seq ?_
  refine swp_region ?_
  refine s_pu (pu_move rfl) ?_
  refine s_pu (pu_ptr_eq_nil rfl rfl) ?_
  refine s_pu (pu_assign rfl) ?_
  refine swl_sub _ (.cons (t := 0) rfl (.cons (t := 3) rfl .nil)) ?_
  refine swl_nil ?_
  refine then_n ?_
  refine swp_cond (b := _) rfl (fun h3 => by cases h3) (fun h3 => ?_)
  refine swp_seq ?_
  refine swp_region ?_
  refine s_pu (pu_move rfl) ?_
  first | refine s_pu (pu_nilCheck rfl) ?_ | refine s_pu (pu_nilCheck_fn rfl) ?_ | refine s_pu (pu_nilCheck_if rfl) ?_
  first | refine s_pu (pu_fieldAddr0 rfl) ?_ | refine s_pu (pu_fieldAddr rfl) ?_
  refine s_rd (rd_load rfl rfl) ?_
  refine s_pu (pu_assign rfl) ?_
  refine swl_sub _ (.cons (t := 6) rfl .nil) ?_
  refine swl_nil ?_
  refine then_n ?_
  refine swp_cond (b := _) rfl (fun h6 => ?_) (fun h6 => ?_)
  · skip   -- 6 T
    refine swp_seq ?_
    refine swp_region ?_
    refine s_pu (pu_assign rfl) ?_
    refine swl_sub _ (.cons (t := 2) rfl .nil) ?_
    refine swl_nil ?_
    refine then_n ?_
    refine swp_ret ?_
    refine block_r ?_
    refine then_r ?_
    exact done_ret [stH p W] (.tmp rfl .nil) ⟨by rw [if_pos h6]; rfl, rfl⟩ (by repeat (first | exact Split.nil | (apply Split.cons; (repeat (first | with_reducible exact Take.here | apply Take.there)))))
  · skip   -- 6 F
    refine swp_skip ?_
    refine block_n ?_
    refine then_n ?_
    refine swp_seq ?_
    refine swp_region ?_
    refine s_pu (pu_assign rfl) ?_
    refine swl_sub _ (.cons (t := 2) rfl .nil) ?_
    refine swl_nil ?_
    refine then_n ?_
    refine swp_ret ?_
    exact done_ret [stH p W] (.tmp rfl .nil) ⟨by rw [if_neg (by rw [h6]; decide)]; rfl, rfl⟩ (by repeat (first | exact Split.nil | (apply Split.cons; (repeat (first | with_reducible exact Take.here | apply Take.there)))))
end SX
namespace SX
open Go Go.Proofs
/-- a store and its disk -/
structure PSt where
  d : Dk
  s : St2
  dead : Bool
def addR (x : PSt) (e0 : Int) (n : Nat) (f : Fm) (s' : St2) : PSt × Int × Int :=
  if x.dead = true then (x, 0, 8) else if e0 ≠ 0 then (x, 0, e0) else if 65536 ≤ n then (x, 0, 7) else
  if (writeD x.d f).2 ≠ 0 then (⟨(writeD x.d f).1, x.s, decide ((writeD x.d f).2 = 8)⟩, 0, (writeD x.d f).2) else (⟨(writeD x.d f).1, s', false⟩, (n : Nat), 0)
def addT (x : PSt) (t : List En) : PSt × Int × Int := addR x (encErr t) x.s.1.length (1, encT t) (x.s.1 ++ [t], x.s.2)
def addC (x : PSt) (c : Cm) : PSt × Int × Int := addR x (if checkC c ≠ 0 then checkC c else if knownS x.s.1.length x.s.2.length c = false then 9 else 0) x.s.2.length (2, encC' c) (x.s.1, x.s.2 ++ [c])
section
variable {x : PSt} {e0 : Int} {n : Nat} {f : Fm} {s' : St2}
theorem addR_dead (h : x.dead = true) : addR x e0 n f s' = (x, 0, 8) := by unfold addR; rw [if_pos h]
theorem addR_err (h : x.dead = false) (h2 : e0 ≠ 0) : addR x e0 n f s' = (x, 0, e0) := by unfold addR; rw [if_neg (by rw [h]; decide), if_pos h2]
theorem addR_full (h : x.dead = false) (h2 : e0 = 0) (h3 : 65536 ≤ n) : addR x e0 n f s' = (x, 0, 7) := by unfold addR; rw [if_neg (by rw [h]; decide), if_neg (not_not_intro h2), if_pos h3]
theorem addR_wr (h : x.dead = false) (h2 : e0 = 0) (h3 : n < 65536) (h4 : (writeD x.d f).2 ≠ 0) : addR x e0 n f s' = ((⟨(writeD x.d f).1, x.s, decide ((writeD x.d f).2 = 8)⟩ : PSt), (0 : Int), (writeD x.d f).2) := by unfold addR; rw [if_neg (by rw [h]; decide), if_neg (not_not_intro h2), if_neg (by omega), if_pos h4]
theorem addR_ok (h : x.dead = false) (h2 : e0 = 0) (h3 : n < 65536) (h4 : (writeD x.d f).2 = 0) : addR x e0 n f s' = ((⟨(writeD x.d f).1, s', false⟩ : PSt), ((n : Nat) : Int), (0 : Int)) := by unfold addR; rw [if_neg (by rw [h]; decide), if_neg (not_not_intro h2), if_neg (by omega), if_neg (not_not_intro h4)]
end
/-- what a call that adds leaves -/
def AddQ (μ : PH) (W : SW) (y : PSt × Int × Int) (r : Value) (W' : SW) (μ' : PH) : Prop := Le μ μ' ∧ W'.Ok μ' ∧ W'.q = W.q ∧ W'.pl = y.1.s ∧ W'.dead = y.1.dead ∧ r = .tuple #[.int .i64 y.2.1, .int .i64 y.2.2]
theorem encErr_ok {t : List En} (h : encErr t = 0) : t.length ≤ 1024 ∧ checkE t = 0 := by
  unfold encErr at h
  split at h
  · cases h
  · exact ⟨by omega, h⟩
theorem encT_len {t : List En} (h : encErr t = 0) : (encT t).length ≤ 1048567 := by
  obtain ⟨h1, h2⟩ := encErr_ok h
  have := encEs_len [] t fun e he => (check_paths h2 e he).1
  unfold encT
  rw [List.length_append, numB_len]
  omega
theorem encC_len {c : Cm} (h : checkC c = 0) : (encC' c).length ≤ 1048567 := by
  obtain ⟨h1, _⟩ := checkC_ok h
  unfold encC'
  simp only [List.length_append, numB_len, encPs_len]
  omega
theorem SW.Ok.dead {μ : PH} {W : SW} (h : W.Ok μ) (b : Bool) : SW.Ok μ { W with dead := b } := ⟨h.tf, h.cf, h.tr, h.cr, h.tl, h.cl⟩
set_option maxHeartbeats 4000000 in
theorem addtree_spec (μ : PH) (p : Nat) (W : SW) (hW : W.Ok μ) (d : Dk) (hd : d.Ok) (v : Value) (t : List En) (hv : Row μ v 2 t.length (ens t)) (hu : U32s t) : Spec Try.prog 11 [pv p, v] [FSA W.q d, stH p W, ttA W, ccA W, ro μ]
    (fun r L => ∃ W' μ', AddQ μ W (addT ⟨d, W.pl, W.dead⟩ t) r W' μ' ∧ L = [FSA W'.q (addT ⟨d, W.pl, W.dead⟩ t).1.d, stH p W', ttA W', ccA W', ro μ']) := by
  have hW0 := hW
  obtain ⟨⟨A1, c1, e1⟩, ⟨A2, c2, e2⟩, _, _, hT, hC⟩ := hW
  obtain ⟨q, tv, cv, T, C, dead⟩ := W
  dsimp only at e1 e2 hT hC
  subst e1 e2
  have hlen : (SW.pl ⟨q, .slice A1 T.length c1, .slice A2 C.length c2, T, C, dead⟩).1.length = T.length := List.length_map _
  generalize hy : addT ⟨d, SW.pl ⟨q, .slice A1 T.length c1, .slice A2 C.length c2, T, C, dead⟩, dead⟩ t = y
  refine Spec.of 54 Try.func11 rfl rfl rfl ?_
  refine swp_seq ?_
  refine swp_region ?_
  refine s_pu (pu_assign rfl) ?_
  refine s_pu (pu_assign rfl) ?_
  refine swl_sub _ (.cons (t := 0) rfl (.cons (t := 1) rfl .nil)) ?_
  refine swl_nil ?_
  refine then_n ?_
  refine swp_seq ?_
  refine swp_seq ?_
  refine swp_region ?_
  refine s_pu (pu_move rfl) ?_
  refine s_ef (ef_fn (live_spec p ⟨q, .slice A1 T.length c1, .slice A2 C.length c2, T, C, dead⟩) rfl rfl (by repeat (first | exact Split.nil | (apply Split.cons; (repeat (first | with_reducible exact Take.here | apply Take.there)))))) ?_
  rintro v10 L1 ⟨rfl, rfl⟩
  refine swl_app ?_
  refine s_pu (pu_assign rfl) ?_
  refine swl_sub _ (.cons (t := 0) rfl (.cons (t := 1) rfl (.cons (t := 6) rfl .nil))) ?_
  refine swl_nil ?_
  refine then_n ?_
  refine swp_seq ?_
  refine swp_region ?_
  refine s_pu (pu_move rfl) ?_
  refine s_pu (pu_neq rfl rfl) ?_
  refine swl_sub _ (.cons (t := 0) rfl (.cons (t := 1) rfl (.cons (t := 6) rfl (.cons (t := 12) rfl .nil)))) ?_
  refine swl_nil ?_
  refine then_n ?_
  refine swp_cond (b := _) rfl (fun h12 => ?_) (fun h12 => ?_)
  · skip   -- 12 T
    refine swp_seq ?_
    refine swp_region ?_
    refine s_pu (pu_move rfl) ?_
    refine s_pu (pu_assign rfl) ?_
    refine s_pu (pu_assign rfl) ?_
    refine swl_sub _ (.cons (t := 4) rfl (.cons (t := 5) rfl .nil)) ?_
    refine swl_nil ?_
    refine then_n ?_
    refine swp_ret ?_
    refine then_r ?_
    have hdd : dead = true := by
      cases dead with
      | true => rfl
      | false => simp at h12
    have ha : (⟨d, SW.pl ⟨q, .slice A1 T.length c1, .slice A2 C.length c2, T, C, dead⟩, dead⟩, 0, 8) = y := by rw [← hy]; exact (addR_dead (x := ⟨d, SW.pl ⟨q, .slice A1 T.length c1, .slice A2 C.length c2, T, C, dead⟩, dead⟩) hdd).symm
    subst ha
    exact done_ret [FSA q d, stH p ⟨q, .slice A1 T.length c1, .slice A2 C.length c2, T, C, dead⟩, ttA ⟨q, .slice A1 T.length c1, .slice A2 C.length c2, T, C, dead⟩, ccA ⟨q, .slice A1 T.length c1, .slice A2 C.length c2, T, C, dead⟩, ro μ] (.tmp rfl (.tmp rfl .nil)) ⟨⟨q, .slice A1 T.length c1, .slice A2 C.length c2, T, C, dead⟩, μ, ⟨Le.refl _, hW0, rfl, rfl, rfl, by rw [if_pos hdd]; rfl⟩, rfl⟩ (by repeat (first | exact Split.nil | (apply Split.cons; (repeat (first | with_reducible exact Take.here | apply Take.there)))))
  · skip   -- 12 F
    have hdd : dead = false := by
      cases dead with
      | true => simp at h12
      | false => rfl
    refine swp_skip ?_
    refine then_n ?_
    refine swp_seq ?_
    refine swp_region ?_
    refine s_pu (pu_move rfl) ?_
    refine s_ef (ef_fn (tenc_spec μ v t hv hu) rfl rfl (by repeat (first | exact Split.nil | (apply Split.cons; (repeat (first | with_reducible exact Take.here | apply Take.there)))))) ?_
    rintro v16 L1 ⟨rfl, rfl⟩
    refine swl_app ?_
    refine s_pu (pu_move rfl) ?_
    first | refine s_pu (pu_extractL rfl) ?_ | refine s_pu (pu_extract rfl rfl) ?_
    first | refine s_pu (pu_extractL rfl) ?_ | refine s_pu (pu_extract rfl rfl) ?_
    refine s_pu (pu_assign rfl) ?_
    refine s_pu (pu_assign rfl) ?_
    refine swl_sub _ (.cons (t := 0) rfl (.cons (t := 1) rfl (.cons (t := 7) rfl (.cons (t := 8) rfl .nil)))) ?_
    refine swl_nil ?_
    refine then_n ?_
    refine swp_seq ?_
    refine swp_seq ?_
    refine swp_region ?_
    refine s_pu (pu_move rfl) ?_
    refine s_pu (pu_eql rfl rfl) ?_
    refine s_pu (pu_move rfl) ?_
    refine s_split 21 rfl (fun h21 => ?_) (fun h21 => ?_)
    · skip   -- 21 T
      have h21' : encErr t = 0 := of_decide_eq_true h21
      obtain ⟨hl1, hl2⟩ := encErr_ok h21'
      have hev : encV t = encT t := by unfold encV; rw [if_pos h21']
      refine s_on rfl rfl ?_
      refine s_pu (pu_move rfl) ?_
      refine s_on rfl rfl ?_
      first | refine s_pu (pu_nilCheck rfl) ?_ | refine s_pu (pu_nilCheck_fn rfl) ?_ | refine s_pu (pu_nilCheck_if rfl) ?_
      refine s_on rfl rfl ?_
      first | refine s_pu (pu_fieldAddr0 rfl) ?_ | refine s_pu (pu_fieldAddr rfl) ?_
      refine s_on rfl rfl ?_
      refine s_rd (rd_load rfl rfl) ?_
      refine s_on rfl rfl ?_
      refine s_pu (pu_len rfl) ?_
      refine s_on rfl rfl ?_
      refine s_pu (pu_geq rfl rfl) ?_
      first | refine s_pu (pu_pick_t rfl rfl) ?_ | refine s_pu (pu_pick_f rfl rfl) ?_
      refine swl_sub _ (.cons (t := 0) rfl (.cons (t := 1) rfl (.cons (t := 7) rfl (.cons (t := 8) rfl (.cons (t := 28) rfl .nil))))) ?_
      refine swl_nil ?_
      refine then_n ?_
      refine swp_cond (b := _) rfl (fun h28 => ?_) (fun h28 => ?_)
      · skip   -- 28 T
        have h28' : 65536 ≤ T.length := by have := of_decide_eq_true h28; omega
        refine swp_region ?_
        refine s_pu (pu_assign rfl) ?_
        refine swl_sub _ (.cons (t := 0) rfl (.cons (t := 1) rfl (.cons (t := 7) rfl (.cons (t := 8) rfl .nil)))) ?_
        refine swl_nil ?_
        refine then_n ?_
        refine swp_seq ?_
        refine swp_seq ?_
        refine swp_region ?_
        refine s_pu (pu_move rfl) ?_
        refine s_pu (pu_eql rfl rfl) ?_
        refine swl_sub _ (.cons (t := 0) rfl (.cons (t := 1) rfl (.cons (t := 7) rfl (.cons (t := 8) rfl (.cons (t := 30) rfl .nil))))) ?_
        refine swl_nil ?_
        refine then_n ?_
        refine swp_cond (b := _) rfl (fun h30 => by cases h30) (fun h30 => ?_)
        refine swp_skip ?_
        refine then_n ?_
        refine swp_seq ?_
        refine swp_seq ?_
        refine swp_region ?_
        refine s_pu (pu_move rfl) ?_
        refine s_pu (pu_neq rfl rfl) ?_
        refine swl_sub _ (.cons (t := 0) rfl (.cons (t := 1) rfl (.cons (t := 8) rfl (.cons (t := 35) rfl .nil)))) ?_
        refine swl_nil ?_
        refine then_n ?_
        refine swp_cond (b := _) rfl (fun h35 => ?_) (fun h35 => by cases h35)
        refine swp_seq ?_
        refine swp_region ?_
        refine s_pu (pu_move rfl) ?_
        refine s_pu (pu_assign rfl) ?_
        refine s_pu (pu_assign rfl) ?_
        refine swl_sub _ (.cons (t := 4) rfl (.cons (t := 5) rfl .nil)) ?_
        refine swl_nil ?_
        refine then_n ?_
        refine swp_ret ?_
        refine then_r ?_
        have ha : (⟨d, SW.pl ⟨q, .slice A1 T.length c1, .slice A2 C.length c2, T, C, dead⟩, dead⟩, 0, 7) = y := by rw [← hy]; exact (addR_full (x := ⟨d, SW.pl ⟨q, .slice A1 T.length c1, .slice A2 C.length c2, T, C, dead⟩, dead⟩) hdd h21' (by first | (show (SW.pl ⟨q, .slice A1 T.length c1, .slice A2 C.length c2, T, C, dead⟩).1.length < 65536; rw [hlen]; exact h28') | (show 65536 ≤ (SW.pl ⟨q, .slice A1 T.length c1, .slice A2 C.length c2, T, C, dead⟩).1.length; rw [hlen]; exact h28'))).symm
        subst ha
        exact done_ret [FSA q d, stH p ⟨q, .slice A1 T.length c1, .slice A2 C.length c2, T, C, dead⟩, ttA ⟨q, .slice A1 T.length c1, .slice A2 C.length c2, T, C, dead⟩, ccA ⟨q, .slice A1 T.length c1, .slice A2 C.length c2, T, C, dead⟩, ro μ] (.tmp rfl (.tmp rfl .nil)) ⟨⟨q, .slice A1 T.length c1, .slice A2 C.length c2, T, C, dead⟩, μ, ⟨Le.refl _, hW0, rfl, rfl, rfl, rfl⟩, rfl⟩ (by repeat (first | exact Split.nil | (apply Split.cons; (repeat (first | with_reducible exact Take.here | apply Take.there)))))
      · skip   -- 28 F
        have h28' : T.length < 65536 := by have := of_decide_eq_false h28; omega
        refine swp_skip ?_
        refine then_n ?_
        refine swp_seq ?_
        refine swp_seq ?_
        refine swp_region ?_
        refine s_pu (pu_move rfl) ?_
        refine s_pu (pu_eql rfl rfl) ?_
        refine swl_sub _ (.cons (t := 0) rfl (.cons (t := 1) rfl (.cons (t := 7) rfl (.cons (t := 8) rfl (.cons (t := 30) rfl .nil))))) ?_
        refine swl_nil ?_
        refine then_n ?_
        refine swp_cond (b := _) rfl (fun h30 => ?_) (fun h30 => by rw [h21'] at h30; cases h30)
        refine swp_region ?_
        refine s_pu (pu_move rfl) ?_
        refine s_pu (pu_move rfl) ?_
        refine s_ef (ef_fn (write_spec p ⟨q, .slice A1 T.length c1, .slice A2 C.length c2, T, C, dead⟩ d hd (1, encV t) (by show 0 < 1; decide) (by show 1 < 256; decide) (by rw [hev]; exact encT_len h21')) rfl rfl (by repeat (first | exact Split.nil | (apply Split.cons; (repeat (first | with_reducible exact Take.here | apply Take.there)))))) ?_
        rintro v33 L1 ⟨rfl, rfl⟩
        rw [hev]
        refine swl_app ?_
        dsimp only
        refine s_pu (pu_assign rfl) ?_
        refine swl_sub _ (.cons (t := 0) rfl (.cons (t := 1) rfl (.cons (t := 8) rfl .nil))) ?_
        refine swl_nil ?_
        refine then_n ?_
        refine swp_seq ?_
        refine swp_seq ?_
        refine swp_region ?_
        refine s_pu (pu_move rfl) ?_
        refine s_pu (pu_neq rfl rfl) ?_
        refine swl_sub _ (.cons (t := 0) rfl (.cons (t := 1) rfl (.cons (t := 8) rfl (.cons (t := 35) rfl .nil)))) ?_
        refine swl_nil ?_
        refine then_n ?_
        refine swp_cond (b := _) rfl (fun h35 => ?_) (fun h35 => ?_)
        · skip   -- 35 T
          refine swp_seq ?_
          refine swp_region ?_
          refine s_pu (pu_move rfl) ?_
          refine s_pu (pu_assign rfl) ?_
          refine s_pu (pu_assign rfl) ?_
          refine swl_sub _ (.cons (t := 4) rfl (.cons (t := 5) rfl .nil)) ?_
          refine swl_nil ?_
          refine then_n ?_
          refine swp_ret ?_
          refine then_r ?_
          have h35' : (writeD d (1, encT t)).2 ≠ 0 := by simpa using h35
          have ha : (⟨(writeD d (1, encT t)).1, SW.pl ⟨q, .slice A1 T.length c1, .slice A2 C.length c2, T, C, dead⟩, decide ((writeD d (1, encT t)).2 = 8)⟩, 0, (writeD d (1, encT t)).2) = y := by rw [← hy]; exact (addR_wr (x := ⟨d, SW.pl ⟨q, .slice A1 T.length c1, .slice A2 C.length c2, T, C, dead⟩, dead⟩) hdd h21' (by first | (show (SW.pl ⟨q, .slice A1 T.length c1, .slice A2 C.length c2, T, C, dead⟩).1.length < 65536; rw [hlen]; exact h28') | (show 65536 ≤ (SW.pl ⟨q, .slice A1 T.length c1, .slice A2 C.length c2, T, C, dead⟩).1.length; rw [hlen]; exact h28')) h35').symm
          subst ha
          exact done_ret [FSA q (writeD d (1, encT t)).1, stH p ⟨q, .slice A1 T.length c1, .slice A2 C.length c2, T, C, decide ((writeD d (1, encT t)).2 = 8)⟩, ttA ⟨q, .slice A1 T.length c1, .slice A2 C.length c2, T, C, dead⟩, ccA ⟨q, .slice A1 T.length c1, .slice A2 C.length c2, T, C, dead⟩, ro μ] (.tmp rfl (.tmp rfl .nil)) ⟨⟨q, .slice A1 T.length c1, .slice A2 C.length c2, T, C, decide ((writeD d (1, encT t)).2 = 8)⟩, μ, ⟨Le.refl _, SW.Ok.dead hW0 _, rfl, rfl, rfl, rfl⟩, rfl⟩ (by repeat (first | exact Split.nil | (apply Split.cons; (repeat (first | with_reducible exact Take.here | apply Take.there)))))
        · skip   -- 35 F
          have h35' : (writeD d (1, encT t)).2 = 0 := by simpa using h35
          have ha : (⟨(writeD d (1, encT t)).1, ((SW.pl ⟨q, .slice A1 T.length c1, .slice A2 C.length c2, T, C, dead⟩).1 ++ [t], (SW.pl ⟨q, .slice A1 T.length c1, .slice A2 C.length c2, T, C, dead⟩).2), false⟩, ((SW.pl ⟨q, .slice A1 T.length c1, .slice A2 C.length c2, T, C, dead⟩).1.length : Int), 0) = y := by rw [← hy]; exact (addR_ok (x := ⟨d, SW.pl ⟨q, .slice A1 T.length c1, .slice A2 C.length c2, T, C, dead⟩, dead⟩) hdd h21' (by first | (show (SW.pl ⟨q, .slice A1 T.length c1, .slice A2 C.length c2, T, C, dead⟩).1.length < 65536; rw [hlen]; exact h28') | (show 65536 ≤ (SW.pl ⟨q, .slice A1 T.length c1, .slice A2 C.length c2, T, C, dead⟩).1.length; rw [hlen]; exact h28')) h35').symm
          have hd8 : decide ((writeD d (1, encT t)).2 = 8) = false := by rw [h35']; rfl
          rw [hd8]
          subst ha
          refine swp_skip ?_
          refine then_n ?_
          refine swp_seq ?_
          refine swp_draw [4] ([stH p ⟨q, .slice A1 T.length c1, .slice A2 C.length c2, T, C, false⟩]) ([FSA q (writeD d (1, encT t)).1, ro μ, ttA ⟨q, .slice A1 T.length c1, .slice A2 C.length c2, T, C, dead⟩, ccA ⟨q, .slice A1 T.length c1, .slice A2 C.length c2, T, C, dead⟩]) (Split.ent (by repeat (first | exact Split.nil | (apply Split.cons; (repeat (first | with_reducible exact Take.here | apply Take.there)))))) (by kernel_rfl) ?_
          refine d_pu 0 rfl (pu_move rfl) (by kernel_rfl) (by kernel_rfl) (by kernel_rfl) ?_
          refine d_pu 1 rfl (pu_move rfl) (by kernel_rfl) (by kernel_rfl) (by kernel_rfl) ?_
          first | refine d_pu 2 rfl (pu_nilCheck rfl) (by kernel_rfl) (by kernel_rfl) (by kernel_rfl) ?_ | refine d_pu 2 rfl (pu_nilCheck_fn rfl) (by kernel_rfl) (by kernel_rfl) (by kernel_rfl) ?_ | refine d_pu 2 rfl (pu_nilCheck_if rfl) (by kernel_rfl) (by kernel_rfl) (by kernel_rfl) ?_
          first | refine d_pu 3 rfl (pu_fieldAddr0 rfl) (by kernel_rfl) (by kernel_rfl) (by kernel_rfl) ?_ | refine d_pu 3 rfl (pu_fieldAddr rfl) (by kernel_rfl) (by kernel_rfl) (by kernel_rfl) ?_
          refine d_rd 4 rfl (rd_load rfl rfl) rfl (by kernel_rfl) (by kernel_rfl) (by kernel_rfl) ?_
          refine d_pu 5 rfl (pu_move rfl) (by kernel_rfl) (by kernel_rfl) (by kernel_rfl) ?_
          refine d_eft 6 rfl (by kernel_rfl) (ef_fn (cloneT_spec μ v t hv (by omega)) rfl rfl (by repeat (first | exact Split.nil | (apply Split.cons; (repeat (first | with_reducible exact Take.here | apply Take.there)))))) ?_
          rintro v43 L1 ⟨A3, c3, rfl, rfl⟩
          refine ⟨_, ent_appC (Split.ent (by repeat (first | exact Split.nil | (apply Split.cons; (repeat (first | with_reducible exact Take.here | apply Take.there)))))), ?_⟩
          refine d_eft 7 rfl (by kernel_rfl) (ef_bldS (qs := [(0, _)]) rfl rfl rfl) ?_
          intro b44
          refine ⟨_, Split.ent (by repeat (first | exact Split.nil | (apply Split.cons; (repeat (first | with_reducible exact Take.here | apply Take.there))))), ?_⟩
          first | refine d_fint 8 rfl (by kernel_rfl) (by kernel_rfl) (ef_append_lit (l := T.length) (m := 1) rfl rfl (by repeat (first | exact Split.nil | (apply Split.cons; (repeat (first | with_reducible exact Take.here | apply Take.there))))) (by simp only [maxLen]; omega) (by omega)) ?_ | refine d_finf 8 rfl (by kernel_rfl) (by kernel_rfl) (ef_append_lit (l := T.length) (m := 1) rfl rfl (by repeat (first | exact Split.nil | (apply Split.cons; (repeat (first | with_reducible exact Take.here | apply Take.there))))) (by simp only [maxLen]; omega) (by omega)) ?_
          rintro v45 -
          first | refine swd_factf (fun m h => own_form h) fun ⟨A45, c45, hv45⟩ => ?_ | refine swd_factt (fun m h => own_form h) fun ⟨A45, c45, hv45⟩ => ?_
          subst hv45
          first | refine d_pu 9 rfl (pu_nilCheck rfl) (by kernel_rfl) (by kernel_rfl) (by kernel_rfl) ?_ | refine d_pu 9 rfl (pu_nilCheck_fn rfl) (by kernel_rfl) (by kernel_rfl) (by kernel_rfl) ?_ | refine d_pu 9 rfl (pu_nilCheck_if rfl) (by kernel_rfl) (by kernel_rfl) (by kernel_rfl) ?_
          first | refine d_pu 10 rfl (pu_fieldAddr0 rfl) (by kernel_rfl) (by kernel_rfl) (by kernel_rfl) ?_ | refine d_pu 10 rfl (pu_fieldAddr rfl) (by kernel_rfl) (by kernel_rfl) (by kernel_rfl) ?_
          first | refine d_fin0t 11 rfl (by kernel_rfl) (by kernel_rfl) (ef_store rfl rfl rfl) ?_ | refine d_fin0f 11 rfl (by kernel_rfl) (by kernel_rfl) (ef_store rfl rfl rfl) ?_
          refine d_sub _ (.cons (t := 0) rfl .nil) ?_
          first | refine d_nilt (by kernel_rfl) ?_ | refine d_nilf (by kernel_rfl) ?_
          refine then_n ?_
          refine swp_seq ?_
          refine swp_share_own (μ := μ) (v := .slice A3 t.length c3) (e := 44) (n := 2) (by repeat (first | exact Split.nil | (apply Split.cons; (repeat (first | with_reducible exact Take.here | apply Take.there))))) fun μ' hle hrow => ?_
          refine swp_region ?_
          refine s_pu (pu_move rfl) ?_
          first | refine s_pu (pu_nilCheck rfl) ?_ | refine s_pu (pu_nilCheck_fn rfl) ?_ | refine s_pu (pu_nilCheck_if rfl) ?_
          first | refine s_pu (pu_fieldAddr0 rfl) ?_ | refine s_pu (pu_fieldAddr rfl) ?_
          refine s_rd (rd_load rfl rfl) ?_
          refine s_pu (pu_len rfl) ?_
          refine s_pu (pu_sub_as ((T.length : Nat) : Int) rfl rfl (by omega) (by omega) (by omega)) ?_
          refine s_pu (pu_assign rfl) ?_
          refine s_pu (pu_assign rfl) ?_
          refine swl_sub _ (.cons (t := 4) rfl (.cons (t := 5) rfl .nil)) ?_
          refine swl_nil ?_
          refine then_n ?_
          refine swp_ret ?_
          refine done_ret [FSA q (writeD d (1, encT t)).1, stH p ⟨q, .slice A45 (T.length + 1) c45, .slice A2 C.length c2, T ++ [(.slice A3 t.length c3, t)], C, false⟩, own 23 1 (.slice A45 (T.length + 1) c45) (T.length + 1) (T.flatMap tcs ++ [.slice A3 t.length c3]), ccA ⟨q, .slice A1 T.length c1, .slice A2 C.length c2, T, C, dead⟩, ro μ'] (.tmp rfl (.tmp rfl .nil)) ⟨⟨q, .slice A45 (T.length + 1) c45, .slice A2 C.length c2, T ++ [(.slice A3 t.length c3, t)], C, false⟩, μ', ⟨hle, SW.Ok.dead (Ok.addT hW0 hle hrow h28') false, rfl, ?_, rfl, ?_⟩, ?_⟩ (by repeat (first | exact Split.nil | (apply Split.cons; (repeat (first | with_reducible exact Take.here | apply Take.there)))))
          · unfold SW.pl; rw [List.map_append]; rfl
          · rw [hlen]; rfl
          · simp only [ttA, List.length_append, List.length_singleton, List.flatMap_append]; rfl
    · skip   -- 21 F
      have h21' : encErr t ≠ 0 := of_decide_eq_false h21
      refine s_off rfl rfl rfl ?_
      refine s_off rfl rfl rfl ?_
      refine s_off rfl rfl rfl ?_
      refine s_off rfl rfl rfl ?_
      refine s_off rfl rfl rfl ?_
      refine s_off rfl rfl rfl ?_
      first | refine s_pu (pu_pick_t rfl rfl) ?_ | refine s_pu (pu_pick_f rfl rfl) ?_
      refine swl_sub _ (.cons (t := 0) rfl (.cons (t := 1) rfl (.cons (t := 7) rfl (.cons (t := 8) rfl (.cons (t := 28) rfl .nil))))) ?_
      refine swl_nil ?_
      refine then_n ?_
      refine swp_cond (b := _) rfl (fun h28 => by cases h28) (fun h28 => ?_)
      refine swp_skip ?_
      refine then_n ?_
      refine swp_seq ?_
      refine swp_seq ?_
      refine swp_region ?_
      refine s_pu (pu_move rfl) ?_
      refine s_pu (pu_eql rfl rfl) ?_
      refine swl_sub _ (.cons (t := 0) rfl (.cons (t := 1) rfl (.cons (t := 7) rfl (.cons (t := 8) rfl (.cons (t := 30) rfl .nil))))) ?_
      refine swl_nil ?_
      refine then_n ?_
      refine swp_cond (b := _) rfl (fun h30 => by exact absurd (of_decide_eq_true h30) h21') (fun h30 => ?_)
      refine swp_skip ?_
      refine then_n ?_
      refine swp_seq ?_
      refine swp_seq ?_
      refine swp_region ?_
      refine s_pu (pu_move rfl) ?_
      refine s_pu (pu_neq rfl rfl) ?_
      refine swl_sub _ (.cons (t := 0) rfl (.cons (t := 1) rfl (.cons (t := 8) rfl (.cons (t := 35) rfl .nil)))) ?_
      refine swl_nil ?_
      refine then_n ?_
      refine swp_cond (b := _) rfl (fun h35 => ?_) (fun h35 => by rw [decide_eq_false h21'] at h35; cases h35)
      refine swp_seq ?_
      refine swp_region ?_
      refine s_pu (pu_move rfl) ?_
      refine s_pu (pu_assign rfl) ?_
      refine s_pu (pu_assign rfl) ?_
      refine swl_sub _ (.cons (t := 4) rfl (.cons (t := 5) rfl .nil)) ?_
      refine swl_nil ?_
      refine then_n ?_
      refine swp_ret ?_
      refine then_r ?_
      have ha : (⟨d, SW.pl ⟨q, .slice A1 T.length c1, .slice A2 C.length c2, T, C, dead⟩, dead⟩, 0, encErr t) = y := by rw [← hy]; exact (addR_err (x := ⟨d, SW.pl ⟨q, .slice A1 T.length c1, .slice A2 C.length c2, T, C, dead⟩, dead⟩) hdd h21').symm
      subst ha
      exact done_ret [FSA q d, stH p ⟨q, .slice A1 T.length c1, .slice A2 C.length c2, T, C, dead⟩, ttA ⟨q, .slice A1 T.length c1, .slice A2 C.length c2, T, C, dead⟩, ccA ⟨q, .slice A1 T.length c1, .slice A2 C.length c2, T, C, dead⟩, ro μ] (.tmp rfl (.tmp rfl .nil)) ⟨⟨q, .slice A1 T.length c1, .slice A2 C.length c2, T, C, dead⟩, μ, ⟨Le.refl _, hW0, rfl, rfl, rfl, rfl⟩, rfl⟩ (by repeat (first | exact Split.nil | (apply Split.cons; (repeat (first | with_reducible exact Take.here | apply Take.there)))))
end SX
namespace SX
open Go Go.Proofs
theorem comV_ok {c : Cm} (h : checkC c = 0) : comV c = encC' c := by unfold comV; rw [if_pos h]
set_option maxHeartbeats 4000000 in
theorem addcommit_spec (μ : PH) (p : Nat) (W : SW) (hW : W.Ok μ) (d : Dk) (hd : d.Ok) (v : Value) (c : Cm) (hv : Row μ v 1 c.1.length (c.1.flatMap (icsk .i64))) : Spec Try.prog 16 [pv p, cmV v c.2] [FSA W.q d, stH p W, ttA W, ccA W, ro μ]
    (fun r L => ∃ W' μ', AddQ μ W (addC ⟨d, W.pl, W.dead⟩ c) r W' μ' ∧ L = [FSA W'.q (addC ⟨d, W.pl, W.dead⟩ c).1.d, stH p W', ttA W', ccA W', ro μ']) := by
  have hW0 := hW
  obtain ⟨⟨A1, c1, e1⟩, ⟨A2, c2, e2⟩, _, _, hT, hC⟩ := hW
  obtain ⟨A5, c5, rfl⟩ := hv.sl
  obtain ⟨q, tv, cv, T, C, dead⟩ := W
  dsimp only at e1 e2 hT hC
  subst e1 e2
  have hlen : (SW.pl ⟨q, .slice A1 T.length c1, .slice A2 C.length c2, T, C, dead⟩).1.length = T.length := List.length_map _
  have hlen2 : (SW.pl ⟨q, .slice A1 T.length c1, .slice A2 C.length c2, T, C, dead⟩).2.length = C.length := List.length_map _
  generalize hy : addC ⟨d, SW.pl ⟨q, .slice A1 T.length c1, .slice A2 C.length c2, T, C, dead⟩, dead⟩ c = y
  unfold addC at hy
  dsimp only at hy
  rw [hlen, hlen2] at hy
  refine Spec.of 61 Try.func16 rfl rfl rfl ?_
  refine swp_seq ?_
  refine swp_region ?_
  refine s_ef (ef_box rfl rfl) ?_
  intro b3
  refine s_pu (pu_assign rfl) ?_
  refine s_pu (pu_assign rfl) ?_
  refine swl_sub _ (.cons (t := 0) rfl (.cons (t := 3) rfl .nil)) ?_
  refine swl_nil ?_
  refine then_n ?_
  refine swp_seq ?_
  refine swp_seq ?_
  refine swp_region ?_
  refine s_pu (pu_move rfl) ?_
  refine s_ef (ef_fn (live_spec p ⟨q, .slice A1 T.length c1, .slice A2 C.length c2, T, C, dead⟩) rfl rfl (by repeat (first | exact Split.nil | (apply Split.cons; (repeat (first | with_reducible exact Take.here | apply Take.there)))))) ?_
  rintro v10 L1 ⟨rfl, rfl⟩
  refine swl_app ?_
  refine s_pu (pu_assign rfl) ?_
  refine swl_sub _ (.cons (t := 0) rfl (.cons (t := 3) rfl (.cons (t := 6) rfl .nil))) ?_
  refine swl_nil ?_
  refine then_n ?_
  refine swp_seq ?_
  refine swp_region ?_
  refine s_pu (pu_move rfl) ?_
  refine s_pu (pu_neq rfl rfl) ?_
  refine swl_sub _ (.cons (t := 0) rfl (.cons (t := 3) rfl (.cons (t := 6) rfl (.cons (t := 12) rfl .nil)))) ?_
  refine swl_nil ?_
  refine then_n ?_
  refine swp_cond (b := _) rfl (fun h12 => ?_) (fun h12 => ?_)
  · skip   -- 12 T
    refine swp_seq ?_
    refine swp_region ?_
    refine s_pu (pu_move rfl) ?_
    refine s_pu (pu_assign rfl) ?_
    refine s_pu (pu_assign rfl) ?_
    refine swl_sub _ (.cons (t := 4) rfl (.cons (t := 5) rfl .nil)) ?_
    refine swl_nil ?_
    refine then_n ?_
    refine swp_ret ?_
    refine then_r ?_
    have hdd : dead = true := by
      cases dead with
      | true => rfl
      | false => simp at h12
    have ha : (⟨d, SW.pl ⟨q, .slice A1 T.length c1, .slice A2 C.length c2, T, C, dead⟩, dead⟩, 0, 8) = y := by rw [← hy]; exact (addR_dead (x := ⟨d, SW.pl ⟨q, .slice A1 T.length c1, .slice A2 C.length c2, T, C, dead⟩, dead⟩) hdd).symm
    subst ha
    exact done_ret [FSA q d, stH p ⟨q, .slice A1 T.length c1, .slice A2 C.length c2, T, C, dead⟩, ttA ⟨q, .slice A1 T.length c1, .slice A2 C.length c2, T, C, dead⟩, ccA ⟨q, .slice A1 T.length c1, .slice A2 C.length c2, T, C, dead⟩, ro μ] (.tmp rfl (.tmp rfl .nil)) ⟨⟨q, .slice A1 T.length c1, .slice A2 C.length c2, T, C, dead⟩, μ, ⟨Le.refl _, hW0, rfl, rfl, rfl, by rw [if_pos hdd]; rfl⟩, rfl⟩ (by repeat (first | exact Split.nil | (apply Split.cons; (repeat (first | with_reducible exact Take.here | apply Take.there)))))
  · skip   -- 12 F
    have hdd : dead = false := by
      cases dead with
      | true => simp at h12
      | false => rfl
    refine swp_skip ?_
    refine then_n ?_
    refine swp_seq ?_
    refine swp_region ?_
    first | refine s_rd (rd_loadW rfl rfl) ?_ | refine s_rd (rd_loadX rfl rfl rfl) ?_
    refine s_ef (ef_fn (cenc_spec μ (.slice A5 c.1.length c5) c hv) rfl rfl (by repeat (first | exact Split.nil | (apply Split.cons; (repeat (first | with_reducible exact Take.here | apply Take.there)))))) ?_
    rintro v16 L1 ⟨rfl, rfl⟩
    refine swl_app ?_
    refine s_pu (pu_move rfl) ?_
    first | refine s_pu (pu_extractL rfl) ?_ | refine s_pu (pu_extract rfl rfl) ?_
    first | refine s_pu (pu_extractL rfl) ?_ | refine s_pu (pu_extract rfl rfl) ?_
    refine s_pu (pu_assign rfl) ?_
    refine s_pu (pu_assign rfl) ?_
    refine swl_sub _ (.cons (t := 0) rfl (.cons (t := 3) rfl (.cons (t := 7) rfl (.cons (t := 8) rfl .nil)))) ?_
    refine swl_nil ?_
    refine then_n ?_
    refine swp_seq ?_
    refine swp_block ?_
    refine swp_seq ?_
    refine swp_region ?_
    refine s_pu (pu_move rfl) ?_
    refine s_pu (pu_neq rfl rfl) ?_
    refine s_pu (pu_assign rfl) ?_
    refine swl_sub _ (.cons (t := 0) rfl (.cons (t := 3) rfl (.cons (t := 7) rfl (.cons (t := 8) rfl (.cons (t := 22) rfl .nil))))) ?_
    refine swl_nil ?_
    refine then_n ?_
    refine swp_cond (b := _) rfl (fun h22 => ?_) (fun h22 => ?_)
    · skip   -- 22 T
      have h22' : checkC c ≠ 0 := by simpa using h22
      rw [if_pos h22'] at hy
      refine swp_skip ?_
      refine block_n ?_
      refine then_n ?_
      refine swp_seq ?_
      refine swp_seq ?_
      refine swp_region ?_
      refine s_pu (pu_move rfl) ?_
      refine s_pu (pu_neq rfl rfl) ?_
      refine swl_sub _ (.cons (t := 0) rfl (.cons (t := 3) rfl (.cons (t := 8) rfl (.cons (t := 38) rfl .nil)))) ?_
      refine swl_nil ?_
      refine then_n ?_
      refine swp_cond (b := _) rfl (fun h38 => ?_) (fun h38 => by rw [decide_eq_false h22'] at h38; cases h38)
      refine swp_seq ?_
      refine swp_region ?_
      refine s_pu (pu_move rfl) ?_
      refine s_pu (pu_assign rfl) ?_
      refine s_pu (pu_assign rfl) ?_
      refine swl_sub _ (.cons (t := 4) rfl (.cons (t := 5) rfl .nil)) ?_
      refine swl_nil ?_
      refine then_n ?_
      refine swp_ret ?_
      refine then_r ?_
      have ha : (⟨d, SW.pl ⟨q, .slice A1 T.length c1, .slice A2 C.length c2, T, C, dead⟩, dead⟩, 0, checkC c) = y := by rw [← hy]; exact (addR_err (x := ⟨d, SW.pl ⟨q, .slice A1 T.length c1, .slice A2 C.length c2, T, C, dead⟩, dead⟩) hdd h22').symm
      subst ha
      exact done_ret [FSA q d, stH p ⟨q, .slice A1 T.length c1, .slice A2 C.length c2, T, C, dead⟩, ttA ⟨q, .slice A1 T.length c1, .slice A2 C.length c2, T, C, dead⟩, ccA ⟨q, .slice A1 T.length c1, .slice A2 C.length c2, T, C, dead⟩, ro μ] (.tmp rfl (.tmp rfl .nil)) ⟨⟨q, .slice A1 T.length c1, .slice A2 C.length c2, T, C, dead⟩, μ, ⟨Le.refl _, hW0, rfl, rfl, rfl, rfl⟩, rfl⟩ (by repeat (first | exact Split.nil | (apply Split.cons; (repeat (first | with_reducible exact Take.here | apply Take.there)))))
    · skip   -- 22 F
      have h22' : checkC c = 0 := by simpa using h22
      rw [if_neg (not_not_intro h22')] at hy
      refine swp_seq ?_
      refine swp_region ?_
      refine s_pu (pu_move rfl) ?_
      first | refine s_rd (rd_loadW rfl rfl) ?_ | refine s_rd (rd_loadX rfl rfl rfl) ?_
      refine s_ef (ef_fn (known_spec μ p ⟨q, .slice A1 T.length c1, .slice A2 C.length c2, T, C, dead⟩ hW0 (.slice A5 c.1.length c5) c hv) rfl rfl (by repeat (first | exact Split.nil | (apply Split.cons; (repeat (first | with_reducible exact Take.here | apply Take.there)))))) ?_
      rintro v28 L1 ⟨rfl, rfl⟩
      refine swl_app ?_
      refine s_pu (pu_not rfl) ?_
      refine s_pu (pu_assign rfl) ?_
      refine swl_sub _ (.cons (t := 0) rfl (.cons (t := 3) rfl (.cons (t := 7) rfl (.cons (t := 25) rfl .nil)))) ?_
      refine swl_nil ?_
      refine then_n ?_
      refine swp_cond (b := _) rfl (fun h25 => ?_) (fun h25 => ?_)
      · skip   -- 25 T
        have h25' : knownS T.length C.length c = false := by simpa using h25
        rw [if_pos h25'] at hy
        refine swp_region ?_
        refine s_pu (pu_assign rfl) ?_
        refine swl_sub _ (.cons (t := 0) rfl (.cons (t := 3) rfl (.cons (t := 8) rfl .nil))) ?_
        refine swl_nil ?_
        refine block_n ?_
        refine then_n ?_
        refine swp_seq ?_
        refine swp_seq ?_
        refine swp_region ?_
        refine s_pu (pu_move rfl) ?_
        refine s_pu (pu_neq rfl rfl) ?_
        refine swl_sub _ (.cons (t := 0) rfl (.cons (t := 3) rfl (.cons (t := 8) rfl (.cons (t := 38) rfl .nil)))) ?_
        refine swl_nil ?_
        refine then_n ?_
        refine swp_cond (b := _) rfl (fun h38 => ?_) (fun h38 => by cases h38)
        refine swp_seq ?_
        refine swp_region ?_
        refine s_pu (pu_move rfl) ?_
        refine s_pu (pu_assign rfl) ?_
        refine s_pu (pu_assign rfl) ?_
        refine swl_sub _ (.cons (t := 4) rfl (.cons (t := 5) rfl .nil)) ?_
        refine swl_nil ?_
        refine then_n ?_
        refine swp_ret ?_
        refine then_r ?_
        have ha : (⟨d, SW.pl ⟨q, .slice A1 T.length c1, .slice A2 C.length c2, T, C, dead⟩, dead⟩, 0, 9) = y := by rw [← hy]; exact (addR_err (x := ⟨d, SW.pl ⟨q, .slice A1 T.length c1, .slice A2 C.length c2, T, C, dead⟩, dead⟩) hdd (by decide)).symm
        subst ha
        exact done_ret [FSA q d, stH p ⟨q, .slice A1 T.length c1, .slice A2 C.length c2, T, C, dead⟩, ttA ⟨q, .slice A1 T.length c1, .slice A2 C.length c2, T, C, dead⟩, ccA ⟨q, .slice A1 T.length c1, .slice A2 C.length c2, T, C, dead⟩, ro μ] (.tmp rfl (.tmp rfl .nil)) ⟨⟨q, .slice A1 T.length c1, .slice A2 C.length c2, T, C, dead⟩, μ, ⟨Le.refl _, hW0, rfl, rfl, rfl, rfl⟩, rfl⟩ (by repeat (first | exact Split.nil | (apply Split.cons; (repeat (first | with_reducible exact Take.here | apply Take.there)))))
      · skip   -- 25 F
        have h25' : knownS T.length C.length c = true := by simpa using h25
        rw [if_neg (by rw [h25']; decide)] at hy
        refine swp_seq ?_
        refine swp_region ?_
        refine s_pu (pu_move rfl) ?_
        first | refine s_pu (pu_nilCheck rfl) ?_ | refine s_pu (pu_nilCheck_fn rfl) ?_ | refine s_pu (pu_nilCheck_if rfl) ?_
        first | refine s_pu (pu_fieldAddr0 rfl) ?_ | refine s_pu (pu_fieldAddr rfl) ?_
        refine s_rd (rd_load rfl rfl) ?_
        refine s_pu (pu_len rfl) ?_
        refine s_pu (pu_geq rfl rfl) ?_
        refine s_pu (pu_assign rfl) ?_
        refine swl_sub _ (.cons (t := 0) rfl (.cons (t := 3) rfl (.cons (t := 7) rfl (.cons (t := 30) rfl .nil)))) ?_
        refine swl_nil ?_
        refine then_n ?_
        refine swp_cond (b := _) rfl (fun h30 => ?_) (fun h30 => ?_)
        · skip   -- 30 T
          have h30' : 65536 ≤ C.length := by have := of_decide_eq_true h30; omega
          refine swp_region ?_
          refine s_pu (pu_assign rfl) ?_
          refine swl_sub _ (.cons (t := 0) rfl (.cons (t := 3) rfl (.cons (t := 8) rfl .nil))) ?_
          refine swl_nil ?_
          refine block_n ?_
          refine then_n ?_
          refine swp_seq ?_
          refine swp_seq ?_
          refine swp_region ?_
          refine s_pu (pu_move rfl) ?_
          refine s_pu (pu_neq rfl rfl) ?_
          refine swl_sub _ (.cons (t := 0) rfl (.cons (t := 3) rfl (.cons (t := 8) rfl (.cons (t := 38) rfl .nil)))) ?_
          refine swl_nil ?_
          refine then_n ?_
          refine swp_cond (b := _) rfl (fun h38 => ?_) (fun h38 => by cases h38)
          refine swp_seq ?_
          refine swp_region ?_
          refine s_pu (pu_move rfl) ?_
          refine s_pu (pu_assign rfl) ?_
          refine s_pu (pu_assign rfl) ?_
          refine swl_sub _ (.cons (t := 4) rfl (.cons (t := 5) rfl .nil)) ?_
          refine swl_nil ?_
          refine then_n ?_
          refine swp_ret ?_
          refine then_r ?_
          have ha : (⟨d, SW.pl ⟨q, .slice A1 T.length c1, .slice A2 C.length c2, T, C, dead⟩, dead⟩, 0, 7) = y := by rw [← hy]; exact (addR_full (x := ⟨d, SW.pl ⟨q, .slice A1 T.length c1, .slice A2 C.length c2, T, C, dead⟩, dead⟩) hdd rfl h30').symm
          subst ha
          exact done_ret [FSA q d, stH p ⟨q, .slice A1 T.length c1, .slice A2 C.length c2, T, C, dead⟩, ttA ⟨q, .slice A1 T.length c1, .slice A2 C.length c2, T, C, dead⟩, ccA ⟨q, .slice A1 T.length c1, .slice A2 C.length c2, T, C, dead⟩, ro μ] (.tmp rfl (.tmp rfl .nil)) ⟨⟨q, .slice A1 T.length c1, .slice A2 C.length c2, T, C, dead⟩, μ, ⟨Le.refl _, hW0, rfl, rfl, rfl, rfl⟩, rfl⟩ (by repeat (first | exact Split.nil | (apply Split.cons; (repeat (first | with_reducible exact Take.here | apply Take.there)))))
        · skip   -- 30 F
          have h30' : C.length < 65536 := by have := of_decide_eq_false h30; omega
          have hbl := (checkC_ok h22').1
          refine swp_region ?_
          refine s_pu (pu_move rfl) ?_
          refine s_pu (pu_move rfl) ?_
          refine s_ef (ef_fn (write_spec p ⟨q, .slice A1 T.length c1, .slice A2 C.length c2, T, C, dead⟩ d hd (2, comV c) (by show 0 < 2; decide) (by show 2 < 256; decide) (by rw [comV_ok h22']; exact encC_len h22')) rfl rfl (by repeat (first | exact Split.nil | (apply Split.cons; (repeat (first | with_reducible exact Take.here | apply Take.there)))))) ?_
          rintro v21 L1 ⟨rfl, rfl⟩
          rw [comV_ok h22']
          refine swl_app ?_
          dsimp only
          refine s_pu (pu_assign rfl) ?_
          refine swl_sub _ (.cons (t := 0) rfl (.cons (t := 3) rfl (.cons (t := 8) rfl .nil))) ?_
          refine swl_nil ?_
          refine block_n ?_
          refine then_n ?_
          refine swp_seq ?_
          refine swp_seq ?_
          refine swp_region ?_
          refine s_pu (pu_move rfl) ?_
          refine s_pu (pu_neq rfl rfl) ?_
          refine swl_sub _ (.cons (t := 0) rfl (.cons (t := 3) rfl (.cons (t := 8) rfl (.cons (t := 38) rfl .nil)))) ?_
          refine swl_nil ?_
          refine then_n ?_
          refine swp_cond (b := _) rfl (fun h38 => ?_) (fun h38 => ?_)
          · skip   -- 38 T
            refine swp_seq ?_
            refine swp_region ?_
            refine s_pu (pu_move rfl) ?_
            refine s_pu (pu_assign rfl) ?_
            refine s_pu (pu_assign rfl) ?_
            refine swl_sub _ (.cons (t := 4) rfl (.cons (t := 5) rfl .nil)) ?_
            refine swl_nil ?_
            refine then_n ?_
            refine swp_ret ?_
            refine then_r ?_
            have h38' : (writeD d (2, encC' c)).2 ≠ 0 := by simpa using h38
            have ha : (⟨(writeD d (2, encC' c)).1, SW.pl ⟨q, .slice A1 T.length c1, .slice A2 C.length c2, T, C, dead⟩, decide ((writeD d (2, encC' c)).2 = 8)⟩, 0, (writeD d (2, encC' c)).2) = y := by rw [← hy]; exact (addR_wr (x := ⟨d, SW.pl ⟨q, .slice A1 T.length c1, .slice A2 C.length c2, T, C, dead⟩, dead⟩) hdd rfl h30' h38').symm
            subst ha
            exact done_ret [FSA q (writeD d (2, encC' c)).1, stH p ⟨q, .slice A1 T.length c1, .slice A2 C.length c2, T, C, decide ((writeD d (2, encC' c)).2 = 8)⟩, ttA ⟨q, .slice A1 T.length c1, .slice A2 C.length c2, T, C, dead⟩, ccA ⟨q, .slice A1 T.length c1, .slice A2 C.length c2, T, C, dead⟩, ro μ] (.tmp rfl (.tmp rfl .nil)) ⟨⟨q, .slice A1 T.length c1, .slice A2 C.length c2, T, C, decide ((writeD d (2, encC' c)).2 = 8)⟩, μ, ⟨Le.refl _, SW.Ok.dead hW0 _, rfl, rfl, rfl, rfl⟩, rfl⟩ (by repeat (first | exact Split.nil | (apply Split.cons; (repeat (first | with_reducible exact Take.here | apply Take.there)))))
          · skip   -- 38 F
            have h38' : (writeD d (2, encC' c)).2 = 0 := by simpa using h38
            have ha : (⟨(writeD d (2, encC' c)).1, ((SW.pl ⟨q, .slice A1 T.length c1, .slice A2 C.length c2, T, C, dead⟩).1, (SW.pl ⟨q, .slice A1 T.length c1, .slice A2 C.length c2, T, C, dead⟩).2 ++ [c]), false⟩, ((C.length : Nat) : Int), 0) = y := by rw [← hy]; exact (addR_ok (x := ⟨d, SW.pl ⟨q, .slice A1 T.length c1, .slice A2 C.length c2, T, C, dead⟩, dead⟩) hdd rfl h30' h38').symm
            have hd8 : decide ((writeD d (2, encC' c)).2 = 8) = false := by rw [h38']; rfl
            rw [hd8]
            subst ha
            refine swp_skip ?_
            refine then_n ?_
            refine swp_seq ?_
            refine swp_draw [4, 6, 9] ([stH p ⟨q, .slice A1 T.length c1, .slice A2 C.length c2, T, C, false⟩, blk b3 48 [.slice A5 c.1.length c5, .int .i64 c.2]]) ([FSA q (writeD d (2, encC' c)).1, ro μ, ttA ⟨q, .slice A1 T.length c1, .slice A2 C.length c2, T, C, dead⟩, ccA ⟨q, .slice A1 T.length c1, .slice A2 C.length c2, T, C, dead⟩]) (Split.ent (by repeat (first | exact Split.nil | (apply Split.cons; (repeat (first | with_reducible exact Take.here | apply Take.there)))))) (by kernel_rfl) ?_
            refine d_pu 0 rfl (pu_move rfl) (by kernel_rfl) (by kernel_rfl) (by kernel_rfl) ?_
            refine d_pu 1 rfl (pu_move rfl) (by kernel_rfl) (by kernel_rfl) (by kernel_rfl) ?_
            first | refine d_pu 2 rfl (pu_nilCheck rfl) (by kernel_rfl) (by kernel_rfl) (by kernel_rfl) ?_ | refine d_pu 2 rfl (pu_nilCheck_fn rfl) (by kernel_rfl) (by kernel_rfl) (by kernel_rfl) ?_ | refine d_pu 2 rfl (pu_nilCheck_if rfl) (by kernel_rfl) (by kernel_rfl) (by kernel_rfl) ?_
            first | refine d_pu 3 rfl (pu_fieldAddr0 rfl) (by kernel_rfl) (by kernel_rfl) (by kernel_rfl) ?_ | refine d_pu 3 rfl (pu_fieldAddr rfl) (by kernel_rfl) (by kernel_rfl) (by kernel_rfl) ?_
            refine d_rd 4 rfl (rd_load rfl rfl) rfl (by kernel_rfl) (by kernel_rfl) (by kernel_rfl) ?_
            first | refine d_pu 5 rfl (pu_fieldAddr0 rfl) (by kernel_rfl) (by kernel_rfl) (by kernel_rfl) ?_ | refine d_pu 5 rfl (pu_fieldAddr rfl) (by kernel_rfl) (by kernel_rfl) (by kernel_rfl) ?_
            refine d_rd 6 rfl (rd_load rfl rfl) rfl (by kernel_rfl) (by kernel_rfl) (by kernel_rfl) ?_
            first | refine d_pu 8 rfl (pu_fieldAddr0 rfl) (by kernel_rfl) (by kernel_rfl) (by kernel_rfl) ?_ | refine d_pu 8 rfl (pu_fieldAddr rfl) (by kernel_rfl) (by kernel_rfl) (by kernel_rfl) ?_
            refine d_rd 9 rfl (rd_load rfl rfl) rfl (by kernel_rfl) (by kernel_rfl) (by kernel_rfl) ?_
            refine d_eft 7 rfl (by kernel_rfl) (ef_fn (cloneI_spec μ (.slice A5 c.1.length c5) c.1 hv (by omega)) rfl rfl (by repeat (first | exact Split.nil | (apply Split.cons; (repeat (first | with_reducible exact Take.here | apply Take.there)))))) ?_
            rintro v47 L1 ⟨A3, c3, rfl, rfl⟩
            refine ⟨_, ent_appC (Split.ent (by repeat (first | exact Split.nil | (apply Split.cons; (repeat (first | with_reducible exact Take.here | apply Take.there)))))), ?_⟩
            refine d_pu 10 rfl (pu_bld (qs := [(0, _), (1, _)]) rfl) (by kernel_rfl) (by kernel_rfl) (by kernel_rfl) ?_
            refine d_eft 11 rfl (by kernel_rfl) (ef_bldS (qs := [(0, _)]) rfl rfl rfl) ?_
            intro b51
            refine ⟨_, Split.ent (by repeat (first | exact Split.nil | (apply Split.cons; (repeat (first | with_reducible exact Take.here | apply Take.there))))), ?_⟩
            first | refine d_fint 12 rfl (by kernel_rfl) (by kernel_rfl) (ef_append_lit (l := C.length) (m := 1) rfl rfl (by repeat (first | exact Split.nil | (apply Split.cons; (repeat (first | with_reducible exact Take.here | apply Take.there))))) (by simp only [maxLen]; omega) (by omega)) ?_ | refine d_finf 12 rfl (by kernel_rfl) (by kernel_rfl) (ef_append_lit (l := C.length) (m := 1) rfl rfl (by repeat (first | exact Split.nil | (apply Split.cons; (repeat (first | with_reducible exact Take.here | apply Take.there))))) (by simp only [maxLen]; omega) (by omega)) ?_
            rintro v52 -
            first | refine swd_factf (fun m h => own_form h) fun ⟨A45, c45, hv45⟩ => ?_ | refine swd_factt (fun m h => own_form h) fun ⟨A45, c45, hv45⟩ => ?_
            subst hv45
            first | refine d_pu 13 rfl (pu_nilCheck rfl) (by kernel_rfl) (by kernel_rfl) (by kernel_rfl) ?_ | refine d_pu 13 rfl (pu_nilCheck_fn rfl) (by kernel_rfl) (by kernel_rfl) (by kernel_rfl) ?_ | refine d_pu 13 rfl (pu_nilCheck_if rfl) (by kernel_rfl) (by kernel_rfl) (by kernel_rfl) ?_
            first | refine d_pu 14 rfl (pu_fieldAddr0 rfl) (by kernel_rfl) (by kernel_rfl) (by kernel_rfl) ?_ | refine d_pu 14 rfl (pu_fieldAddr rfl) (by kernel_rfl) (by kernel_rfl) (by kernel_rfl) ?_
            first | refine d_fin0t 15 rfl (by kernel_rfl) (by kernel_rfl) (ef_store rfl rfl rfl) ?_ | refine d_fin0f 15 rfl (by kernel_rfl) (by kernel_rfl) (ef_store rfl rfl rfl) ?_
            refine d_sub _ (.cons (t := 0) rfl .nil) ?_
            first | refine d_nilt (by kernel_rfl) ?_ | refine d_nilf (by kernel_rfl) ?_
            refine then_n ?_
            refine swp_seq ?_
            refine swp_share_own (μ := μ) (v := .slice A3 c.1.length c3) (e := 3) (n := 1) (by repeat (first | exact Split.nil | (apply Split.cons; (repeat (first | with_reducible exact Take.here | apply Take.there))))) fun μ' hle hrow => ?_
            refine swp_region ?_
            refine s_pu (pu_move rfl) ?_
            first | refine s_pu (pu_nilCheck rfl) ?_ | refine s_pu (pu_nilCheck_fn rfl) ?_ | refine s_pu (pu_nilCheck_if rfl) ?_
            first | refine s_pu (pu_fieldAddr0 rfl) ?_ | refine s_pu (pu_fieldAddr rfl) ?_
            refine s_rd (rd_load rfl rfl) ?_
            refine s_pu (pu_len rfl) ?_
            refine s_pu (pu_sub_as ((C.length : Nat) : Int) rfl rfl (by omega) (by omega) (by omega)) ?_
            refine s_pu (pu_assign rfl) ?_
            refine s_pu (pu_assign rfl) ?_
            refine swl_sub _ (.cons (t := 4) rfl (.cons (t := 5) rfl .nil)) ?_
            refine swl_nil ?_
            refine then_n ?_
            refine swp_ret ?_
            refine done_ret [FSA q (writeD d (2, encC' c)).1, stH p ⟨q, .slice A1 T.length c1, .slice A45 (C.length + 1) c45, T, C ++ [(.slice A3 c.1.length c3, c)], false⟩, ttA ⟨q, .slice A1 T.length c1, .slice A2 C.length c2, T, C, dead⟩, own 48 2 (.slice A45 (C.length + 1) c45) (C.length + 1) (C.flatMap ccs ++ [.slice A3 c.1.length c3, .int .i64 c.2]), ro μ'] (.tmp rfl (.tmp rfl .nil)) ⟨⟨q, .slice A1 T.length c1, .slice A45 (C.length + 1) c45, T, C ++ [(.slice A3 c.1.length c3, c)], false⟩, μ', ⟨hle, SW.Ok.dead (Ok.addC hW0 hle hrow h30') false, rfl, ?_, rfl, rfl⟩, ?_⟩ (by repeat (first | exact Split.nil | (apply Split.cons; (repeat (first | with_reducible exact Take.here | apply Take.there)))))
            · unfold SW.pl; rw [List.map_append]; rfl
            · simp only [ccA, List.length_append, List.length_singleton, List.flatMap_append]; rfl
end SX
namespace SX
open Go Go.Proofs
theorem trees_spec (p : Nat) (W : SW) (μ : PH) (hW : W.Ok μ) : Spec Try.prog 12 [pv p] [stH p W] (fun r L => r = .int .i64 (W.T.length : Nat) ∧ L = [stH p W]) := by
  obtain ⟨⟨A1, c1, e1⟩, ⟨A2, c2, e2⟩, _, _, hT, hC⟩ := hW
  obtain ⟨q, tv, cv, T, C, dead⟩ := W
  dsimp only at e1 e2 hT hC
  subst e1 e2
  refine Spec.of 10 Try.func12 rfl rfl rfl ?_
  refine swp_seq ?_
  refine swp_region ?_
  refine s_pu (pu_assign rfl) ?_
  refine swl_sub _ (.cons (t := 0) rfl .nil) ?_
  refine swl_nil ?_
  refine then_n ?_
  refine swp_seq ?_
  refine swp_seq ?_
  refine swp_region ?_
  refine s_pu (pu_move rfl) ?_
  refine s_pu (pu_ptr_eq_nil rfl rfl) ?_
  refine swl_sub _ (.cons (t := 0) rfl (.cons (t := 4) rfl .nil)) ?_
  refine swl_nil ?_
  refine then_n ?_
  refine swp_cond (b := _) rfl (fun h4 => by cases h4) (fun h4 => ?_)
  refine swp_skip ?_
  refine then_n ?_
  refine swp_seq ?_
  refine swp_region ?_
  refine s_pu (pu_move rfl) ?_
  first | refine s_pu (pu_nilCheck rfl) ?_ | refine s_pu (pu_nilCheck_fn rfl) ?_ | refine s_pu (pu_nilCheck_if rfl) ?_
  first | refine s_pu (pu_fieldAddr0 rfl) ?_ | refine s_pu (pu_fieldAddr rfl) ?_
  refine s_rd (rd_load rfl rfl) ?_
  refine s_pu (pu_len rfl) ?_
  refine s_pu (pu_assign rfl) ?_
  refine swl_sub _ (.cons (t := 2) rfl .nil) ?_
  refine swl_nil ?_
  refine then_n ?_
  refine swp_ret ?_
  exact done_ret [stH p ⟨q, .slice A1 T.length c1, .slice A2 C.length c2, T, C, dead⟩] (.tmp rfl .nil) ⟨rfl, rfl⟩ (by repeat (first | exact Split.nil | (apply Split.cons; (repeat (first | with_reducible exact Take.here | apply Take.there)))))
theorem coms_spec (p : Nat) (W : SW) (μ : PH) (hW : W.Ok μ) : Spec Try.prog 19 [pv p] [stH p W] (fun r L => r = .int .i64 (W.C.length : Nat) ∧ L = [stH p W]) := by
  obtain ⟨⟨A1, c1, e1⟩, ⟨A2, c2, e2⟩, _, _, hT, hC⟩ := hW
  obtain ⟨q, tv, cv, T, C, dead⟩ := W
  dsimp only at e1 e2 hT hC
  subst e1 e2
  refine Spec.of 10 Try.func19 rfl rfl rfl ?_
  refine swp_seq ?_
  refine swp_region ?_
  refine s_pu (pu_assign rfl) ?_
  refine swl_sub _ (.cons (t := 0) rfl .nil) ?_
  refine swl_nil ?_
  refine then_n ?_
  refine swp_seq ?_
  refine swp_seq ?_
  refine swp_region ?_
  refine s_pu (pu_move rfl) ?_
  refine s_pu (pu_ptr_eq_nil rfl rfl) ?_
  refine swl_sub _ (.cons (t := 0) rfl (.cons (t := 4) rfl .nil)) ?_
  refine swl_nil ?_
  refine then_n ?_
  refine swp_cond (b := _) rfl (fun h4 => by cases h4) (fun h4 => ?_)
  refine swp_skip ?_
  refine then_n ?_
  refine swp_seq ?_
  refine swp_region ?_
  refine s_pu (pu_move rfl) ?_
  first | refine s_pu (pu_nilCheck rfl) ?_ | refine s_pu (pu_nilCheck_fn rfl) ?_ | refine s_pu (pu_nilCheck_if rfl) ?_
  first | refine s_pu (pu_fieldAddr0 rfl) ?_ | refine s_pu (pu_fieldAddr rfl) ?_
  refine s_rd (rd_load rfl rfl) ?_
  refine s_pu (pu_len rfl) ?_
  refine s_pu (pu_assign rfl) ?_
  refine swl_sub _ (.cons (t := 2) rfl .nil) ?_
  refine swl_nil ?_
  refine then_n ?_
  refine swp_ret ?_
  exact done_ret [stH p ⟨q, .slice A1 T.length c1, .slice A2 C.length c2, T, C, dead⟩] (.tmp rfl .nil) ⟨rfl, rfl⟩ (by repeat (first | exact Split.nil | (apply Split.cons; (repeat (first | with_reducible exact Take.here | apply Take.there)))))
end SX
namespace SX
open Go Go.Proofs
end SX
namespace SX
open Go Go.Proofs
end SX
namespace SX
open Go Go.Proofs
end SX
namespace SX
open Go Go.Proofs
end SX
namespace SX
open Go Go.Proofs
end SX
namespace SX
open Go Go.Proofs
/-! ## the document's first example -/
abbrev hel : List UInt8 := [104, 101, 108, 108, 111]
end SX
namespace SX
open Go Go.Proofs
/-! ## the document's disk -/
end SX
namespace SX
open Go Go.Proofs
/-- what the number of a name's file is, or the error -/
def FileR (d : Dk) (s : ByteArray) (k e : Int) : Prop := (e ≠ 0 ∧ readD d s = ([], e) ∧ ∀ f, onFile d s f = (d, e)) ∨ (e = 0 ∧ ∃ j : Nat, k = (j : Int) ∧ findN d.seen s = some j ∧ readD d s = ((d.fl j).bytes, 0) ∧ ∀ f, onFile d s f = f j)
end SX
namespace SX
open Go Go.Proofs
end SX
namespace SX
open Go Go.Proofs
end SX
namespace SX
open Go Go.Proofs
theorem FileR.ok {d : Dk} {s : ByteArray} {k e : Int} (h : FileR d s k e) (he : e = 0) : ∃ j : Nat, k = (j : Int) ∧ findN d.seen s = some j ∧ readD d s = ((d.fl j).bytes, 0) ∧ ∀ f, onFile d s f = f j := by
  rcases h with ⟨h, _⟩ | ⟨_, h⟩
  · exact absurd he h
  · exact h
end SX
namespace SX
open Go Go.Proofs
end SX
namespace SX
open Go Go.Proofs
end SX
namespace SX
open Go Go.Proofs
def settle2 (d : Dk) (n len : Nat) : Dk × Int := if (cutRest d n len).2 ≠ 0 then cutRest d n len else syncD (cutRest d n len).1 logN
theorem settle_two (d : Dk) (n len : Nat) : settleD d n len = if (settle2 d n len).2 ≠ 0 then settle2 d n len else syncNamesD (settle2 d n len).1 := by
  unfold settleD settle2
  by_cases h : (cutRest d n len).2 ≠ 0
  · rw [if_pos h, if_pos h, if_pos h]
  · rw [if_neg h, if_neg h]
theorem cutRest_ok {d : Dk} (hd : d.Ok) (n len : Nat) : (cutRest d n len).1.Ok := by
  unfold cutRest
  split
  · exact hd
  · exact cutD_ok hd _ _
theorem settle2_ok {d : Dk} (hd : d.Ok) (n len : Nat) : (settle2 d n len).1.Ok := by
  unfold settle2
  split
  · exact cutRest_ok hd n len
  · exact syncD_ok (cutRest_ok hd n len) _
end SX
namespace SX
open Go Go.Proofs
end SX
namespace SX
open Go Go.Proofs
end SX
namespace SX
open Go Go.Proofs
end SX
namespace SX
open Go Go.Proofs
end SX
namespace SX
open Go Go.Proofs
theorem pl_len1 (W : SW) : W.pl.1.length = W.T.length := List.length_map _
theorem pl_len2 (W : SW) : W.pl.2.length = W.C.length := List.length_map _
end SX
namespace SX
open Go Go.Proofs
/-- a disk with a log alone -/
abbrev lg (q : Int) (B : List UInt8) : Dk := one1 q logN ⟨B, B.length⟩ 0 false
theorem lg_write {q : Int} {B : List UInt8} {f : Fm} (h : (B.length : Int) + ((f.2.length + 9 : Nat) : Int) ≤ q) : writeD (lg q B) f = (lg q (B ++ encFm f), 0) := by
  have e : appendD (lg q B) logN (encFm f) = (one1 q logN ⟨B ++ encFm f, B.length⟩ 0 false, 0) := by
    rw [one_append (by show (B.length : Int) + (encFm f).length ≤ q; rw [encFm_len]; exact h)]; rfl
  unfold writeD
  rw [e, if_neg (fun k => k rfl)]
  rw [one_sync]
theorem lg_open (q : Int) : openD (newD q) = (lg q [], 0) := by
  have e1 : readD (newD q) logN = ([], 6) := rfl
  have e2 : createD (newD q) logN = (⟨q, [⟨[], 0⟩], [(logN, 0)], [], [⟨nos, logN, 0⟩], 0, false⟩, 0) := by kernel_rfl
  have e3 : freshD (newD q) = (lg q [], 0) := by
    unfold freshD
    rw [e2, if_neg (fun k => k rfl)]
    rfl
  unfold openD
  rw [e1, if_pos rfl]
  exact e3
theorem lg_openS (q : Int) : openS (newD q) = ([], []) := by
  have e1 : readD (newD q) logN = ([], 6) := rfl
  unfold openS
  rw [e1]
  rfl
theorem lg_addT {q : Int} {B : List UInt8} {s : St2} {t : List En} (h0 : encErr t = 0) (hn : s.1.length < 65536) (h : (B.length : Int) + (((encT t).length + 9 : Nat) : Int) ≤ q) :
    addT ⟨lg q B, s, false⟩ t = ((⟨lg q (B ++ encFm (1, encT t)), (s.1 ++ [t], s.2), false⟩ : PSt), ((s.1.length : Nat) : Int), (0 : Int)) := by
  have hw := lg_write (f := (1, encT t)) h
  unfold addT
  rw [addR_ok (x := ⟨lg q B, s, false⟩) rfl h0 hn (by rw [hw])]
  rw [hw]
theorem lg_addC {q : Int} {B : List UInt8} {s : St2} {c : Cm} (h0 : checkC c = 0) (h1 : knownS s.1.length s.2.length c = true) (hn : s.2.length < 65536) (h : (B.length : Int) + (((encC' c).length + 9 : Nat) : Int) ≤ q) :
    addC ⟨lg q B, s, false⟩ c = ((⟨lg q (B ++ encFm (2, encC' c)), (s.1, s.2 ++ [c]), false⟩ : PSt), ((s.2.length : Nat) : Int), (0 : Int)) := by
  have hw := lg_write (f := (2, encC' c)) h
  unfold addC
  rw [addR_ok (x := ⟨lg q B, s, false⟩) rfl (by rw [if_neg (not_not_intro h0), if_neg (by rw [h1]; decide)]) hn (by rw [hw])]
  rw [hw]
theorem settle_ok {d : Dk} (hd : d.Ok) (n len : Nat) : (settleD d n len).1.Ok := by
  rw [settle_two]
  split
  · exact settle2_ok hd n len
  · exact syncNamesD_ok (settle2_ok hd n len)
theorem fresh_ok {d : Dk} (hd : d.Ok) : (freshD d).1.Ok := by
  unfold freshD
  split
  · exact createD_ok hd _
  · exact syncNamesD_ok (createD_ok hd _)
theorem open_ok {d : Dk} (hd : d.Ok) : (openD d).1.Ok := by
  unfold openD
  split
  · exact fresh_ok hd
  · split
    · exact hd
    · exact settle_ok hd _ _
theorem addR_okD {x : PSt} {e0 : Int} {n : Nat} {f : Fm} {s' : St2} (h : x.d.Ok) : (addR x e0 n f s').1.d.Ok := by
  unfold addR
  repeat' split
  · exact h
  · exact h
  · exact h
  · exact writeD_ok h f
  · exact writeD_ok h f
theorem addT_ok {x : PSt} (h : x.d.Ok) (t : List En) : (addT x t).1.d.Ok := addR_okD h
theorem addC_ok {x : PSt} (h : x.d.Ok) (c : Cm) : (addC x c).1.d.Ok := addR_okD h
abbrev ta1 : List En := [(⟨#[97]⟩, 1)]
theorem ta1_err : encErr ta1 = 0 := by decide
theorem ta1_len : (encT ta1).length ≤ 300 := by
  have := encEs_len [] ta1 (fun e he => (check_paths (t := ta1) (by decide) e he).1)
  unfold encT
  rw [List.length_append, numB_len]
  have h1 : ta1.length = 1 := rfl
  omega
theorem encC_fit (c : Cm) (h : c.1.length ≤ 1) : (encC' c).length ≤ 9 := by
  unfold encC'
  simp only [List.length_append, numB_len, encPs_len]
  omega
theorem u32_ta1 : U32s ta1 := fun e he => by
  obtain rfl : e = (⟨#[97]⟩, 1) := by simpa using he
  exact ⟨by decide, by decide⟩
set_option maxHeartbeats 8000000 in
theorem opens_spec : Spec Try.prog 5 [] [] (fun r L => r = .bool true ∧ L = []) := by
  have hn0 : (newD 1000).Ok := newD_ok (by decide)
  have ho0 : (lg 1000 []).Ok := by have := open_ok hn0; rwa [lg_open] at this
  have hl1 := ta1_len
  have a1 := lg_addT (q := 1000) (B := []) (s := ([], [])) ta1_err (by decide) (by have := ta1_len; show (0 : Int) + _ ≤ 1000; omega)
  have b1 := encFm_len (1, encT ta1)
  generalize hB1 : ([] : List UInt8) ++ encFm (1, encT ta1) = B1 at a1
  have b1' : B1.length ≤ 309 := by rw [← hB1, List.nil_append, b1]; show (encT ta1).length + 9 ≤ 309; omega
  have ho1 : (lg 1000 B1).Ok := by have := addT_ok (x := ⟨lg 1000 [], ([], []), false⟩) ho0 ta1; rwa [a1] at this
  have a2 := lg_addC (q := 1000) (B := B1) (s := ([ta1], [])) (c := ([], 0)) (by decide) (by decide) (by decide) (by have := encC_fit ([], 0) (by decide); omega)
  generalize hB2 : B1 ++ encFm (2, encC' ([], 0)) = B2 at a2
  have b2' : B2.length ≤ 327 := by rw [← hB2, List.length_append, encFm_len]; have := encC_fit ([], 0) (by decide); show B1.length + ((encC' ([], 0)).length + 9) ≤ 327; omega
  have ho2 : (lg 1000 B2).Ok := by have := addC_ok (x := ⟨lg 1000 B1, ([ta1], []), false⟩) ho1 ([], 0); rwa [a2] at this
  have a3 := lg_addC (q := 1000) (B := B2) (s := ([ta1], [([], 0)])) (c := ([0], 0)) (by decide) (by decide) (by decide) (by have := encC_fit ([0], 0) (by decide); omega)
  generalize hB3 : B2 ++ encFm (2, encC' ([0], 0)) = B3 at a3
  have ho3 : (lg 1000 B3).Ok := by have := addC_ok (x := ⟨lg 1000 B2, ([ta1], [([], 0)]), false⟩) ho2 ([0], 0); rwa [a3] at this
  have a4 : addC ⟨lg 1000 B3, ([ta1], [([], 0), ([0], 0)]), false⟩ ([2], 0) = ((⟨lg 1000 B3, ([ta1], [([], 0), ([0], 0)]), false⟩ : PSt), (0 : Int), (9 : Int)) := by
    unfold addC
    exact addR_err rfl (by show (if checkC (([2], 0) : Cm) ≠ 0 then checkC (([2], 0) : Cm) else if knownS 1 2 (([2], 0) : Cm) = false then 9 else 0) ≠ 0; decide)
  refine Spec.of 90 Try.func5 rfl rfl rfl ?_
  refine swp_ent ent_roZ ?_
  generalize (fun _ => none : PH) = μ
  refine swp_seq ?_
  refine swp_region ?_
  refine s_pu (pu_assign rfl) ?_
  refine swl_sub _ .nil ?_
  refine swl_nil ?_
  refine then_n ?_
  refine swp_seq ?_
  refine swp_region ?_
  refine s_ef (ef_fn (new_spec 1000) rfl rfl (by repeat (first | exact Split.nil | (apply Split.cons; (repeat (first | with_reducible exact Take.here | apply Take.there)))))) ?_
  rintro v13 L1 hnw
  obtain ⟨q, rfl, rfl⟩ : ∃ q, v13 = .tuple #[pv q, .int .i64 0] ∧ L1 = [FSA q (newD 1000)] := by
    rcases hnw with ⟨h, _⟩ | ⟨_, q, h1, h2⟩
    · exact absurd (show newOk 1000 from ⟨by decide, by decide⟩) h
    · exact ⟨q, h1, h2⟩
  refine swl_app ?_
  refine s_pu (pu_move rfl) ?_
  first | refine s_pu (pu_extractL rfl) ?_ | refine s_pu (pu_extract rfl rfl) ?_
  first | refine s_pu (pu_extractL rfl) ?_ | refine s_pu (pu_extract rfl rfl) ?_
  refine s_pu (pu_assign rfl) ?_
  refine s_pu (pu_assign rfl) ?_
  refine swl_sub _ (.cons (t := 1) rfl .nil) ?_
  refine swl_nil ?_
  refine then_n ?_
  refine swp_seq ?_
  refine swp_region ?_
  refine s_pu (pu_move rfl) ?_
  refine s_ef (ef_fn (open_spec μ q (newD 1000) hn0 ⟨by decide, by decide⟩) rfl rfl (by repeat (first | exact Split.nil | (apply Split.cons; (repeat (first | with_reducible exact Take.here | apply Take.there)))))) ?_
  rintro v18 L1 ⟨p, W0, μ0, e, hq, rfl, rfl⟩
  obtain ⟨l0, hW0, hq0, hd0, he, hpl⟩ := hq
  rw [lg_open] at he
  have he' : e = 0 := he
  subst he'
  have hpl0 : W0.pl = ([], []) := by rw [hpl rfl, lg_openS]
  rw [if_pos rfl, lg_open, ← hq0]
  refine swl_app ?_
  refine s_pu (pu_move rfl) ?_
  first | refine s_pu (pu_extractL rfl) ?_ | refine s_pu (pu_extract rfl rfl) ?_
  first | refine s_pu (pu_extractL rfl) ?_ | refine s_pu (pu_extract rfl rfl) ?_
  refine s_pu (pu_assign rfl) ?_
  refine s_pu (pu_assign rfl) ?_
  refine swl_sub _ (.cons (t := 3) rfl (.cons (t := 4) rfl .nil)) ?_
  refine swl_nil ?_
  refine then_n ?_
  refine swp_seq ?_
  refine swp_seq ?_
  refine swp_region ?_
  refine s_pu (pu_move rfl) ?_
  refine s_pu (pu_ptr_eq_nil rfl rfl) ?_
  refine s_pu (pu_move rfl) ?_
  refine s_split 23 rfl (fun h23 => by cases h23) (fun h23 => ?_)
  refine s_on rfl rfl ?_
  refine s_pu (pu_move rfl) ?_
  refine s_on rfl rfl ?_
  refine s_pu (pu_neq rfl rfl) ?_
  first | refine s_pu (pu_pick_t rfl rfl) ?_ | refine s_pu (pu_pick_f rfl rfl) ?_
  refine swl_sub _ (.cons (t := 3) rfl (.cons (t := 26) rfl .nil)) ?_
  refine swl_nil ?_
  refine then_n ?_
  refine swp_cond (b := _) rfl (fun h26 => by cases h26) (fun h26 => ?_)
  refine swp_skip ?_
  refine then_n ?_
  refine swp_seq ?_
  refine swp_region ?_
  refine s_pu (pu_move rfl) ?_
  refine s_pu (pu_bld (qs := [(0, _), (1, _)]) rfl) ?_
  refine s_ef (ef_bldS (qs := [(0, _)]) rfl rfl rfl) ?_
  intro b30
  refine swl_share (b := b30) (μ := μ0) (by repeat (first | exact Split.nil | (apply Split.cons; (repeat (first | with_reducible exact Take.here | apply Take.there))))) fun μ1 l1 k1 => ?_
  have r1 := row_of_blk (n := 2) (l := 1) (cs := ens ta1) k1 (by rfl) (by decide)
  refine s_ef (ef_fn (addtree_spec μ1 p W0 (hW0.le l1) (lg 1000 []) ho0 (.slice (some ⟨b30, 0, none⟩) 1 1) ta1 r1 u32_ta1) rfl rfl (by repeat (first | exact Split.nil | (apply Split.cons; (repeat (first | with_reducible exact Take.here | apply Take.there)))))) ?_
  rintro v31 L1 ⟨W1, μ2, hq1, rfl⟩
  rw [hpl0, hd0, a1] at hq1
  rw [hpl0, hd0, a1]
  obtain ⟨l2, hW1, hqq1, hp1, hd1, rfl⟩ := hq1
  refine swl_app ?_
  replace hp1 : W1.pl = (([ta1], []) : St2) := hp1
  replace hd1 : W1.dead = false := hd1
  refine s_pu (pu_move rfl) ?_
  first | refine s_pu (pu_extractL rfl) ?_ | refine s_pu (pu_extract rfl rfl) ?_
  first | refine s_pu (pu_extractL rfl) ?_ | refine s_pu (pu_extract rfl rfl) ?_
  refine s_pu (pu_assign rfl) ?_
  refine s_pu (pu_assign rfl) ?_
  refine swl_sub _ (.cons (t := 3) rfl (.cons (t := 4) rfl (.cons (t := 5) rfl .nil))) ?_
  refine swl_nil ?_
  refine then_n ?_
  refine swp_seq ?_
  refine swp_region ?_
  refine s_pu (pu_move rfl) ?_
  refine s_pu (pu_bld (qs := []) rfl) ?_
  refine s_ef (ef_fn (addcommit_spec μ2 p W1 hW1 (lg 1000 B1) ho1 (.slice none 0 0) ([], 0) (Row.nil _ _)) rfl rfl (by repeat (first | exact Split.nil | (apply Split.cons; (repeat (first | with_reducible exact Take.here | apply Take.there)))))) ?_
  rintro v37 L1 ⟨W2, μ3, hq2, rfl⟩
  rw [hp1, hd1, a2] at hq2
  rw [hp1, hd1, a2]
  obtain ⟨l3, hW2, hqq2, hp2, hd2, rfl⟩ := hq2
  refine swl_app ?_
  replace hp2 : W2.pl = (([ta1], [([], 0)]) : St2) := hp2
  replace hd2 : W2.dead = false := hd2
  refine s_pu (pu_move rfl) ?_
  first | refine s_pu (pu_extractL rfl) ?_ | refine s_pu (pu_extract rfl rfl) ?_
  first | refine s_pu (pu_extractL rfl) ?_ | refine s_pu (pu_extract rfl rfl) ?_
  refine s_pu (pu_assign rfl) ?_
  refine s_pu (pu_assign rfl) ?_
  refine swl_sub _ (.cons (t := 3) rfl (.cons (t := 4) rfl (.cons (t := 5) rfl (.cons (t := 6) rfl (.cons (t := 7) rfl .nil))))) ?_
  refine swl_nil ?_
  refine then_n ?_
  refine swp_seq ?_
  refine swp_region ?_
  refine s_pu (pu_move rfl) ?_
  refine s_ef (ef_bldS (qs := [(0, _)]) rfl rfl rfl) ?_
  intro b42
  refine s_pu (pu_bld (qs := [(0, _)]) rfl) ?_
  refine swl_share (b := b42) (μ := μ3) (by repeat (first | exact Split.nil | (apply Split.cons; (repeat (first | with_reducible exact Take.here | apply Take.there))))) fun μ4 l4 k4 => ?_
  have r4 := row_of_blk (n := 1) (l := 1) (cs := ([0] : List Int).flatMap (icsk .i64)) k4 (by rfl) (by decide)
  refine s_ef (ef_fn (addcommit_spec μ4 p W2 (hW2.le l4) (lg 1000 B2) ho2 (.slice (some ⟨b42, 0, none⟩) 1 1) ([0], 0) r4) rfl rfl (by repeat (first | exact Split.nil | (apply Split.cons; (repeat (first | with_reducible exact Take.here | apply Take.there)))))) ?_
  rintro v44 L1 ⟨W3, μ5, hq3, rfl⟩
  rw [hp2, hd2, a3] at hq3
  rw [hp2, hd2, a3]
  obtain ⟨l5, hW3, hqq3, hp3, hd3, rfl⟩ := hq3
  refine swl_app ?_
  replace hp3 : W3.pl = (([ta1], [([], 0), ([0], 0)]) : St2) := hp3
  replace hd3 : W3.dead = false := hd3
  refine s_pu (pu_move rfl) ?_
  first | refine s_pu (pu_extractL rfl) ?_ | refine s_pu (pu_extract rfl rfl) ?_
  first | refine s_pu (pu_extractL rfl) ?_ | refine s_pu (pu_extract rfl rfl) ?_
  refine s_pu (pu_assign rfl) ?_
  refine s_pu (pu_assign rfl) ?_
  refine swl_sub _ (.cons (t := 3) rfl (.cons (t := 4) rfl (.cons (t := 5) rfl (.cons (t := 6) rfl (.cons (t := 7) rfl (.cons (t := 8) rfl (.cons (t := 9) rfl .nil))))))) ?_
  refine swl_nil ?_
  refine then_n ?_
  refine swp_seq ?_
  refine swp_region ?_
  refine s_pu (pu_move rfl) ?_
  refine s_ef (ef_bldS (qs := [(0, _)]) rfl rfl rfl) ?_
  intro b49
  refine s_pu (pu_bld (qs := [(0, _)]) rfl) ?_
  refine swl_share (b := b49) (μ := μ5) (by repeat (first | exact Split.nil | (apply Split.cons; (repeat (first | with_reducible exact Take.here | apply Take.there))))) fun μ6 l6 k6 => ?_
  have r6 := row_of_blk (n := 1) (l := 1) (cs := ([2] : List Int).flatMap (icsk .i64)) k6 (by rfl) (by decide)
  refine s_ef (ef_fn (addcommit_spec μ6 p W3 (hW3.le l6) (lg 1000 B3) ho3 (.slice (some ⟨b49, 0, none⟩) 1 1) ([2], 0) r6) rfl rfl (by repeat (first | exact Split.nil | (apply Split.cons; (repeat (first | with_reducible exact Take.here | apply Take.there)))))) ?_
  rintro v51 L1 ⟨W4, μ7, hq4, rfl⟩
  rw [hp3, hd3] at hq4
  rw [a4] at hq4
  obtain ⟨l7, hW4, hqq4, hp4, hd4, rfl⟩ := hq4
  refine swl_app ?_
  replace hp4 : W4.pl = (([ta1], [([], 0), ([0], 0)]) : St2) := hp4
  have hC4 : W4.C.length = 2 := by rw [← pl_len2, hp4]; rfl
  have hT4 : W4.T.length = 1 := by rw [← pl_len1, hp4]; rfl
  refine s_pu (pu_move rfl) ?_
  first | refine s_pu (pu_extractL rfl) ?_ | refine s_pu (pu_extract rfl rfl) ?_
  first | refine s_pu (pu_extractL rfl) ?_ | refine s_pu (pu_extract rfl rfl) ?_
  refine s_pu (pu_assign rfl) ?_
  refine s_pu (pu_assign rfl) ?_
  refine swl_sub _ (.cons (t := 3) rfl (.cons (t := 4) rfl (.cons (t := 5) rfl (.cons (t := 6) rfl (.cons (t := 7) rfl (.cons (t := 8) rfl (.cons (t := 9) rfl (.cons (t := 11) rfl .nil)))))))) ?_
  refine swl_nil ?_
  refine then_n ?_
  refine swp_seq ?_
  refine swp_region ?_
  refine s_pu (pu_move rfl) ?_
  refine s_pu (pu_eql rfl rfl) ?_
  refine s_pu (pu_move rfl) ?_
  refine s_split 56 rfl (fun h56 => ?_) (fun h56 => by cases h56)
  refine s_on rfl rfl ?_
  refine s_pu (pu_move rfl) ?_
  refine s_on rfl rfl ?_
  refine s_pu (pu_eql rfl rfl) ?_
  first | refine s_pu (pu_pick_t rfl rfl) ?_ | refine s_pu (pu_pick_f rfl rfl) ?_
  refine s_pu (pu_move rfl) ?_
  refine s_split 60 rfl (fun h60 => ?_) (fun h60 => by cases h60)
  refine s_on rfl rfl ?_
  refine s_pu (pu_move rfl) ?_
  refine s_on rfl rfl ?_
  refine s_pu (pu_eql rfl rfl) ?_
  first | refine s_pu (pu_pick_t rfl rfl) ?_ | refine s_pu (pu_pick_f rfl rfl) ?_
  refine s_pu (pu_move rfl) ?_
  refine s_split 64 rfl (fun h64 => ?_) (fun h64 => by cases h64)
  refine s_on rfl rfl ?_
  refine s_pu (pu_move rfl) ?_
  refine s_on rfl rfl ?_
  refine s_pu (pu_eql rfl rfl) ?_
  first | refine s_pu (pu_pick_t rfl rfl) ?_ | refine s_pu (pu_pick_f rfl rfl) ?_
  refine s_pu (pu_move rfl) ?_
  refine s_split 68 rfl (fun h68 => ?_) (fun h68 => by cases h68)
  refine s_on rfl rfl ?_
  refine s_pu (pu_move rfl) ?_
  refine s_on rfl rfl ?_
  refine s_pu (pu_eql rfl rfl) ?_
  first | refine s_pu (pu_pick_t rfl rfl) ?_ | refine s_pu (pu_pick_f rfl rfl) ?_
  refine s_pu (pu_move rfl) ?_
  refine s_split 72 rfl (fun h72 => ?_) (fun h72 => by cases h72)
  refine s_on rfl rfl ?_
  refine s_pu (pu_move rfl) ?_
  refine s_on rfl rfl ?_
  refine s_pu (pu_eql rfl rfl) ?_
  first | refine s_pu (pu_pick_t rfl rfl) ?_ | refine s_pu (pu_pick_f rfl rfl) ?_
  refine s_pu (pu_move rfl) ?_
  refine s_split 76 rfl (fun h76 => ?_) (fun h76 => by cases h76)
  refine s_on rfl rfl ?_
  refine s_pu (pu_move rfl) ?_
  refine s_on rfl rfl ?_
  refine s_pu (pu_eql rfl rfl) ?_
  first | refine s_pu (pu_pick_t rfl rfl) ?_ | refine s_pu (pu_pick_f rfl rfl) ?_
  refine s_pu (pu_move rfl) ?_
  refine s_split 80 rfl (fun h80 => ?_) (fun h80 => by cases h80)
  refine s_on rfl rfl ?_
  refine s_pu (pu_move rfl) ?_
  refine s_on rfl rfl ?_
  refine s_ef (ef_fn (coms_spec p W4 μ7 hW4) rfl rfl (by repeat (first | exact Split.nil | (apply Split.cons; (repeat (first | with_reducible exact Take.here | apply Take.there)))))) ?_
  rintro v82 L1 ⟨rfl, rfl⟩
  refine swl_app ?_
  refine s_on rfl rfl ?_
  refine s_pu (pu_eql rfl rfl) ?_
  first | refine s_pu (pu_pick_t rfl rfl) ?_ | refine s_pu (pu_pick_f rfl rfl) ?_
  refine s_pu (pu_move rfl) ?_
  refine s_split 85 rfl (fun h85 => ?_) (fun h85 => by rw [hC4] at h85; cases h85)
  refine s_on rfl rfl ?_
  refine s_pu (pu_move rfl) ?_
  refine s_on rfl rfl ?_
  refine s_ef (ef_fn (trees_spec p W4 μ7 hW4) rfl rfl (by repeat (first | exact Split.nil | (apply Split.cons; (repeat (first | with_reducible exact Take.here | apply Take.there)))))) ?_
  rintro v87 L1 ⟨rfl, rfl⟩
  refine swl_app ?_
  refine s_on rfl rfl ?_
  refine s_pu (pu_eql rfl rfl) ?_
  first | refine s_pu (pu_pick_t rfl rfl) ?_ | refine s_pu (pu_pick_f rfl rfl) ?_
  refine s_pu (pu_assign rfl) ?_
  refine swl_sub _ (.cons (t := 0) rfl .nil) ?_
  refine swl_nil ?_
  refine then_n ?_
  refine swp_ret ?_
  exact done_ret [] (.tmp rfl .nil) ⟨by rw [hT4]; rfl, rfl⟩ (by repeat (first | exact Split.nil | (apply Split.cons; (repeat (first | with_reducible exact Take.here | apply Take.there)))))
end SX
namespace SX
open Go Go.Proofs
theorem nopen : Spec Try.prog 7 [.pointer none] [] (fun r L => r = .tuple #[.pointer none, .int .i64 1] ∧ L = []) := by
  refine Spec.of 34 Try.func7 rfl rfl rfl ?_
  refine swp_seq ?_
  refine swp_region ?_
  refine s_ef (ef_box rfl rfl) ?_
  intro b1
  refine s_pu (pu_assign rfl) ?_
  refine s_pu (pu_assign rfl) ?_
  refine swl_sub _ (.cons (t := 1) rfl .nil) ?_
  refine swl_nil ?_
  refine then_n ?_
  refine swp_seq ?_
  refine swp_seq ?_
  refine swp_region ?_
  refine s_rd (rd_load rfl rfl) ?_
  refine s_pu (pu_ptr_eq_nil rfl rfl) ?_
  refine swl_sub _ (.cons (t := 1) rfl (.cons (t := 8) rfl .nil)) ?_
  refine swl_nil ?_
  refine then_n ?_
  refine swp_cond (b := _) rfl (fun h8 => ?_) (fun h8 => by cases h8)
  refine swp_seq ?_
  refine swp_region ?_
  refine s_pu (pu_assign rfl) ?_
  refine s_pu (pu_assign rfl) ?_
  refine swl_sub _ (.cons (t := 2) rfl (.cons (t := 3) rfl .nil)) ?_
  refine swl_nil ?_
  refine then_n ?_
  refine swp_ret ?_
  refine then_r ?_
  exact done_ret [] (.tmp rfl (.tmp rfl .nil)) ⟨rfl, rfl⟩ (by repeat (first | exact Split.nil | (apply Split.cons; (repeat (first | with_reducible exact Take.here | apply Take.there)))))
theorem nsopen : Spec Try.prog 34 [.pointer none] [] (fun r L => r = .int .i64 1 ∧ L = []) := by
  refine Spec.of 11 Try.func34 rfl rfl rfl ?_
  refine swp_seq ?_
  refine swp_region ?_
  refine s_pu (pu_assign rfl) ?_
  refine swl_sub _ (.cons (t := 0) rfl .nil) ?_
  refine swl_nil ?_
  refine then_n ?_
  refine swp_seq ?_
  refine swp_block ?_
  refine swp_seq ?_
  refine swp_region ?_
  refine s_pu (pu_move rfl) ?_
  refine s_pu (pu_ptr_eq_nil rfl rfl) ?_
  refine s_pu (pu_assign rfl) ?_
  refine swl_sub _ (.cons (t := 0) rfl (.cons (t := 3) rfl .nil)) ?_
  refine swl_nil ?_
  refine then_n ?_
  refine swp_cond (b := _) rfl (fun h3 => ?_) (fun h3 => by cases h3)
  refine swp_seq ?_
  refine swp_region ?_
  refine s_pu (pu_assign rfl) ?_
  refine swl_sub _ (.cons (t := 2) rfl .nil) ?_
  refine swl_nil ?_
  refine then_n ?_
  refine swp_ret ?_
  refine block_r ?_
  refine then_r ?_
  exact done_ret [] (.tmp rfl .nil) ⟨rfl, rfl⟩ (by repeat (first | exact Split.nil | (apply Split.cons; (repeat (first | with_reducible exact Take.here | apply Take.there)))))
theorem ntrees : Spec Try.prog 12 [.pointer none] [] (fun r L => r = .int .i64 0 ∧ L = []) := by
  refine Spec.of 10 Try.func12 rfl rfl rfl ?_
  refine swp_seq ?_
  refine swp_region ?_
  refine s_pu (pu_assign rfl) ?_
  refine swl_sub _ (.cons (t := 0) rfl .nil) ?_
  refine swl_nil ?_
  refine then_n ?_
  refine swp_seq ?_
  refine swp_seq ?_
  refine swp_region ?_
  refine s_pu (pu_move rfl) ?_
  refine s_pu (pu_ptr_eq_nil rfl rfl) ?_
  refine swl_sub _ (.cons (t := 0) rfl (.cons (t := 4) rfl .nil)) ?_
  refine swl_nil ?_
  refine then_n ?_
  refine swp_cond (b := _) rfl (fun h4 => ?_) (fun h4 => by cases h4)
  refine swp_seq ?_
  refine swp_region ?_
  refine s_pu (pu_assign rfl) ?_
  refine swl_sub _ (.cons (t := 2) rfl .nil) ?_
  refine swl_nil ?_
  refine then_n ?_
  refine swp_ret ?_
  refine then_r ?_
  exact done_ret [] (.tmp rfl .nil) ⟨rfl, rfl⟩ (by repeat (first | exact Split.nil | (apply Split.cons; (repeat (first | with_reducible exact Take.here | apply Take.there)))))
theorem ncommits : Spec Try.prog 19 [.pointer none] [] (fun r L => r = .int .i64 0 ∧ L = []) := by
  refine Spec.of 10 Try.func19 rfl rfl rfl ?_
  refine swp_seq ?_
  refine swp_region ?_
  refine s_pu (pu_assign rfl) ?_
  refine swl_sub _ (.cons (t := 0) rfl .nil) ?_
  refine swl_nil ?_
  refine then_n ?_
  refine swp_seq ?_
  refine swp_seq ?_
  refine swp_region ?_
  refine s_pu (pu_move rfl) ?_
  refine s_pu (pu_ptr_eq_nil rfl rfl) ?_
  refine swl_sub _ (.cons (t := 0) rfl (.cons (t := 4) rfl .nil)) ?_
  refine swl_nil ?_
  refine then_n ?_
  refine swp_cond (b := _) rfl (fun h4 => ?_) (fun h4 => by cases h4)
  refine swp_seq ?_
  refine swp_region ?_
  refine s_pu (pu_assign rfl) ?_
  refine swl_sub _ (.cons (t := 2) rfl .nil) ?_
  refine swl_nil ?_
  refine then_n ?_
  refine swp_ret ?_
  refine then_r ?_
  exact done_ret [] (.tmp rfl .nil) ⟨rfl, rfl⟩ (by repeat (first | exact Split.nil | (apply Split.cons; (repeat (first | with_reducible exact Take.here | apply Take.there)))))
theorem ndead : Spec Try.prog 13 [.pointer none] [] (fun r L => r = .bool false ∧ L = []) := by
  refine Spec.of 11 Try.func13 rfl rfl rfl ?_
  refine swp_seq ?_
  refine swp_region ?_
  refine s_pu (pu_assign rfl) ?_
  refine swl_sub _ (.cons (t := 0) rfl .nil) ?_
  refine swl_nil ?_
  refine then_n ?_
  refine swp_seq ?_
  refine swp_region ?_
  refine s_pu (pu_move rfl) ?_
  refine s_pu (pu_ptr_ne_nil rfl rfl) ?_
  refine s_pu (pu_move rfl) ?_
  refine s_off rfl rfl rfl ?_
  refine s_off rfl rfl rfl ?_
  refine s_off rfl rfl rfl ?_
  refine s_off rfl rfl rfl ?_
  first | refine s_pu (pu_pick_t rfl rfl) ?_ | refine s_pu (pu_pick_f rfl rfl) ?_
  refine s_pu (pu_assign rfl) ?_
  refine swl_sub _ (.cons (t := 2) rfl .nil) ?_
  refine swl_nil ?_
  refine then_n ?_
  refine swp_ret ?_
  exact done_ret [] (.tmp rfl .nil) ⟨rfl, rfl⟩ (by repeat (first | exact Split.nil | (apply Split.cons; (repeat (first | with_reducible exact Take.here | apply Take.there)))))
theorem ngraph : Spec Try.prog 20 [.pointer none] [] (fun r L => r = .slice none 0 0 ∧ L = []) := by
  refine Spec.of 24 Try.func20 rfl rfl rfl ?_
  refine swp_seq ?_
  refine swp_region ?_
  refine s_pu (pu_assign rfl) ?_
  refine swl_sub _ (.cons (t := 0) rfl .nil) ?_
  refine swl_nil ?_
  refine then_n ?_
  refine swp_seq ?_
  refine swp_region ?_
  refine s_pu (pu_assign rfl) ?_
  refine swl_sub _ (.cons (t := 0) rfl (.cons (t := 3) rfl .nil)) ?_
  refine swl_nil ?_
  refine then_n ?_
  refine swp_seq ?_
  refine swp_seq ?_
  refine swp_region ?_
  refine s_pu (pu_move rfl) ?_
  refine s_ef (ef_fn ncommits rfl rfl (by repeat (first | exact Split.nil | (apply Split.cons; (repeat (first | with_reducible exact Take.here | apply Take.there)))))) ?_
  rintro v6 L1 ⟨rfl, rfl⟩
  refine swl_app ?_
  refine s_pu (pu_move rfl) ?_
  refine swl_sub _ (.cons (t := 0) rfl (.cons (t := 3) rfl (.cons (t := 6) rfl (.cons (t := 7) rfl .nil)))) ?_
  refine swl_nil ?_
  refine then_n ?_
  refine swp_block ?_
  refine swp_loop (ι := Unit) (fun _ env L => Sub env [(0, .pointer none), (3, .slice none 0 0), (6, .int .i64 0), (7, .int .i64 0)] ∧ Ent L []) (fun _ => 0) () ⟨⟨rfl, rfl, rfl, rfl, trivial⟩, Split.ent' (by repeat (first | exact Split.nil | (apply Split.cons; (repeat (first | with_reducible exact Take.here | apply Take.there)))))⟩ ?_
  rintro _ env L ⟨hsub, hE⟩
  refine swp_sub _ hsub ?_
  refine swp_ent hE ?_
  clear hsub hE env L
  refine swp_seq ?_
  refine swp_region ?_
  refine s_pu (pu_lss rfl rfl) ?_
  refine swl_sub _ (.cons (t := 0) rfl (.cons (t := 3) rfl (.cons (t := 6) rfl (.cons (t := 7) rfl (.cons (t := 8) rfl .nil))))) ?_
  refine swl_nil ?_
  refine then_n ?_
  refine swp_seq ?_
  refine swp_cond (b := _) rfl (fun h8 => by cases h8) (fun h8 => ?_)
  refine swp_exit ?_
  refine then_x ?_
  refine then_x ?_
  refine block_hit rfl ?_
  refine then_n ?_
  refine swp_seq ?_
  refine swp_region ?_
  refine s_pu (pu_move rfl) ?_
  refine s_pu (pu_assign rfl) ?_
  refine swl_sub _ (.cons (t := 2) rfl .nil) ?_
  refine swl_nil ?_
  refine then_n ?_
  refine swp_ret ?_
  exact done_ret [] (.tmp rfl .nil) ⟨rfl, rfl⟩ (by repeat (first | exact Split.nil | (apply Split.cons; (repeat (first | with_reducible exact Take.here | apply Take.there)))))
theorem ntree (n : Int) : Spec Try.prog 17 [.pointer none, .int .i64 n] [] (fun r L => r = .tuple #[.slice none 0 0, .int .i64 1] ∧ L = []) := by
  refine Spec.of 29 Try.func17 rfl rfl rfl ?_
  refine swp_seq ?_
  refine swp_region ?_
  refine s_pu (pu_assign rfl) ?_
  refine s_pu (pu_assign rfl) ?_
  refine swl_sub _ (.cons (t := 0) rfl (.cons (t := 1) rfl .nil)) ?_
  refine swl_nil ?_
  refine then_n ?_
  refine swp_seq ?_
  refine swp_block ?_
  refine swp_seq ?_
  refine swp_region ?_
  refine s_pu (pu_move rfl) ?_
  refine s_pu (pu_ptr_eq_nil rfl rfl) ?_
  refine s_pu (pu_assign rfl) ?_
  refine swl_sub _ (.cons (t := 0) rfl (.cons (t := 1) rfl (.cons (t := 6) rfl .nil))) ?_
  refine swl_nil ?_
  refine then_n ?_
  refine swp_cond (b := _) rfl (fun h6 => ?_) (fun h6 => by cases h6)
  refine swp_seq ?_
  refine swp_region ?_
  refine s_pu (pu_assign rfl) ?_
  refine s_pu (pu_assign rfl) ?_
  refine swl_sub _ (.cons (t := 4) rfl (.cons (t := 5) rfl .nil)) ?_
  refine swl_nil ?_
  refine then_n ?_
  refine swp_ret ?_
  refine block_r ?_
  refine then_r ?_
  exact done_ret [] (.tmp rfl (.tmp rfl .nil)) ⟨rfl, rfl⟩ (by repeat (first | exact Split.nil | (apply Split.cons; (repeat (first | with_reducible exact Take.here | apply Take.there)))))
theorem ncom (n : Int) : Spec Try.prog 18 [.pointer none, .int .i64 n] [] (fun r L => r = .tuple #[cmV (.slice none 0 0) 0, .int .i64 1] ∧ L = []) := by
  refine Spec.of 37 Try.func18 rfl rfl rfl ?_
  refine swp_seq ?_
  refine swp_region ?_
  refine s_ef (ef_alloc) ?_
  intro b4
  refine s_pu (pu_assign rfl) ?_
  refine swl_sub _ (.cons (t := 0) rfl (.cons (t := 1) rfl (.cons (t := 4) rfl .nil))) ?_
  refine swl_nil ?_
  refine then_n ?_
  refine swp_seq ?_
  refine swp_block ?_
  refine swp_seq ?_
  refine swp_region ?_
  refine s_pu (pu_move rfl) ?_
  refine s_pu (pu_ptr_eq_nil rfl rfl) ?_
  refine s_pu (pu_assign rfl) ?_
  refine swl_sub _ (.cons (t := 0) rfl (.cons (t := 1) rfl (.cons (t := 4) rfl (.cons (t := 7) rfl .nil)))) ?_
  refine swl_nil ?_
  refine then_n ?_
  refine swp_cond (b := _) rfl (fun h7 => ?_) (fun h7 => by cases h7)
  refine swp_seq ?_
  refine swp_region ?_
  refine s_pu (pu_bld (qs := []) rfl) ?_
  refine s_ef0 (ef_storeA rfl rfl rfl rfl) ?_
  refine s_pu (pu_assign rfl) ?_
  refine swl_sub _ (.cons (t := 4) rfl (.cons (t := 5) rfl .nil)) ?_
  refine swl_nil ?_
  refine then_n ?_
  refine swp_ret ?_
  refine block_r ?_
  refine then_r ?_
  exact done_ret [] (.cell rfl (ld_whole rfl) (.tmp rfl .nil)) ⟨rfl, rfl⟩ (by repeat (first | exact Split.nil | (apply Split.cons; (repeat (first | with_reducible exact Take.here | apply Take.there)))))
theorem naddt (v : Value) : Spec Try.prog 11 [.pointer none, v] [] (fun r L => r = .tuple #[.int .i64 0, .int .i64 1] ∧ L = []) := by
  refine Spec.of 54 Try.func11 rfl rfl rfl ?_
  refine swp_seq ?_
  refine swp_region ?_
  refine s_pu (pu_assign rfl) ?_
  refine s_pu (pu_assign rfl) ?_
  refine swl_sub _ (.cons (t := 0) rfl (.cons (t := 1) rfl .nil)) ?_
  refine swl_nil ?_
  refine then_n ?_
  refine swp_seq ?_
  refine swp_seq ?_
  refine swp_region ?_
  refine s_pu (pu_move rfl) ?_
  refine s_ef (ef_fn nsopen rfl rfl (by repeat (first | exact Split.nil | (apply Split.cons; (repeat (first | with_reducible exact Take.here | apply Take.there)))))) ?_
  rintro v10 L1 ⟨rfl, rfl⟩
  refine swl_app ?_
  refine s_pu (pu_assign rfl) ?_
  refine swl_sub _ (.cons (t := 0) rfl (.cons (t := 1) rfl (.cons (t := 6) rfl .nil))) ?_
  refine swl_nil ?_
  refine then_n ?_
  refine swp_seq ?_
  refine swp_region ?_
  refine s_pu (pu_move rfl) ?_
  refine s_pu (pu_neq rfl rfl) ?_
  refine swl_sub _ (.cons (t := 0) rfl (.cons (t := 1) rfl (.cons (t := 6) rfl (.cons (t := 12) rfl .nil)))) ?_
  refine swl_nil ?_
  refine then_n ?_
  refine swp_cond (b := _) rfl (fun h12 => ?_) (fun h12 => by cases h12)
  refine swp_seq ?_
  refine swp_region ?_
  refine s_pu (pu_move rfl) ?_
  refine s_pu (pu_assign rfl) ?_
  refine s_pu (pu_assign rfl) ?_
  refine swl_sub _ (.cons (t := 4) rfl (.cons (t := 5) rfl .nil)) ?_
  refine swl_nil ?_
  refine then_n ?_
  refine swp_ret ?_
  refine then_r ?_
  exact done_ret [] (.tmp rfl (.tmp rfl .nil)) ⟨rfl, rfl⟩ (by repeat (first | exact Split.nil | (apply Split.cons; (repeat (first | with_reducible exact Take.here | apply Take.there)))))
theorem naddc (v : Value) (k : Int) : Spec Try.prog 16 [.pointer none, cmV v k] [] (fun r L => r = .tuple #[.int .i64 0, .int .i64 1] ∧ L = []) := by
  refine Spec.of 61 Try.func16 rfl rfl rfl ?_
  refine swp_seq ?_
  refine swp_region ?_
  refine s_ef (ef_box rfl rfl) ?_
  intro b3
  refine s_pu (pu_assign rfl) ?_
  refine s_pu (pu_assign rfl) ?_
  refine swl_sub _ (.cons (t := 0) rfl (.cons (t := 3) rfl .nil)) ?_
  refine swl_nil ?_
  refine then_n ?_
  refine swp_seq ?_
  refine swp_seq ?_
  refine swp_region ?_
  refine s_pu (pu_move rfl) ?_
  refine s_ef (ef_fn nsopen rfl rfl (by repeat (first | exact Split.nil | (apply Split.cons; (repeat (first | with_reducible exact Take.here | apply Take.there)))))) ?_
  rintro v10 L1 ⟨rfl, rfl⟩
  refine swl_app ?_
  refine s_pu (pu_assign rfl) ?_
  refine swl_sub _ (.cons (t := 0) rfl (.cons (t := 3) rfl (.cons (t := 6) rfl .nil))) ?_
  refine swl_nil ?_
  refine then_n ?_
  refine swp_seq ?_
  refine swp_region ?_
  refine s_pu (pu_move rfl) ?_
  refine s_pu (pu_neq rfl rfl) ?_
  refine swl_sub _ (.cons (t := 0) rfl (.cons (t := 3) rfl (.cons (t := 6) rfl (.cons (t := 12) rfl .nil)))) ?_
  refine swl_nil ?_
  refine then_n ?_
  refine swp_cond (b := _) rfl (fun h12 => ?_) (fun h12 => by cases h12)
  refine swp_seq ?_
  refine swp_region ?_
  refine s_pu (pu_move rfl) ?_
  refine s_pu (pu_assign rfl) ?_
  refine s_pu (pu_assign rfl) ?_
  refine swl_sub _ (.cons (t := 4) rfl (.cons (t := 5) rfl .nil)) ?_
  refine swl_nil ?_
  refine then_n ?_
  refine swp_ret ?_
  refine then_r ?_
  exact done_retE [] (.tmp rfl (.tmp rfl .nil)) ⟨rfl, rfl⟩ (Split.ent' (by repeat (first | exact Split.nil | (apply Split.cons; (repeat (first | with_reducible exact Take.here | apply Take.there))))))
theorem storenone_spec (μ : PH) (v0 : Value) (A : Option Addr) (l c : Nat) (k n : Int) : Spec Try.prog 4 [v0, cmV (.slice A l c) k, .int .i64 n] [ro μ] (fun r L => r = .bool true ∧ ∃ μ' R, Le μ μ' ∧ L = ro μ' :: R) := by
  refine Spec.of 114 Try.func4 rfl rfl rfl ?_
  refine swp_seq ?_
  refine swp_region ?_
  refine s_ef (ef_box rfl rfl) ?_
  intro b4
  refine s_pu (pu_assign rfl) ?_
  refine swl_sub _ (.cons (t := 0) rfl (.cons (t := 2) rfl (.cons (t := 4) rfl .nil))) ?_
  refine swl_nil ?_
  refine then_n ?_
  refine swp_seq ?_
  refine swp_seq ?_
  refine swp_region ?_
  refine s_ef (ef_fn opens_spec rfl rfl (by repeat (first | exact Split.nil | (apply Split.cons; (repeat (first | with_reducible exact Take.here | apply Take.there)))))) ?_
  rintro v16 L1 ⟨rfl, rfl⟩
  refine swl_app ?_
  refine s_pu (pu_not rfl) ?_
  refine swl_sub _ (.cons (t := 0) rfl (.cons (t := 2) rfl (.cons (t := 4) rfl (.cons (t := 17) rfl .nil)))) ?_
  refine swl_nil ?_
  refine then_n ?_
  refine swp_cond (b := _) rfl (fun h17 => by cases h17) (fun h17 => ?_)
  refine swp_skip ?_
  refine then_n ?_
  refine swp_seq ?_
  refine swp_region ?_
  refine s_ef (ef_fn nopen rfl rfl (by repeat (first | exact Split.nil | (apply Split.cons; (repeat (first | with_reducible exact Take.here | apply Take.there)))))) ?_
  rintro v19 L1 ⟨rfl, rfl⟩
  refine swl_app ?_
  refine s_pu (pu_move rfl) ?_
  first | refine s_pu (pu_extractL rfl) ?_ | refine s_pu (pu_extract rfl rfl) ?_
  first | refine s_pu (pu_extractL rfl) ?_ | refine s_pu (pu_extract rfl rfl) ?_
  refine s_pu (pu_assign rfl) ?_
  refine s_pu (pu_assign rfl) ?_
  refine swl_sub _ (.cons (t := 0) rfl (.cons (t := 2) rfl (.cons (t := 4) rfl (.cons (t := 7) rfl (.cons (t := 8) rfl .nil))))) ?_
  refine swl_nil ?_
  refine then_n ?_
  refine swp_seq ?_
  refine swp_seq ?_
  refine swp_region ?_
  refine s_pu (pu_move rfl) ?_
  refine s_pu (pu_ptr_ne_nil rfl rfl) ?_
  refine s_pu (pu_move rfl) ?_
  refine s_on rfl rfl ?_
  refine s_pu (pu_move rfl) ?_
  refine s_on rfl rfl ?_
  refine s_pu (pu_neq rfl rfl) ?_
  first | refine s_pu (pu_pick_t rfl rfl) ?_ | refine s_pu (pu_pick_f rfl rfl) ?_
  refine swl_sub _ (.cons (t := 0) rfl (.cons (t := 2) rfl (.cons (t := 4) rfl (.cons (t := 7) rfl (.cons (t := 27) rfl .nil))))) ?_
  refine swl_nil ?_
  refine then_n ?_
  refine swp_cond (b := _) rfl (fun h27 => by cases h27) (fun h27 => ?_)
  refine swp_skip ?_
  refine then_n ?_
  refine swp_seq ?_
  refine swp_region ?_
  refine s_pu (pu_move rfl) ?_
  refine s_pu (pu_move rfl) ?_
  refine s_ef (ef_fn (naddt v0) rfl rfl (by repeat (first | exact Split.nil | (apply Split.cons; (repeat (first | with_reducible exact Take.here | apply Take.there)))))) ?_
  rintro v31 L1 ⟨rfl, rfl⟩
  refine swl_app ?_
  refine s_pu (pu_move rfl) ?_
  first | refine s_pu (pu_extractL rfl) ?_ | refine s_pu (pu_extract rfl rfl) ?_
  first | refine s_pu (pu_extractL rfl) ?_ | refine s_pu (pu_extract rfl rfl) ?_
  refine s_pu (pu_assign rfl) ?_
  refine s_pu (pu_assign rfl) ?_
  refine swl_sub _ (.cons (t := 2) rfl (.cons (t := 4) rfl (.cons (t := 7) rfl (.cons (t := 8) rfl (.cons (t := 9) rfl .nil))))) ?_
  refine swl_nil ?_
  refine then_n ?_
  refine swp_seq ?_
  refine swp_region ?_
  refine s_pu (pu_move rfl) ?_
  first | refine s_rd (rd_loadW rfl rfl) ?_ | refine s_rd (rd_loadX rfl rfl rfl) ?_
  refine s_ef (ef_fn (naddc (.slice A l c) k) rfl rfl (by repeat (first | exact Split.nil | (apply Split.cons; (repeat (first | with_reducible exact Take.here | apply Take.there)))))) ?_
  rintro v37 L1 ⟨rfl, rfl⟩
  refine swl_app ?_
  refine s_pu (pu_move rfl) ?_
  first | refine s_pu (pu_extractL rfl) ?_ | refine s_pu (pu_extract rfl rfl) ?_
  first | refine s_pu (pu_extractL rfl) ?_ | refine s_pu (pu_extract rfl rfl) ?_
  refine s_pu (pu_assign rfl) ?_
  refine s_pu (pu_assign rfl) ?_
  refine swl_sub _ (.cons (t := 2) rfl (.cons (t := 7) rfl (.cons (t := 8) rfl (.cons (t := 9) rfl (.cons (t := 10) rfl (.cons (t := 11) rfl .nil)))))) ?_
  refine swl_nil ?_
  refine then_n ?_
  refine swp_seq ?_
  refine swp_region ?_
  refine s_pu (pu_move rfl) ?_
  refine s_pu (pu_move rfl) ?_
  refine s_ef (ef_fn (ntree n) rfl rfl (by repeat (first | exact Split.nil | (apply Split.cons; (repeat (first | with_reducible exact Take.here | apply Take.there)))))) ?_
  rintro v43 L1 ⟨rfl, rfl⟩
  refine swl_app ?_
  refine s_pu (pu_move rfl) ?_
  first | refine s_pu (pu_extractL rfl) ?_ | refine s_pu (pu_extract rfl rfl) ?_
  first | refine s_pu (pu_extractL rfl) ?_ | refine s_pu (pu_extract rfl rfl) ?_
  refine s_pu (pu_assign rfl) ?_
  refine s_pu (pu_assign rfl) ?_
  refine swl_sub _ (.cons (t := 2) rfl (.cons (t := 7) rfl (.cons (t := 8) rfl (.cons (t := 9) rfl (.cons (t := 10) rfl (.cons (t := 11) rfl (.cons (t := 12) rfl (.cons (t := 13) rfl .nil)))))))) ?_
  refine swl_nil ?_
  refine then_n ?_
  refine swp_seq ?_
  refine swp_region ?_
  refine s_pu (pu_move rfl) ?_
  refine s_pu (pu_move rfl) ?_
  refine s_ef (ef_fn (ncom n) rfl rfl (by repeat (first | exact Split.nil | (apply Split.cons; (repeat (first | with_reducible exact Take.here | apply Take.there)))))) ?_
  rintro v49 L1 ⟨rfl, rfl⟩
  refine swl_app ?_
  refine s_pu (pu_move rfl) ?_
  first | refine s_pu (pu_extractL rfl) ?_ | refine s_pu (pu_extract rfl rfl) ?_
  first | refine s_pu (pu_extractL rfl) ?_ | refine s_pu (pu_extract rfl rfl) ?_
  refine s_ef (ef_alloc) ?_
  intro b14
  refine s_ef0 (ef_storeA rfl rfl rfl rfl) ?_
  refine s_pu (pu_assign rfl) ?_
  refine swl_sub _ (.cons (t := 7) rfl (.cons (t := 8) rfl (.cons (t := 9) rfl (.cons (t := 10) rfl (.cons (t := 11) rfl (.cons (t := 12) rfl (.cons (t := 13) rfl (.cons (t := 14) rfl (.cons (t := 15) rfl .nil))))))))) ?_
  refine swl_nil ?_
  refine then_n ?_
  refine swp_seq ?_
  refine swp_region ?_
  refine s_pu (pu_move rfl) ?_
  refine s_pu (pu_eql rfl rfl) ?_
  refine s_pu (pu_move rfl) ?_
  refine s_on rfl rfl ?_
  refine s_pu (pu_move rfl) ?_
  refine s_on rfl rfl ?_
  refine s_pu (pu_eql rfl rfl) ?_
  first | refine s_pu (pu_pick_t rfl rfl) ?_ | refine s_pu (pu_pick_f rfl rfl) ?_
  refine s_pu (pu_move rfl) ?_
  refine s_on rfl rfl ?_
  refine s_pu (pu_move rfl) ?_
  refine s_on rfl rfl ?_
  refine s_pu (pu_eql rfl rfl) ?_
  first | refine s_pu (pu_pick_t rfl rfl) ?_ | refine s_pu (pu_pick_f rfl rfl) ?_
  refine s_pu (pu_move rfl) ?_
  refine s_on rfl rfl ?_
  refine s_pu (pu_move rfl) ?_
  refine s_on rfl rfl ?_
  refine s_pu (pu_move rfl) ?_
  refine s_on rfl rfl ?_
  refine s_pu (pu_eql rfl rfl) ?_
  first | refine s_pu (pu_pick_t rfl rfl) ?_ | refine s_pu (pu_pick_f rfl rfl) ?_
  refine s_pu (pu_move rfl) ?_
  refine s_on rfl rfl ?_
  refine s_pu (pu_move rfl) ?_
  refine s_on rfl rfl ?_
  refine s_pu (pu_move rfl) ?_
  refine s_on rfl rfl ?_
  refine s_pu (pu_eql rfl rfl) ?_
  first | refine s_pu (pu_pick_t rfl rfl) ?_ | refine s_pu (pu_pick_f rfl rfl) ?_
  refine s_pu (pu_move rfl) ?_
  refine s_on rfl rfl ?_
  refine s_pu (pu_move rfl) ?_
  refine s_on rfl rfl ?_
  refine s_pu (pu_move rfl) ?_
  refine s_on rfl rfl ?_
  refine s_pu (pu_eql rfl rfl) ?_
  first | refine s_pu (pu_pick_t rfl rfl) ?_ | refine s_pu (pu_pick_f rfl rfl) ?_
  refine s_pu (pu_move rfl) ?_
  refine s_on rfl rfl ?_
  refine s_pu (pu_move rfl) ?_
  refine s_on rfl rfl ?_
  refine s_pu (pu_len rfl) ?_
  refine s_on rfl rfl ?_
  refine s_pu (pu_eql rfl rfl) ?_
  first | refine s_pu (pu_pick_t rfl rfl) ?_ | refine s_pu (pu_pick_f rfl rfl) ?_
  refine s_pu (pu_move rfl) ?_
  refine s_on rfl rfl ?_
  first | refine s_pu (pu_fieldAddr0 rfl) ?_ | refine s_pu (pu_fieldAddr rfl) ?_
  refine s_on rfl rfl ?_
  refine s_rd (rd_load rfl rfl) ?_
  refine s_on rfl rfl ?_
  refine s_pu (pu_len rfl) ?_
  refine s_on rfl rfl ?_
  refine s_pu (pu_eql rfl rfl) ?_
  first | refine s_pu (pu_pick_t rfl rfl) ?_ | refine s_pu (pu_pick_f rfl rfl) ?_
  refine s_pu (pu_move rfl) ?_
  refine s_on rfl rfl ?_
  first | refine s_pu (pu_fieldAddr0 rfl) ?_ | refine s_pu (pu_fieldAddr rfl) ?_
  refine s_on rfl rfl ?_
  refine s_rd (rd_load rfl rfl) ?_
  refine s_on rfl rfl ?_
  refine s_pu (pu_eql rfl rfl) ?_
  first | refine s_pu (pu_pick_t rfl rfl) ?_ | refine s_pu (pu_pick_f rfl rfl) ?_
  refine s_pu (pu_move rfl) ?_
  refine s_on rfl rfl ?_
  refine s_pu (pu_move rfl) ?_
  refine s_on rfl rfl ?_
  refine s_ef (ef_fn ntrees rfl rfl (by repeat (first | exact Split.nil | (apply Split.cons; (repeat (first | with_reducible exact Take.here | apply Take.there)))))) ?_
  rintro v95 L1 ⟨rfl, rfl⟩
  refine swl_app ?_
  refine s_on rfl rfl ?_
  refine s_pu (pu_eql rfl rfl) ?_
  first | refine s_pu (pu_pick_t rfl rfl) ?_ | refine s_pu (pu_pick_f rfl rfl) ?_
  refine s_pu (pu_move rfl) ?_
  refine s_on rfl rfl ?_
  refine s_pu (pu_move rfl) ?_
  refine s_on rfl rfl ?_
  refine s_ef (ef_fn ncommits rfl rfl (by repeat (first | exact Split.nil | (apply Split.cons; (repeat (first | with_reducible exact Take.here | apply Take.there)))))) ?_
  rintro v100 L1 ⟨rfl, rfl⟩
  refine swl_app ?_
  refine s_on rfl rfl ?_
  refine s_pu (pu_eql rfl rfl) ?_
  first | refine s_pu (pu_pick_t rfl rfl) ?_ | refine s_pu (pu_pick_f rfl rfl) ?_
  refine s_pu (pu_move rfl) ?_
  refine s_on rfl rfl ?_
  refine s_pu (pu_move rfl) ?_
  refine s_on rfl rfl ?_
  refine s_ef (ef_fn ngraph rfl rfl (by repeat (first | exact Split.nil | (apply Split.cons; (repeat (first | with_reducible exact Take.here | apply Take.there)))))) ?_
  rintro v105 L1 ⟨rfl, rfl⟩
  refine swl_app ?_
  refine s_on rfl rfl ?_
  refine s_pu (pu_len rfl) ?_
  refine s_on rfl rfl ?_
  refine s_pu (pu_eql rfl rfl) ?_
  first | refine s_pu (pu_pick_t rfl rfl) ?_ | refine s_pu (pu_pick_f rfl rfl) ?_
  refine s_pu (pu_move rfl) ?_
  refine s_on rfl rfl ?_
  refine s_pu (pu_move rfl) ?_
  refine s_on rfl rfl ?_
  refine s_ef (ef_fn ndead rfl rfl (by repeat (first | exact Split.nil | (apply Split.cons; (repeat (first | with_reducible exact Take.here | apply Take.there)))))) ?_
  rintro v111 L1 ⟨rfl, rfl⟩
  refine swl_app ?_
  refine s_on rfl rfl ?_
  refine s_pu (pu_not rfl) ?_
  first | refine s_pu (pu_pick_t rfl rfl) ?_ | refine s_pu (pu_pick_f rfl rfl) ?_
  refine s_pu (pu_assign rfl) ?_
  refine swl_sub _ (.cons (t := 6) rfl .nil) ?_
  refine swl_nil ?_
  refine then_n ?_
  refine swp_ret ?_
  exact done_retE [ro μ] (.tmp rfl .nil) ⟨rfl, μ, [], Le.refl _, rfl⟩ (Split.ent' (by repeat (first | exact Split.nil | (apply Split.cons; (repeat (first | with_reducible exact Take.here | apply Take.there))))))
end SX
