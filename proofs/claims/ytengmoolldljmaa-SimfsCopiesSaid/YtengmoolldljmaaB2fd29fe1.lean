/- A part of the proof: walks of the program's functions, and the rules by which they go. -/
import Derived.Test.YtengmoolldljmaaBdf7a0174
import Derived.Test.YtengmoolldljmaaBd6f8e813
namespace SX
open Go Go.Proofs
set_option maxHeartbeats 8000000 in
theorem damage_spec (p : Nat) (d : Dk) (hd : d.Ok) (s : ByteArray) (n : Int) (t : ByteArray) (ht : t.size ≤ 140737488351232) : Spec Try.prog 24 [pv p, .string s, .int .i64 n, .string t] [FSA p d] (fun r L => r = .int .i64 (damageD d s n t.data.toList).2 ∧ L = [FSA p (damageD d s n t.data.toList).1]) := by
  refine FSA.open' fun x hx => ?_
  obtain ⟨o, e, hve⟩ := find_ptr x.rs d s
  have hfs := find_spec' (p := p) hx hve
  have hul := Dk.used_le hd
  have hq := hd.q
  refine Spec.of 95 Try.func24 rfl rfl rfl ?_
  refine swp_seq ?_
  refine swp_region ?_
  refine s_pu (pu_assign rfl) ?_
  refine swl_sub _ (.cons (t := 0) rfl (.cons (t := 1) rfl (.cons (t := 2) rfl (.cons (t := 3) rfl .nil)))) ?_
  refine swl_nil ?_
  refine then_n ?_
  refine swp_seq ?_
  refine swp_region ?_
  refine s_pu (pu_move rfl) ?_
  refine s_pu (pu_move rfl) ?_
  refine s_ef (ef_fn hfs rfl rfl (by repeat (first | exact Split.nil | (apply Split.cons; (repeat (first | with_reducible exact Take.here | apply Take.there)))))) ?_
  rintro v16 L1 ⟨rfl, rfl⟩
  refine swl_app ?_
  refine s_pu (pu_move rfl) ?_
  first | refine s_pu (pu_extractL rfl) ?_ | refine s_pu (pu_extract rfl rfl) ?_
  first | refine s_pu (pu_extractL rfl) ?_ | refine s_pu (pu_extract rfl rfl) ?_
  refine s_pu (pu_assign rfl) ?_
  refine s_pu (pu_assign rfl) ?_
  refine swl_sub _ (.cons (t := 0) rfl (.cons (t := 2) rfl (.cons (t := 3) rfl (.cons (t := 9) rfl (.cons (t := 10) rfl .nil))))) ?_
  refine swl_nil ?_
  refine then_n ?_
  refine swp_seq ?_
  refine swp_seq ?_
  refine swp_region ?_
  refine s_pu (pu_move rfl) ?_
  refine s_pu (pu_neq rfl rfl) ?_
  refine swl_sub _ (.cons (t := 0) rfl (.cons (t := 2) rfl (.cons (t := 3) rfl (.cons (t := 9) rfl (.cons (t := 10) rfl (.cons (t := 20) rfl .nil)))))) ?_
  refine swl_nil ?_
  refine then_n ?_
  refine swp_cond (b := _) rfl (fun h20 => ?_) (fun h20 => ?_)
  · skip   -- 20 T
    refine swp_seq ?_
    refine swp_region ?_
    refine s_pu (pu_move rfl) ?_
    refine s_pu (pu_assign rfl) ?_
    refine swl_sub _ (.cons (t := 8) rfl .nil) ?_
    refine swl_nil ?_
    refine then_n ?_
    refine swp_ret ?_
    refine then_r ?_
    have h20' : e ≠ 0 := by simpa using h20
    unfold damageD
    rw [find_err hve h20']
    exact done_retE [FSA p d] (.tmp rfl .nil) ⟨rfl, rfl⟩ ((Split.ent' (K := [fsH p d x, mpe x.sb skv x.es x.cs, mpe x.fb skv x.ef x.cf, own 84 3 x.pv x.ps.length (x.ps.flatMap encP), recsA x.rs]) (by repeat (first | exact Split.nil | (apply Split.cons; (repeat (first | with_reducible exact Take.here | apply Take.there)))))).trans (fs_close hx))
  · skip   -- 20 F
    have h20' : e = 0 := by simpa using h20
    subst h20'
    obtain ⟨k, hk1, hk2, hk3⟩ := find_ok hve
    obtain ⟨r, hr, hf, ha⟩ := hx.find hk1
    rw [ha] at hk2
    rw [hk2]
    have hlen := (Dk.fl_ok hd k).1
    simp only [mostF] at hlen
    rw [← hf] at hlen
    refine swp_ent (Split.ent' (K := [recsA x.rs, fsH p d x, mpe x.sb skv x.es x.cs, mpe x.fb skv x.ef x.cf, own 84 3 x.pv x.ps.length (x.ps.flatMap encP)]) (by repeat (first | exact Split.nil | (apply Split.cons; (repeat (first | with_reducible exact Take.here | apply Take.there)))))) ?_
    refine swp_ent (recs_open' hr (real_of hd hf)) ?_
    refine swp_fact (fun m h => own_cap h) fun ⟨A, c, hv, hlc, hA⟩ => ?_
    refine swp_skip ?_
    refine then_n ?_
    refine swp_cut (fun env L => Sub env [(0, pv p), (2, .int .i64 n), (3, .string t), (9, pv r.a)] ∧ Ent L [own 5 1 r.v r.f.bytes.length (bcs r.f.bytes), blk r.a 82 [.int .i64 (k : Nat), r.v, .int .i64 (r.f.safe : Nat)], holeA x.rs k, fsH p d x, mpe x.sb skv x.es x.cs, mpe x.fb skv x.ef x.cf, own 84 3 x.pv x.ps.length (x.ps.flatMap encP)] ∧ 0 ≤ n ∧ n ≤ r.f.bytes.length) ?_ ?_
    · skip
      refine swp_seq ?_
      refine swp_region ?_
      refine s_pu (pu_move rfl) ?_
      refine s_pu (pu_lss rfl rfl) ?_
      refine s_pu (pu_move rfl) ?_
      refine s_split 24 rfl (fun h24 => ?_) (fun h24 => ?_)
      · skip   -- 24 T
        refine s_off rfl rfl rfl ?_
        refine s_off rfl rfl rfl ?_
        refine s_off rfl rfl rfl ?_
        refine s_off rfl rfl rfl ?_
        refine s_off rfl rfl rfl ?_
        refine s_off rfl rfl rfl ?_
        refine s_off rfl rfl rfl ?_
        first | refine s_pu (pu_pick_t rfl rfl) ?_ | refine s_pu (pu_pick_f rfl rfl) ?_
        refine swl_sub _ (.cons (t := 0) rfl (.cons (t := 2) rfl (.cons (t := 3) rfl (.cons (t := 9) rfl (.cons (t := 32) rfl .nil))))) ?_
        refine swl_nil ?_
        refine then_n ?_
        refine swp_cond (b := _) rfl (fun h32 => ?_) (fun h32 => by cases h32)
        refine swp_seq ?_
        refine swp_region ?_
        refine s_pu (pu_assign rfl) ?_
        refine swl_sub _ (.cons (t := 8) rfl .nil) ?_
        refine swl_nil ?_
        refine then_n ?_
        refine swp_ret ?_
        refine then_r ?_
        have h24' := of_decide_eq_true h24
        have key : damageD d s n t.data.toList = (d, 1) := by unfold damageD; rw [hk3, if_pos (.inl (by omega))]
        rw [key]
        refine done_retE [FSA p d] (.tmp rfl .nil) ⟨rfl, rfl⟩ ?_
        refine Ent.trans (Split.ent' (K := [own 5 1 r.v r.f.bytes.length (bcs r.f.bytes), blk r.a 82 [.int .i64 (k : Nat), r.v, .int .i64 (r.f.safe : Nat)], holeA x.rs k, fsH p d x, mpe x.sb skv x.es x.cs, mpe x.fb skv x.ef x.cf, own 84 3 x.pv x.ps.length (x.ps.flatMap encP)]) (by repeat (first | exact Split.nil | (apply Split.cons; (repeat (first | with_reducible exact Take.here | apply Take.there)))))) ?_
        exact (recs_back' hr (real_of hd hf)).trans ((Split.ent' (K := [fsH p d x, mpe x.sb skv x.es x.cs, mpe x.fb skv x.ef x.cf, own 84 3 x.pv x.ps.length (x.ps.flatMap encP), recsA x.rs]) (by repeat (first | exact Split.nil | (apply Split.cons; (repeat (first | with_reducible exact Take.here | apply Take.there)))))).trans (fs_close hx))
      · skip   -- 24 F
        refine s_on rfl rfl ?_
        refine s_pu (pu_move rfl) ?_
        refine s_on rfl rfl ?_
        refine s_pu (pu_move rfl) ?_
        refine s_on rfl rfl ?_
        first | refine s_pu (pu_nilCheck rfl) ?_ | refine s_pu (pu_nilCheck_fn rfl) ?_ | refine s_pu (pu_nilCheck_if rfl) ?_
        refine s_on rfl rfl ?_
        first | refine s_pu (pu_fieldAddr0 rfl) ?_ | refine s_pu (pu_fieldAddr rfl) ?_
        refine s_on rfl rfl ?_
        refine s_rd (rd_load rfl rfl) ?_
        refine s_on rfl rfl ?_
        refine s_pu (pu_len_own ⟨A, c, hv⟩ rfl) ?_
        refine s_on rfl rfl ?_
        refine s_pu (pu_gtr rfl rfl) ?_
        first | refine s_pu (pu_pick_t rfl rfl) ?_ | refine s_pu (pu_pick_f rfl rfl) ?_
        refine swl_sub _ (.cons (t := 0) rfl (.cons (t := 2) rfl (.cons (t := 3) rfl (.cons (t := 9) rfl (.cons (t := 32) rfl .nil))))) ?_
        refine swl_nil ?_
        refine then_n ?_
        refine swp_cond (b := _) rfl (fun h32 => ?_) (fun h32 => ?_)
        · skip   -- 32 T
          refine swp_seq ?_
          refine swp_region ?_
          refine s_pu (pu_assign rfl) ?_
          refine swl_sub _ (.cons (t := 8) rfl .nil) ?_
          refine swl_nil ?_
          refine then_n ?_
          refine swp_ret ?_
          refine then_r ?_
          have h32' := of_decide_eq_true h32
          have key : damageD d s n t.data.toList = (d, 1) := by unfold damageD; rw [hk3, if_pos (.inr (by rw [← hf]; exact h32'))]
          rw [key]
          refine done_retE [FSA p d] (.tmp rfl .nil) ⟨rfl, rfl⟩ ?_
          refine Ent.trans (Split.ent' (K := [own 5 1 r.v r.f.bytes.length (bcs r.f.bytes), blk r.a 82 [.int .i64 (k : Nat), r.v, .int .i64 (r.f.safe : Nat)], holeA x.rs k, fsH p d x, mpe x.sb skv x.es x.cs, mpe x.fb skv x.ef x.cf, own 84 3 x.pv x.ps.length (x.ps.flatMap encP)]) (by repeat (first | exact Split.nil | (apply Split.cons; (repeat (first | with_reducible exact Take.here | apply Take.there)))))) ?_
          exact (recs_back' hr (real_of hd hf)).trans ((Split.ent' (K := [fsH p d x, mpe x.sb skv x.es x.cs, mpe x.fb skv x.ef x.cf, own 84 3 x.pv x.ps.length (x.ps.flatMap encP), recsA x.rs]) (by repeat (first | exact Split.nil | (apply Split.cons; (repeat (first | with_reducible exact Take.here | apply Take.there)))))).trans (fs_close hx))
        · skip   -- 32 F
          refine swp_skip ?_
          exact then_n ⟨⟨rfl, rfl, rfl, rfl, trivial⟩, Split.ent' (by repeat (first | exact Split.nil | (apply Split.cons; (repeat (first | with_reducible exact Take.here | apply Take.there))))), by have := of_decide_eq_false h24; omega, by have := of_decide_eq_false h32; omega⟩
    rintro env L ⟨hsub, hE, h1, h2⟩
    refine swp_sub _ hsub ?_
    refine swp_ent hE ?_
    clear hsub hE env L
    obtain ⟨m, rfl⟩ : ∃ m : Nat, n = (m : Int) := ⟨n.toNat, by omega⟩
    have h2' : m ≤ r.f.bytes.length := by omega
    have hbt := bsize t
    refine swp_cut (fun env L => Sub env [(2, .int .i64 (m : Nat)), (3, .string t), (9, pv r.a)] ∧ Ent L [own 5 1 r.v r.f.bytes.length (bcs r.f.bytes), blk r.a 82 [.int .i64 (k : Nat), r.v, .int .i64 (r.f.safe : Nat)], holeA x.rs k, fsH p d x, mpe x.sb skv x.es x.cs, mpe x.fb skv x.ef x.cf, own 84 3 x.pv x.ps.length (x.ps.flatMap encP)] ∧ ¬ (0 < (t.data.toList.length : Int) - (r.f.bytes.length - m) ∧ d.quota < (d.used : Int) + ((t.data.toList.length : Int) - (r.f.bytes.length - m)))) ?_ ?_
    · skip
      refine swp_seq ?_
      refine swp_region ?_
      refine s_pu (pu_move rfl) ?_
      refine s_pu (pu_strlen rfl) ?_
      refine s_pu (pu_move rfl) ?_
      first | refine s_pu (pu_nilCheck rfl) ?_ | refine s_pu (pu_nilCheck_fn rfl) ?_ | refine s_pu (pu_nilCheck_if rfl) ?_
      first | refine s_pu (pu_fieldAddr0 rfl) ?_ | refine s_pu (pu_fieldAddr rfl) ?_
      refine s_rd (rd_load rfl rfl) ?_
      refine s_pu (pu_len_own ⟨A, c, hv⟩ rfl) ?_
      refine s_pu (pu_move rfl) ?_
      refine s_pu (pu_sub_as ((r.f.bytes.length : Int) - m) rfl rfl (by omega) (by omega) (by omega)) ?_
      refine s_pu (pu_sub_as ((t.size : Int) - ((r.f.bytes.length : Int) - m)) rfl rfl (by omega) (by omega) (by omega)) ?_
      refine s_pu (pu_assign rfl) ?_
      refine swl_sub _ (.cons (t := 0) rfl (.cons (t := 2) rfl (.cons (t := 3) rfl (.cons (t := 9) rfl (.cons (t := 11) rfl .nil))))) ?_
      refine swl_nil ?_
      refine then_n ?_
      refine swp_seq ?_
      refine swp_ent (Split.ent' (K := [own 5 1 r.v r.f.bytes.length (bcs r.f.bytes), blk r.a 82 [.int .i64 (k : Nat), r.v, .int .i64 (r.f.safe : Nat)], holeA x.rs k, fsH p d x, mpe x.sb skv x.es x.cs, mpe x.fb skv x.ef x.cf, own 84 3 x.pv x.ps.length (x.ps.flatMap encP)]) (by repeat (first | exact Split.nil | (apply Split.cons; (repeat (first | with_reducible exact Take.here | apply Take.there)))))) ?_
      refine swp_ent (recs_back' hr (real_of hd hf)) ?_
      refine swp_draw [10] ([fsH p d x]) ([recsA x.rs, mpe x.sb skv x.es x.cs, mpe x.fb skv x.ef x.cf, own 84 3 x.pv x.ps.length (x.ps.flatMap encP)]) (Split.ent (by repeat (first | exact Split.nil | (apply Split.cons; (repeat (first | with_reducible exact Take.here | apply Take.there)))))) (by kernel_rfl) ?_
      refine d_pu 0 rfl (pu_move rfl) (by kernel_rfl) (by kernel_rfl) (by kernel_rfl) ?_
      refine d_pu 1 rfl (pu_gtr rfl rfl) (by kernel_rfl) (by kernel_rfl) (by kernel_rfl) ?_
      refine d_pu 2 rfl (pu_move rfl) (by kernel_rfl) (by kernel_rfl) (by kernel_rfl) ?_
      refine d_split 45 rfl (fun h45 => ?_) (fun h45 => ?_)
      · skip   -- 45 T
        refine d_pu_on 3 rfl rfl rfl (pu_move rfl) (by kernel_rfl) (by kernel_rfl) (by kernel_rfl) ?_
        refine d_pu_on 5 rfl rfl rfl (pu_move rfl) (by kernel_rfl) (by kernel_rfl) (by kernel_rfl) ?_
        refine d_pu_on 7 rfl rfl rfl (pu_move rfl) (by kernel_rfl) (by kernel_rfl) (by kernel_rfl) ?_
        first | refine d_pu_on 8 rfl rfl rfl (pu_nilCheck rfl) (by kernel_rfl) (by kernel_rfl) (by kernel_rfl) ?_ | refine d_pu_on 8 rfl rfl rfl (pu_nilCheck_fn rfl) (by kernel_rfl) (by kernel_rfl) (by kernel_rfl) ?_ | refine d_pu_on 8 rfl rfl rfl (pu_nilCheck_if rfl) (by kernel_rfl) (by kernel_rfl) (by kernel_rfl) ?_
        first | refine d_pu_on 9 rfl rfl rfl (pu_fieldAddr0 rfl) (by kernel_rfl) (by kernel_rfl) (by kernel_rfl) ?_ | refine d_pu_on 9 rfl rfl rfl (pu_fieldAddr rfl) (by kernel_rfl) (by kernel_rfl) (by kernel_rfl) ?_
        refine d_rd_on 10 rfl rfl rfl (rd_load rfl rfl) rfl (by kernel_rfl) (by kernel_rfl) (by kernel_rfl) ?_
        refine d_amb [4] (by kernel_rfl) rfl ?_
        refine dA_ef 4 rfl (GOn.some rfl rfl) (ef_fn (used_spec p d hd x hx) rfl rfl (by repeat (first | exact Split.nil | (apply Split.cons; (repeat (first | with_reducible exact Take.here | apply Take.there)))))) ?_
        rintro v47 L1 ⟨rfl, rfl⟩
        refine ⟨_, ent_appC (Split.ent (by repeat (first | exact Split.nil | (apply Split.cons; (repeat (first | with_reducible exact Take.here | apply Take.there)))))), ?_⟩
        refine d_pu_on 6 rfl rfl rfl (pu_add_as ((d.used : Int) + ((t.size : Int) - ((r.f.bytes.length : Int) - m))) rfl rfl (by omega) (by omega) (by omega)) (by kernel_rfl) (by kernel_rfl) (by kernel_rfl) ?_
        refine d_pu_on 11 rfl rfl rfl (pu_gtr rfl rfl) (by kernel_rfl) (by kernel_rfl) (by kernel_rfl) ?_
        first | refine d_pu 12 rfl (pu_pick_t rfl rfl) (by kernel_rfl) (by kernel_rfl) (by kernel_rfl) ?_ | refine d_pu 12 rfl (pu_pick_f rfl rfl) (by kernel_rfl) (by kernel_rfl) (by kernel_rfl) ?_
        refine d_sub _ (.cons (t := 2) rfl (.cons (t := 3) rfl (.cons (t := 9) rfl (.cons (t := 55) rfl .nil)))) ?_
        first | refine d_nilt (by kernel_rfl) ?_ | refine d_nilf (by kernel_rfl) ?_
        refine then_n ?_
        refine swp_cond (b := _) rfl (fun h55 => ?_) (fun h55 => ?_)
        · skip   -- 55 T
          refine swp_seq ?_
          refine swp_region ?_
          refine s_pu (pu_assign rfl) ?_
          refine swl_sub _ (.cons (t := 8) rfl .nil) ?_
          refine swl_nil ?_
          refine then_n ?_
          refine swp_ret ?_
          refine then_r ?_
          have h45' := of_decide_eq_true h45
          have h55' := of_decide_eq_true h55
          have key : damageD d s m t.data.toList = (d, 7) := by
            unfold damageD
            rw [hk3, if_neg (by rw [← hf]; omega), if_pos (by rw [← hf, hbt]; exact ⟨by omega, by omega⟩)]
          rw [key]
          exact done_retE [FSA p d] (.tmp rfl .nil) ⟨rfl, rfl⟩ ((Split.ent' (K := [fsH p d x, mpe x.sb skv x.es x.cs, mpe x.fb skv x.ef x.cf, own 84 3 x.pv x.ps.length (x.ps.flatMap encP), recsA x.rs]) (by repeat (first | exact Split.nil | (apply Split.cons; (repeat (first | with_reducible exact Take.here | apply Take.there)))))).trans (fs_close hx))
        · skip   -- 55 F
          refine swp_skip ?_
          refine then_n ⟨⟨rfl, rfl, rfl, trivial⟩, ?_, ?_⟩
          · refine Ent.trans (Split.ent' (K := [recsA x.rs, fsH p d x, mpe x.sb skv x.es x.cs, mpe x.fb skv x.ef x.cf, own 84 3 x.pv x.ps.length (x.ps.flatMap encP)]) (by repeat (first | exact Split.nil | (apply Split.cons; (repeat (first | with_reducible exact Take.here | apply Take.there)))))) ?_
            exact recs_open' hr (real_of hd hf)
          · rw [hbt]
            first
              | (have h55' := of_decide_eq_false h55; rintro ⟨_, h2⟩; omega)
              | (have h45' := of_decide_eq_false h45; rintro ⟨h1, _⟩; omega)
      · skip   -- 45 F
        refine d_off 3 rfl rfl rfl rfl (by kernel_rfl) (by kernel_rfl) (by kernel_rfl) ?_
        refine d_off 4 rfl rfl rfl rfl (by kernel_rfl) (by kernel_rfl) (by kernel_rfl) ?_
        refine d_off 5 rfl rfl rfl rfl (by kernel_rfl) (by kernel_rfl) (by kernel_rfl) ?_
        refine d_off 6 rfl rfl rfl rfl (by kernel_rfl) (by kernel_rfl) (by kernel_rfl) ?_
        refine d_off 7 rfl rfl rfl rfl (by kernel_rfl) (by kernel_rfl) (by kernel_rfl) ?_
        refine d_off 8 rfl rfl rfl rfl (by kernel_rfl) (by kernel_rfl) (by kernel_rfl) ?_
        refine d_off 9 rfl rfl rfl rfl (by kernel_rfl) (by kernel_rfl) (by kernel_rfl) ?_
        refine d_off 10 rfl rfl rfl rfl (by kernel_rfl) (by kernel_rfl) (by kernel_rfl) ?_
        refine d_off 11 rfl rfl rfl rfl (by kernel_rfl) (by kernel_rfl) (by kernel_rfl) ?_
        first | refine d_pu 12 rfl (pu_pick_t rfl rfl) (by kernel_rfl) (by kernel_rfl) (by kernel_rfl) ?_ | refine d_pu 12 rfl (pu_pick_f rfl rfl) (by kernel_rfl) (by kernel_rfl) (by kernel_rfl) ?_
        refine d_sub _ (.cons (t := 2) rfl (.cons (t := 3) rfl (.cons (t := 9) rfl (.cons (t := 55) rfl .nil)))) ?_
        first | refine d_nilt (by kernel_rfl) ?_ | refine d_nilf (by kernel_rfl) ?_
        refine then_n ?_
        refine swp_cond (b := _) rfl (fun h55 => by cases h55) (fun h55 => ?_)
        refine swp_skip ?_
        refine then_n ⟨⟨rfl, rfl, rfl, trivial⟩, ?_, ?_⟩
        · refine Ent.trans (Split.ent' (K := [recsA x.rs, fsH p d x, mpe x.sb skv x.es x.cs, mpe x.fb skv x.ef x.cf, own 84 3 x.pv x.ps.length (x.ps.flatMap encP)]) (by repeat (first | exact Split.nil | (apply Split.cons; (repeat (first | with_reducible exact Take.here | apply Take.there)))))) ?_
          exact recs_open' hr (real_of hd hf)
        · rw [hbt]
          first
            | (have h55' := of_decide_eq_false h55; rintro ⟨_, h2⟩; omega)
            | (have h45' := of_decide_eq_false h45; rintro ⟨h1, _⟩; omega)
    rintro env L ⟨hsub, hE, h3⟩
    refine swp_sub _ hsub ?_
    refine swp_ent hE ?_
    clear hsub hE env L
    have key : damageD d s m t.data.toList = (d.setF k ⟨r.f.bytes.take m ++ t.data.toList ++ r.f.bytes.drop (m + t.data.toList.length), (r.f.bytes.take m ++ t.data.toList ++ r.f.bytes.drop (m + t.data.toList.length)).length⟩, 0) := by
      unfold damageD
      rw [hk3, if_neg (by rw [← hf]; omega), if_neg (by rw [← hf]; exact h3), ← hf, Int.toNat_natCast]
    refine swp_seq ?_
    refine swp_region ?_
    refine s_pu (pu_move rfl) ?_
    first | refine s_pu (pu_nilCheck rfl) ?_ | refine s_pu (pu_nilCheck_fn rfl) ?_ | refine s_pu (pu_nilCheck_if rfl) ?_
    first | refine s_pu (pu_fieldAddr0 rfl) ?_ | refine s_pu (pu_fieldAddr rfl) ?_
    refine s_rd (rd_load rfl rfl) ?_
    refine s_pu (pu_move rfl) ?_
    refine s_pu (pu_slice_hi m (congrArg some hv) rfl rfl (by omega)) ?_
    refine s_ef (ef_fn (bclone_own A m r.f.bytes.length c c r.f.bytes rfl h2' (by omega) (fun h => by have := hA h; omega)) rfl rfl (by rw [← hv]; exact (by repeat (first | exact Split.nil | (apply Split.cons; (repeat (first | with_reducible exact Take.here | apply Take.there))))))) ?_
    rintro v62 L1 ⟨⟨A2, c2, rfl⟩, rfl⟩
    refine swl_app ?_
    refine s_pu (pu_move rfl) ?_
    refine s_ef (ef_append_str rfl rfl (by repeat (first | exact Split.nil | (apply Split.cons; (repeat (first | with_reducible exact Take.here | apply Take.there))))) (by omega)) ?_
    rintro A3 c3
    rw [← hv]
    refine s_pu (pu_assign rfl) ?_
    refine swl_sub _ (.cons (t := 2) rfl (.cons (t := 3) rfl (.cons (t := 9) rfl (.cons (t := 12) rfl .nil)))) ?_
    refine swl_nil ?_
    refine then_n ?_
    refine swp_cut (fun env L => ∃ A4 c4 l4, l4 = (r.f.bytes.take m ++ t.data.toList ++ r.f.bytes.drop (m + t.data.toList.length)).length ∧ Sub env [(9, pv r.a), (12, .slice A4 l4 c4)] ∧ Ent L [own 5 1 (.slice A4 l4 c4) l4 (bcs (r.f.bytes.take m ++ t.data.toList ++ r.f.bytes.drop (m + t.data.toList.length))), blk r.a 82 [.int .i64 (k : Nat), r.v, .int .i64 (r.f.safe : Nat)], holeA x.rs k, fsH p d x, mpe x.sb skv x.es x.cs, mpe x.fb skv x.ef x.cf, own 84 3 x.pv x.ps.length (x.ps.flatMap encP)]) ?_ ?_
    · skip
      refine swp_seq ?_
      refine swp_region ?_
      refine s_pu (pu_move rfl) ?_
      refine s_pu (pu_move rfl) ?_
      refine s_pu (pu_strlen rfl) ?_
      refine s_pu (pu_add_as ((m + t.size : Nat) : Int) rfl rfl (by omega) (by omega) (by omega)) ?_
      refine s_pu (pu_move rfl) ?_
      first | refine s_pu (pu_nilCheck rfl) ?_ | refine s_pu (pu_nilCheck_fn rfl) ?_ | refine s_pu (pu_nilCheck_if rfl) ?_
      first | refine s_pu (pu_fieldAddr0 rfl) ?_ | refine s_pu (pu_fieldAddr rfl) ?_
      refine s_rd (rd_load rfl rfl) ?_
      refine s_pu (pu_len_own ⟨A, c, hv⟩ rfl) ?_
      refine s_pu (pu_lss rfl rfl) ?_
      refine swl_sub _ (.cons (t := 2) rfl (.cons (t := 3) rfl (.cons (t := 9) rfl (.cons (t := 12) rfl (.cons (t := 74) rfl .nil))))) ?_
      refine swl_nil ?_
      refine then_n ?_
      refine swp_cond (b := _) rfl (fun h74 => ?_) (fun h74 => ?_)
      · skip   -- 74 T
        have h74' : m + t.size < r.f.bytes.length := by have := of_decide_eq_true h74; omega
        refine swp_ent (Split.ent' (K := [own 5 1 r.v r.f.bytes.length (bcs r.f.bytes), own 5 1 (.slice A3 (m + t.size) c3) (m + t.size) (bcs (r.f.bytes.take m) ++ bcs t.data.toList), blk r.a 82 [.int .i64 (k : Nat), r.v, .int .i64 (r.f.safe : Nat)], holeA x.rs k, fsH p d x, mpe x.sb skv x.es x.cs, mpe x.fb skv x.ef x.cf, own 84 3 x.pv x.ps.length (x.ps.flatMap encP)]) (by repeat (first | exact Split.nil | (apply Split.cons; (repeat (first | with_reducible exact Take.here | apply Take.there)))))) ?_
        refine swp_own (fun a1 a2 a3 => absurd a2 (by omega)) (fun gb cap ex a1 a2 a3 a4 a5 => ?_)
        obtain ⟨rfl, _, rfl⟩ := Value.slice.inj (hv.symm.trans a1)
        have hso : (if c = m + t.size then 0 else 0 + (m + t.size) * 1) = m + t.size := by rw [if_neg (by omega)]; omega
        have hnl : (bcs (r.f.bytes.drop (m + t.size))).length = (r.f.bytes.length - (m + t.size)) * 1 := by rw [bcs_len, List.length_drop]; omega
        have hnews : ∀ (j : Nat) (u : Value), (bcs (r.f.bytes.drop (m + t.size)))[j]? = some u → (bcs r.f.bytes ++ ex)[(if c = m + t.size then 0 else 0 + (m + t.size) * 1) + j]? = some u := fun j u hj => by
          rw [hso]
          rw [bcs_map, List.map_drop, List.getElem?_drop] at hj
          rw [bcs_map, List.getElem?_append_left (List.getElem?_eq_some_iff.1 hj).1]; exact hj
        refine swp_region ?_
        refine s_pu (pu_move rfl) ?_
        refine s_pu (pu_move rfl) ?_
        first | refine s_pu (pu_nilCheck rfl) ?_ | refine s_pu (pu_nilCheck_fn rfl) ?_ | refine s_pu (pu_nilCheck_if rfl) ?_
        first | refine s_pu (pu_fieldAddr0 rfl) ?_ | refine s_pu (pu_fieldAddr rfl) ?_
        refine s_rd (rd_load rfl rfl) ?_
        refine s_pu (pu_move rfl) ?_
        refine s_pu (pu_move rfl) ?_
        refine s_pu (pu_strlen rfl) ?_
        refine s_pu (pu_add_as ((m + t.size : Nat) : Int) rfl rfl (by omega) (by omega) (by omega)) ?_
        refine s_pu (pu_slice_lo (m + t.size) (congrArg some hv) rfl rfl (by omega)) ?_
        refine s_ef (ef_append_of (news := bcs (r.f.bytes.drop (m + t.size))) rfl rfl (by repeat (first | exact Split.nil | (apply Split.cons; (repeat (first | with_reducible exact Take.here | apply Take.there))))) hnl hnews (bcs_one _) (by simp only [maxLen]; omega) (by omega)) ?_
        rintro v85 hv85
        obtain ⟨g5, c5, rfl⟩ := hv85 (by omega)
        refine s_pu (pu_assign rfl) ?_
        refine swl_sub _ (.cons (t := 9) rfl (.cons (t := 12) rfl .nil)) ?_
        refine swl_nil ?_
        refine then_n ⟨some ⟨g5, 0, none⟩, c5, m + t.size + (r.f.bytes.length - (m + t.size)), ?_, ⟨rfl, rfl, trivial⟩, ?_⟩
        · rw [List.length_append, List.length_append, List.length_take, List.length_drop, hbt]; omega
        · rw [bcs_append, bcs_append, hbt]
          exact Split.ent' (by repeat (first | exact Split.nil | (apply Split.cons; (repeat (first | with_reducible exact Take.here | apply Take.there)))))
      · skip   -- 74 F
        refine swp_skip ?_
        have h74' : r.f.bytes.length ≤ m + t.size := by have := of_decide_eq_false h74; omega
        refine then_n ⟨A3, c3, m + t.size, ?_, ⟨rfl, rfl, trivial⟩, ?_⟩
        · rw [List.length_append, List.length_append, List.length_take, List.length_drop, hbt]; omega
        · rw [hbt, List.drop_of_length_le h74', List.append_nil, bcs_append]
          exact Split.ent' (by repeat (first | exact Split.nil | (apply Split.cons; (repeat (first | with_reducible exact Take.here | apply Take.there)))))
    rintro env L ⟨A4, c4, l4, hl4, hsub, hE⟩
    refine swp_sub _ hsub ?_
    refine swp_ent hE ?_
    clear hsub hE env L
    refine swp_seq ?_
    refine swp_region ?_
    refine s_pu (pu_move rfl) ?_
    refine s_pu (pu_move rfl) ?_
    refine s_pu (pu_move rfl) ?_
    refine s_pu (pu_move rfl) ?_
    refine s_pu (pu_len rfl) ?_
    first | refine s_pu (pu_nilCheck rfl) ?_ | refine s_pu (pu_nilCheck_fn rfl) ?_ | refine s_pu (pu_nilCheck_if rfl) ?_
    first | refine s_pu (pu_fieldAddr0 rfl) ?_ | refine s_pu (pu_fieldAddr rfl) ?_
    refine s_ef0 (ef_store rfl rfl rfl) ?_
    first | refine s_pu (pu_nilCheck rfl) ?_ | refine s_pu (pu_nilCheck_fn rfl) ?_ | refine s_pu (pu_nilCheck_if rfl) ?_
    first | refine s_pu (pu_fieldAddr0 rfl) ?_ | refine s_pu (pu_fieldAddr rfl) ?_
    refine s_ef0 (ef_store rfl rfl rfl) ?_
    refine swl_sub _ .nil ?_
    refine swl_nil ?_
    refine then_n ?_
    refine swp_seq ?_
    refine swp_region ?_
    refine s_pu (pu_assign rfl) ?_
    refine swl_sub _ (.cons (t := 8) rfl .nil) ?_
    refine swl_nil ?_
    refine then_n ?_
    refine swp_ret ?_
    rw [key]
    refine done_retE [FSA p (d.setF k ⟨r.f.bytes.take m ++ t.data.toList ++ r.f.bytes.drop (m + t.data.toList.length), (r.f.bytes.take m ++ t.data.toList ++ r.f.bytes.drop (m + t.data.toList.length)).length⟩)] (.tmp rfl .nil) ⟨rfl, rfl⟩ ?_
    refine Ent.trans (Split.ent' (K := [own 5 1 (.slice A4 l4 c4) l4 (bcs (r.f.bytes.take m ++ t.data.toList ++ r.f.bytes.drop (m + t.data.toList.length))), blk r.a 82 [.int .i64 (k : Nat), .slice A4 l4 c4, .int .i64 (l4 : Nat)], holeA x.rs k, fsH p d x, mpe x.sb skv x.es x.cs, mpe x.fb skv x.ef x.cf, own 84 3 x.pv x.ps.length (x.ps.flatMap encP)]) (by repeat (first | exact Split.nil | (apply Split.cons; (repeat (first | with_reducible exact Take.here | apply Take.there)))))) ?_
    generalize r.f.bytes.take m ++ t.data.toList ++ r.f.bytes.drop (m + t.data.toList.length) = B at hl4
    subst hl4
    exact fs_set hx hr (r' := ⟨r.a, .slice A4 B.length c4, ⟨B, B.length⟩⟩) rfl (Nat.le_refl _)
end SX
namespace SX
open Go Go.Proofs
theorem create_at {p : Nat} {d d' : Dk} {s : ByteArray} {e : Int} (hd : d.Ok) (hw : Few d) (h : createD d s = (d', e)) : Spec Try.prog 13 [pv p, .string s] [FSA p d] (fun r L => r = .int .i64 e ∧ L = [FSA p d']) := by
  have := create_spec p d hd hw s; rw [h] at this; exact this
theorem append_at {p : Nat} {d d' : Dk} {s t : ByteArray} {e : Int} (hd : d.Ok) (ht : t.size ≤ 140737488351232) (h : appendD d s t.data.toList = (d', e)) : Spec Try.prog 16 [pv p, .string s, .string t] [FSA p d] (fun r L => r = .int .i64 e ∧ L = [FSA p d']) := by
  have := append_spec p d hd s t ht; rw [h] at this; exact this
theorem sync_at {p : Nat} {d d' : Dk} {s : ByteArray} {e : Int} (hd : d.Ok) (h : syncD d s = (d', e)) : Spec Try.prog 15 [pv p, .string s] [FSA p d] (fun r L => r = .int .i64 e ∧ L = [FSA p d']) := by
  have := sync_spec p d hd s; rw [h] at this; exact this
theorem syncn_at {p : Nat} {d d' : Dk} {e : Int} (hd : d.Ok) (h : syncNamesD d = (d', e)) : Spec Try.prog 14 [pv p] [FSA p d] (fun r L => r = .int .i64 e ∧ L = [FSA p d']) := by
  have := syncn_spec p d hd; rw [h] at this; exact this
theorem read_at {p : Nat} {d : Dk} (hd : d.Ok) {s : ByteArray} {l : List UInt8} {e : Int} (h : readD d s = (l, e)) : Spec Try.prog 18 [pv p, .string s] [FSA p d] (fun r L => r = .tuple #[.string ⟨l.toArray⟩, .int .i64 e] ∧ L = [FSA p d]) := by
  have := read_spec p d hd s; rw [h] at this; exact this
theorem used_fs (p : Nat) (d : Dk) (hd : d.Ok) : Spec Try.prog 31 [pv p] [FSA p d] (fun r L => r = .int .i64 (d.used : Nat) ∧ L = [FSA p d]) := by
  refine FSA.open' fun x hx => ?_
  intro E w hh
  refine ((used_spec p d hd x hx).frame (R := [mpe x.fb skv x.ef x.cf, own 84 3 x.pv x.ps.length (x.ps.flatMap encP)]) (hh.ent (Split.ent' (K := [fsH p d x, mpe x.sb skv x.es x.cs, recsA x.rs, mpe x.fb skv x.ef x.cf, own 84 3 x.pv x.ps.length (x.ps.flatMap encP)]) (by repeat (first | exact Split.nil | (apply Split.cons; (repeat (first | with_reducible exact Take.here | apply Take.there)))))))).mono fun e w' ⟨v, L', he, ⟨hv, hl⟩, h2⟩ => ?_
  subst hl
  refine ⟨v, _, he, ⟨hv, rfl⟩, h2.ent ?_⟩
  simp only [List.cons_append, List.nil_append]
  exact (Split.ent' (K := [fsH p d x, mpe x.sb skv x.es x.cs, mpe x.fb skv x.ef x.cf, own 84 3 x.pv x.ps.length (x.ps.flatMap encP), recsA x.rs]) (by repeat (first | exact Split.nil | (apply Split.cons; (repeat (first | with_reducible exact Take.here | apply Take.there)))))).trans (fs_close hx)
theorem crash_at {μ : PH} {p : Nat} {d d' : Dk} {n : Int} {kv : Value} (keep : List Int) (hd : d.Ok) (hw : Few d) (hk : Row μ kv 1 keep.length (keep.flatMap (icsk .i64))) (h : crashD d n keep = d') :
    Spec Try.prog 17 [pv p, .agg #[.int .i64 n, kv]] [FSA p d, ro μ] (fun _ L => ∃ μ', Le μ μ' ∧ L = [FSA p d', ro μ']) := by
  have := crash_spec μ p d hd n kv keep hk hw; rw [h] at this; exact this
theorem new_at (q : Int) (h : newOk q) : Spec Try.prog 12 [.int .i64 q] [] (fun r L => ∃ p, r = .tuple #[pv p, .int .i64 0] ∧ L = [FSA p (newD q)]) :=
  (new_spec q).mono fun _ _ k => by
    rcases k with ⟨k, _⟩ | ⟨_, k⟩
    · exact absurd h k
    · exact k
theorem row_blk {μ : PH} {b t n l : Nat} {cs : List Value} {fr : Nat × Nat} (hg : μ b = some (.cells cs.toArray t fr)) (hl : cs.length = l * n) (hm : l ≤ maxLen) : Row μ (.slice (some ⟨b, 0, none⟩) l l) n l cs :=
  ⟨hl, some ⟨b, 0, none⟩, l, rfl, Nat.le_refl _, hm, (fun h => by cases h), fun _ => ⟨b, 0, rfl, fun j u hj => ⟨_, _, _, hg, by rw [Nat.zero_add]; simpa using hj⟩⟩⟩
/-! ## the document's first example -/
abbrev sa : ByteArray := ⟨#[97]⟩
abbrev hel : List UInt8 := [104, 101, 108, 108, 111]
def E1 : Dk := ⟨100, [⟨[], 0⟩], [(sa, 0)], [], [⟨nos, sa, 0⟩], 0, false⟩
def E2 : Dk := ⟨100, [⟨hel, 0⟩], [(sa, 0)], [], [⟨nos, sa, 0⟩], 0, false⟩
def E3 : Dk := ⟨100, [⟨hel, 5⟩], [(sa, 0)], [], [⟨nos, sa, 0⟩], 0, false⟩
def E4 : Dk := ⟨100, [⟨hel, 5⟩], [(sa, 0)], [(sa, 0)], [], 0, false⟩
def E5 : Dk := ⟨100, [⟨hel ++ [32, 121, 111, 117], 5⟩], [(sa, 0)], [(sa, 0)], [], 0, false⟩
def E6 : Dk := ⟨100, [⟨hel ++ [32, 121], 7⟩], [(sa, 0)], [(sa, 0)], [], 0, false⟩
theorem st1 : createD (newD 100) sa = (E1, 0) := by kernel_rfl
theorem st2 : appendD E1 sa hel = (E2, 0) := by kernel_rfl
theorem st3 : syncD E2 sa = (E3, 0) := by kernel_rfl
theorem st4 : syncNamesD E3 = (E4, 0) := by kernel_rfl
theorem st5 : appendD E4 sa [32, 121, 111, 117] = (E5, 0) := by kernel_rfl
theorem st6 : crashD E5 0 [2] = E6 := by kernel_rfl
theorem st7 : readD E6 sa = (hel ++ [32, 121], 0) := by kernel_rfl
theorem st8 : E6.used = 7 := by kernel_rfl
theorem st9 : strEq ⟨(hel ++ [32, 121]).toArray⟩ ⟨#[104, 101, 108, 108, 111, 32, 121]⟩ = true := by kernel_rfl
theorem ok_of {d' : Dk} {e : Int} {x : Dk × Int} (h : x.1.Ok) (k : x = (d', e)) : d'.Ok := by rw [k] at h; exact h
theorem oE0 : (newD 100).Ok := newD_ok (by decide)
theorem oE1 : E1.Ok := ok_of (createD_ok oE0 sa) st1
theorem oE2 : E2.Ok := ok_of (appendD_ok oE1 sa hel) st2
theorem oE3 : E3.Ok := ok_of (syncD_ok oE2 sa) st3
theorem oE4 : E4.Ok := ok_of (syncNamesD_ok oE3) st4
theorem oE5 : E5.Ok := ok_of (appendD_ok oE4 sa _) st5
theorem oE6 : E6.Ok := st6 ▸ crashD_ok oE5 0 [2]
set_option maxHeartbeats 4000000 in
theorem stands_spec : Spec Try.prog 11 [] [] (fun r L => r = .bool true ∧ L = []) := by
  refine Spec.of 57 Try.func11 rfl rfl rfl ?_
  refine swp_seq ?_
  refine swp_region ?_
  refine s_pu (pu_assign rfl) ?_
  refine swl_sub _ .nil ?_
  refine swl_nil ?_
  refine then_n ?_
  refine swp_seq ?_
  refine swp_region ?_
  refine s_ef (ef_fn (new_at 100 (by unfold newOk; decide)) rfl rfl (by repeat (first | exact Split.nil | (apply Split.cons; (repeat (first | with_reducible exact Take.here | apply Take.there)))))) ?_
  rintro v5 L1 ⟨p, rfl, rfl⟩
  refine swl_app ?_
  refine s_pu (pu_move rfl) ?_
  first | refine s_pu (pu_extractL rfl) ?_ | refine s_pu (pu_extract rfl rfl) ?_
  first | refine s_pu (pu_extractL rfl) ?_ | refine s_pu (pu_extract rfl rfl) ?_
  refine s_pu (pu_assign rfl) ?_
  refine s_pu (pu_assign rfl) ?_
  refine swl_sub _ (.cons (t := 1) rfl (.cons (t := 2) rfl .nil)) ?_
  refine swl_nil ?_
  refine then_n ?_
  refine swp_seq ?_
  refine swp_seq ?_
  refine swp_region ?_
  refine s_pu (pu_move rfl) ?_
  refine s_pu (pu_ptr_eq_nil rfl rfl) ?_
  refine s_pu (pu_move rfl) ?_
  refine s_split 10 rfl (fun h10 => by cases h10) (fun h10 => ?_)
  refine s_on rfl rfl ?_
  refine s_pu (pu_move rfl) ?_
  refine s_on rfl rfl ?_
  refine s_pu (pu_neq rfl rfl) ?_
  first | refine s_pu (pu_pick_t rfl rfl) ?_ | refine s_pu (pu_pick_f rfl rfl) ?_
  refine swl_sub _ (.cons (t := 1) rfl (.cons (t := 13) rfl .nil)) ?_
  refine swl_nil ?_
  refine then_n ?_
  refine swp_cond (b := _) rfl (fun h13 => by cases h13) (fun h13 => ?_)
  refine swp_skip ?_
  refine then_n ?_
  refine swp_seq ?_
  refine swp_seq ?_
  refine swp_region ?_
  refine s_pu (pu_move rfl) ?_
  refine s_ef (ef_fn (create_at (d' := E1) (e := 0) oE0 ⟨by decide, by decide⟩ st1) rfl rfl (by repeat (first | exact Split.nil | (apply Split.cons; (repeat (first | with_reducible exact Take.here | apply Take.there)))))) ?_
  rintro v15 L1 ⟨rfl, rfl⟩
  refine swl_app ?_
  refine s_pu (pu_neq rfl rfl) ?_
  refine s_pu (pu_move rfl) ?_
  refine s_split 17 rfl (fun h17 => by cases h17) (fun h17 => ?_)
  refine s_on rfl rfl ?_
  refine s_pu (pu_move rfl) ?_
  refine s_on rfl rfl ?_
  refine s_ef (ef_fn (append_at (d' := E2) (e := 0) (t := ⟨#[104, 101, 108, 108, 111]⟩) oE1 (by decide) st2) rfl rfl (by repeat (first | exact Split.nil | (apply Split.cons; (repeat (first | with_reducible exact Take.here | apply Take.there)))))) ?_
  rintro v19 L1 ⟨rfl, rfl⟩
  refine swl_app ?_
  refine s_on rfl rfl ?_
  refine s_pu (pu_neq rfl rfl) ?_
  first | refine s_pu (pu_pick_t rfl rfl) ?_ | refine s_pu (pu_pick_f rfl rfl) ?_
  refine s_pu (pu_move rfl) ?_
  refine s_split 22 rfl (fun h22 => by cases h22) (fun h22 => ?_)
  refine s_on rfl rfl ?_
  refine s_pu (pu_move rfl) ?_
  refine s_on rfl rfl ?_
  refine s_ef (ef_fn (sync_at (d' := E3) (e := 0) oE2 st3) rfl rfl (by repeat (first | exact Split.nil | (apply Split.cons; (repeat (first | with_reducible exact Take.here | apply Take.there)))))) ?_
  rintro v24 L1 ⟨rfl, rfl⟩
  refine swl_app ?_
  refine s_on rfl rfl ?_
  refine s_pu (pu_neq rfl rfl) ?_
  first | refine s_pu (pu_pick_t rfl rfl) ?_ | refine s_pu (pu_pick_f rfl rfl) ?_
  refine s_pu (pu_move rfl) ?_
  refine s_split 27 rfl (fun h27 => by cases h27) (fun h27 => ?_)
  refine s_on rfl rfl ?_
  refine s_pu (pu_move rfl) ?_
  refine s_on rfl rfl ?_
  refine s_ef (ef_fn (syncn_at (d' := E4) (e := 0) oE3 st4) rfl rfl (by repeat (first | exact Split.nil | (apply Split.cons; (repeat (first | with_reducible exact Take.here | apply Take.there)))))) ?_
  rintro v29 L1 ⟨rfl, rfl⟩
  refine swl_app ?_
  refine s_on rfl rfl ?_
  refine s_pu (pu_neq rfl rfl) ?_
  first | refine s_pu (pu_pick_t rfl rfl) ?_ | refine s_pu (pu_pick_f rfl rfl) ?_
  refine s_pu (pu_move rfl) ?_
  refine s_split 32 rfl (fun h32 => by cases h32) (fun h32 => ?_)
  refine s_on rfl rfl ?_
  refine s_pu (pu_move rfl) ?_
  refine s_on rfl rfl ?_
  refine s_ef (ef_fn (append_at (d' := E5) (e := 0) (t := ⟨#[32, 121, 111, 117]⟩) oE4 (by decide) st5) rfl rfl (by repeat (first | exact Split.nil | (apply Split.cons; (repeat (first | with_reducible exact Take.here | apply Take.there)))))) ?_
  rintro v34 L1 ⟨rfl, rfl⟩
  refine swl_app ?_
  refine s_on rfl rfl ?_
  refine s_pu (pu_neq rfl rfl) ?_
  first | refine s_pu (pu_pick_t rfl rfl) ?_ | refine s_pu (pu_pick_f rfl rfl) ?_
  refine swl_sub _ (.cons (t := 1) rfl (.cons (t := 36) rfl .nil)) ?_
  refine swl_nil ?_
  refine then_n ?_
  refine swp_cond (b := _) rfl (fun h36 => by cases h36) (fun h36 => ?_)
  refine swp_skip ?_
  refine then_n ?_
  refine swp_seq ?_
  refine swp_region ?_
  refine s_pu (pu_move rfl) ?_
  refine s_ef (ef_bldS (qs := [(0, _)]) rfl rfl rfl) ?_
  intro b38
  refine s_pu (pu_bld (qs := [(1, _)]) rfl) ?_
  refine swl_ent ent_ro0 ?_
  refine swl_share (b := b38) (by repeat (first | exact Split.nil | (apply Split.cons; (repeat (first | with_reducible exact Take.here | apply Take.there))))) fun μ1 _ g1 => ?_
  refine s_ef (ef_fn (crash_at [2] oE5 ⟨by decide, by decide⟩ (row_blk g1 rfl (by decide)) st6) rfl rfl (by repeat (first | exact Split.nil | (apply Split.cons; (repeat (first | with_reducible exact Take.here | apply Take.there)))))) ?_
  rintro v40 L1 ⟨μ2, _, rfl⟩
  refine swl_app ?_
  refine swl_sub _ (.cons (t := 1) rfl .nil) ?_
  refine swl_nil ?_
  refine then_n ?_
  refine swp_seq ?_
  refine swp_region ?_
  refine s_pu (pu_move rfl) ?_
  refine s_ef (ef_fn (read_at oE6 st7) rfl rfl (by repeat (first | exact Split.nil | (apply Split.cons; (repeat (first | with_reducible exact Take.here | apply Take.there)))))) ?_
  rintro v43 L1 ⟨rfl, rfl⟩
  refine swl_app ?_
  refine s_pu (pu_move rfl) ?_
  first | refine s_pu (pu_extractL rfl) ?_ | refine s_pu (pu_extract rfl rfl) ?_
  first | refine s_pu (pu_extractL rfl) ?_ | refine s_pu (pu_extract rfl rfl) ?_
  refine s_pu (pu_assign rfl) ?_
  refine s_pu (pu_assign rfl) ?_
  refine swl_sub _ (.cons (t := 1) rfl (.cons (t := 2) rfl (.cons (t := 3) rfl .nil))) ?_
  refine swl_nil ?_
  refine then_n ?_
  refine swp_seq ?_
  refine swp_region ?_
  refine s_pu (pu_move rfl) ?_
  refine s_pu (pu_str_eql rfl rfl) ?_
  refine s_pu (pu_move rfl) ?_
  refine s_split 48 rfl (fun h48 => ?_) (fun h48 => by cases st9.symm.trans h48)
  refine s_on rfl rfl ?_
  refine s_pu (pu_move rfl) ?_
  refine s_on rfl rfl ?_
  refine s_pu (pu_eql rfl rfl) ?_
  first | refine s_pu (pu_pick_t rfl rfl) ?_ | refine s_pu (pu_pick_f rfl rfl) ?_
  refine s_pu (pu_move rfl) ?_
  refine s_split 52 rfl (fun h52 => ?_) (fun h52 => by cases h52)
  refine s_on rfl rfl ?_
  refine s_pu (pu_move rfl) ?_
  refine s_on rfl rfl ?_
  refine s_ef (ef_fn (used_fs p E6 oE6) rfl rfl (by repeat (first | exact Split.nil | (apply Split.cons; (repeat (first | with_reducible exact Take.here | apply Take.there)))))) ?_
  rintro v54 L1 ⟨rfl, rfl⟩
  refine swl_app ?_
  refine s_on rfl rfl ?_
  refine s_pu (pu_eql rfl rfl) ?_
  first | refine s_pu (pu_pick_t rfl rfl) ?_ | refine s_pu (pu_pick_f rfl rfl) ?_
  refine s_pu (pu_assign rfl) ?_
  refine swl_sub _ (.cons (t := 0) rfl .nil) ?_
  refine swl_nil ?_
  refine then_n ?_
  refine swp_ret ?_
  exact done_ret [] (.tmp rfl .nil) ⟨by rw [st8]; rfl, rfl⟩ (by repeat (first | exact Split.nil | (apply Split.cons; (repeat (first | with_reducible exact Take.here | apply Take.there)))))
end SX
namespace SX
open Go Go.Proofs
/-! ## the document's disk -/
abbrev rF1 (f : Fl) : List Value := [.string ⟨f.bytes.toArray⟩, .int .i64 (f.safe : Nat)]
abbrev rN1 (x : Nm) : List Value := [.string x.1, .int .i64 (x.2 : Nat)]
abbrev rC1 (c : Cg) : List Value := [.string c.gone, .string c.come, .int .i64 (c.file : Nat)]
structure RX where
  fv : Value
  sv : Value
  av : Value
  wv : Value
abbrev rdC (q : Int) (fv sv av wv : Value) (fa : Int) (off : Bool) : List Value := [.int .i64 q, fv, sv, av, wv, .int .i64 fa, .bool off]
abbrev rdH (p : Nat) (d : Dk) (x : RX) : Assn := blk p 64 (rdC d.quota x.fv x.sv x.av x.wv d.falls d.off)
def RDA (p : Nat) (d : Dk) : Assn := exA fun x : RX => [rdH p d x, own 99 2 x.fv d.files.length (d.files.flatMap rF1), own 97 2 x.sv d.seen.length (d.seen.flatMap rN1), own 97 2 x.av d.safe.length (d.safe.flatMap rN1), own 95 3 x.wv d.pend.length (d.pend.flatMap rC1)]
theorem rd_close {p : Nat} {d : Dk} {x : RX} {L : List Assn} : Ent (rdH p d x :: own 99 2 x.fv d.files.length (d.files.flatMap rF1) :: own 97 2 x.sv d.seen.length (d.seen.flatMap rN1) :: own 97 2 x.av d.safe.length (d.safe.flatMap rN1) :: own 95 3 x.wv d.pend.length (d.pend.flatMap rC1) :: L) (RDA p d :: L) :=
  ent_ex (F := fun x : RX => [rdH p d x, own 99 2 x.fv d.files.length (d.files.flatMap rF1), own 97 2 x.sv d.seen.length (d.seen.flatMap rN1), own 97 2 x.av d.safe.length (d.safe.flatMap rN1), own 95 3 x.wv d.pend.length (d.pend.flatMap rC1)]) x (by repeat (first | exact Split.nil | (apply Split.cons; (repeat (first | with_reducible exact Take.here | apply Take.there)))))
theorem RDA.open' {p : Nat} {d : Dk} {f : FuncId} {args : List Value} {L : List Assn} {post : Value → List Assn → Prop}
    (h : ∀ x : RX, Spec Try.prog f args (rdH p d x :: own 99 2 x.fv d.files.length (d.files.flatMap rF1) :: own 97 2 x.sv d.seen.length (d.seen.flatMap rN1) :: own 97 2 x.av d.safe.length (d.safe.flatMap rN1) :: own 95 3 x.wv d.pend.length (d.pend.flatMap rC1) :: L) post) : Spec Try.prog f args (RDA p d :: L) post := Spec.exA' fun x => h x
theorem rgood_spec (s : ByteArray) : Spec Try.prog 68 [.string s] [] (fun r L => r = .bool (goodN s) ∧ L = []) := by
  have hb := bsize s
  refine Spec.of 28 Try.func68 rfl rfl rfl ?_
  refine swp_seq ?_
  refine swp_region ?_
  refine s_pu (pu_assign rfl) ?_
  refine swl_sub _ (.cons (t := 0) rfl .nil) ?_
  refine swl_nil ?_
  refine then_n ?_
  refine swp_seq ?_
  refine swp_seq ?_
  refine swp_region ?_
  refine s_pu (pu_move rfl) ?_
  refine s_pu (pu_strlen rfl) ?_
  refine s_pu (pu_lss rfl rfl) ?_
  refine s_pu (pu_move rfl) ?_
  refine s_split 7 rfl (fun h7 => ?_) (fun h7 => ?_)
  · skip   -- 7 T
    refine s_off rfl rfl rfl ?_
    refine s_off rfl rfl rfl ?_
    refine s_off rfl rfl rfl ?_
    first | refine s_pu (pu_pick_t rfl rfl) ?_ | refine s_pu (pu_pick_f rfl rfl) ?_
    refine swl_sub _ (.cons (t := 0) rfl (.cons (t := 11) rfl .nil)) ?_
    refine swl_nil ?_
    refine then_n ?_
    refine swp_cond (b := _) rfl (fun h11 => ?_) (fun h11 => by cases h11)
    refine swp_seq ?_
    refine swp_region ?_
    refine s_pu (pu_assign rfl) ?_
    refine swl_sub _ (.cons (t := 2) rfl .nil) ?_
    refine swl_nil ?_
    refine then_n ?_
    refine swp_ret ?_
    refine then_r ?_
    refine done_ret [] (.tmp rfl .nil) ⟨?_, rfl⟩ (by repeat (first | exact Split.nil | (apply Split.cons; (repeat (first | with_reducible exact Take.here | apply Take.there)))))
    have h7' := of_decide_eq_true h7
    unfold goodN
    rw [decide_eq_false (show ¬ 1 ≤ s.size by omega)]; rfl
  · skip   -- 7 F
    refine s_on rfl rfl ?_
    refine s_pu (pu_move rfl) ?_
    refine s_on rfl rfl ?_
    refine s_pu (pu_strlen rfl) ?_
    refine s_on rfl rfl ?_
    refine s_pu (pu_gtr rfl rfl) ?_
    first | refine s_pu (pu_pick_t rfl rfl) ?_ | refine s_pu (pu_pick_f rfl rfl) ?_
    refine swl_sub _ (.cons (t := 0) rfl (.cons (t := 11) rfl .nil)) ?_
    refine swl_nil ?_
    refine then_n ?_
    refine swp_cond (b := _) rfl (fun h11 => ?_) (fun h11 => ?_)
    · skip   -- 11 T
      refine swp_seq ?_
      refine swp_region ?_
      refine s_pu (pu_assign rfl) ?_
      refine swl_sub _ (.cons (t := 2) rfl .nil) ?_
      refine swl_nil ?_
      refine then_n ?_
      refine swp_ret ?_
      refine then_r ?_
      refine done_ret [] (.tmp rfl .nil) ⟨?_, rfl⟩ (by repeat (first | exact Split.nil | (apply Split.cons; (repeat (first | with_reducible exact Take.here | apply Take.there)))))
      have h11' := of_decide_eq_true h11
      unfold goodN
      rw [decide_eq_false (show ¬ s.size ≤ 32 by omega), Bool.false_and, Bool.and_false]; rfl
    · skip   -- 11 F
      have h7' : 1 ≤ s.size := by have := of_decide_eq_false h7; omega
      have h11' : s.size ≤ 32 := by have := of_decide_eq_false h11; omega
      have key : goodN s = s.data.toList.all fun b => decide (33 ≤ b.toNat) && decide (b.toNat ≤ 126) := by
        unfold goodN; rw [decide_eq_true h7', decide_eq_true h11']; rfl
      refine swp_skip ?_
      refine then_n ?_
      refine swp_seq ?_
      refine swp_seq ?_
      refine swp_region ?_
      refine s_pu (pu_assign rfl) ?_
      refine swl_sub _ (.cons (t := 0) rfl (.cons (t := 3) rfl .nil)) ?_
      refine swl_nil ?_
      refine then_n ?_
      refine swp_block ?_
      refine swp_loop (ι := Nat) (fun i env L => Sub env [(0, .string s), (3, .int .i64 (i : Nat))] ∧ Ent L [] ∧ i ≤ s.size ∧ (s.data.toList.take i).all (fun b => decide (33 ≤ b.toNat) && decide (b.toNat ≤ 126)) = true) (fun i => s.size - i) 0 ⟨⟨rfl, rfl, trivial⟩, Split.ent' (by repeat (first | exact Split.nil | (apply Split.cons; (repeat (first | with_reducible exact Take.here | apply Take.there))))), Nat.zero_le _, rfl⟩ ?_
      rintro i env L ⟨hsub, hE, hi, hall⟩
      refine swp_sub _ hsub ?_
      refine swp_ent hE ?_
      clear hsub hE env L
      refine swp_seq ?_
      refine swp_seq ?_
      refine swp_region ?_
      refine s_pu (pu_move rfl) ?_
      refine s_pu (pu_move rfl) ?_
      refine s_pu (pu_strlen rfl) ?_
      refine s_pu (pu_lss rfl rfl) ?_
      refine swl_sub _ (.cons (t := 0) rfl (.cons (t := 3) rfl (.cons (t := 15) rfl .nil))) ?_
      refine swl_nil ?_
      refine then_n ?_
      refine swp_cond (b := _) rfl (fun h15 => ?_) (fun h15 => ?_)
      · skip   -- 15 T
        have h15' : i < s.size := by have := of_decide_eq_true h15; omega
        obtain ⟨b, hbb⟩ : ∃ b, s.data.toList[i]? = some b := ⟨_, List.getElem?_eq_getElem (by omega)⟩
        have hstep : (s.data.toList.take (i + 1)).all (fun b => decide (33 ≤ b.toNat) && decide (b.toNat ≤ 126)) = (decide (33 ≤ b.toNat) && decide (b.toNat ≤ 126)) := by
          rw [List.take_add_one, hbb, List.all_append, hall]; simp
        refine swp_skip ?_
        refine then_n ?_
        refine swp_seq ?_
        refine swp_block ?_
        refine swp_seq ?_
        refine swp_region ?_
        refine s_pu (pu_move rfl) ?_
        refine s_pu (pu_move rfl) ?_
        refine s_pu (pu_str_index rfl rfl rfl hbb) ?_
        refine s_pu (pu_lss rfl rfl) ?_
        refine s_pu (pu_move rfl) ?_
        refine s_split 22 rfl (fun h22 => ?_) (fun h22 => ?_)
        · skip   -- 22 T
          refine s_off rfl rfl rfl ?_
          refine s_off rfl rfl rfl ?_
          refine s_off rfl rfl rfl ?_
          refine s_off rfl rfl rfl ?_
          first | refine s_pu (pu_pick_t rfl rfl) ?_ | refine s_pu (pu_pick_f rfl rfl) ?_
          refine swl_sub _ (.cons (t := 0) rfl (.cons (t := 3) rfl (.cons (t := 27) rfl .nil))) ?_
          refine swl_nil ?_
          refine then_n ?_
          refine swp_cond (b := _) rfl (fun h27 => ?_) (fun h27 => by cases h27)
          refine swp_seq ?_
          refine swp_region ?_
          refine s_pu (pu_assign rfl) ?_
          refine swl_sub _ (.cons (t := 2) rfl .nil) ?_
          refine swl_nil ?_
          refine then_n ?_
          refine swp_ret ?_
          refine block_r ?_
          refine then_r ?_
          refine then_r ?_
          refine block_r ?_
          refine then_r ?_
          refine done_ret [] (.tmp rfl .nil) ⟨?_, rfl⟩ (by repeat (first | exact Split.nil | (apply Split.cons; (repeat (first | with_reducible exact Take.here | apply Take.there)))))
          rw [key]
          refine congrArg Value.bool ?_
          symm
          refine Bool.eq_false_iff.2 fun hh => ?_
          have := List.all_eq_true.1 hh b (List.mem_of_getElem? hbb)
          rw [Bool.and_eq_true, decide_eq_true_eq, decide_eq_true_eq] at this
          first
            | (have h22' := of_decide_eq_true h22; omega)
            | (have h27' := of_decide_eq_true h27; omega)
        · skip   -- 22 F
          refine s_on rfl rfl ?_
          refine s_pu (pu_move rfl) ?_
          refine s_on rfl rfl ?_
          refine s_pu (pu_move rfl) ?_
          refine s_on rfl rfl ?_
          refine s_pu (pu_str_index rfl rfl rfl hbb) ?_
          refine s_on rfl rfl ?_
          refine s_pu (pu_gtr rfl rfl) ?_
          first | refine s_pu (pu_pick_t rfl rfl) ?_ | refine s_pu (pu_pick_f rfl rfl) ?_
          refine swl_sub _ (.cons (t := 0) rfl (.cons (t := 3) rfl (.cons (t := 27) rfl .nil))) ?_
          refine swl_nil ?_
          refine then_n ?_
          refine swp_cond (b := _) rfl (fun h27 => ?_) (fun h27 => ?_)
          · skip   -- 27 T
            refine swp_seq ?_
            refine swp_region ?_
            refine s_pu (pu_assign rfl) ?_
            refine swl_sub _ (.cons (t := 2) rfl .nil) ?_
            refine swl_nil ?_
            refine then_n ?_
            refine swp_ret ?_
            refine block_r ?_
            refine then_r ?_
            refine then_r ?_
            refine block_r ?_
            refine then_r ?_
            refine done_ret [] (.tmp rfl .nil) ⟨?_, rfl⟩ (by repeat (first | exact Split.nil | (apply Split.cons; (repeat (first | with_reducible exact Take.here | apply Take.there)))))
            rw [key]
            refine congrArg Value.bool ?_
            symm
            refine Bool.eq_false_iff.2 fun hh => ?_
            have := List.all_eq_true.1 hh b (List.mem_of_getElem? hbb)
            rw [Bool.and_eq_true, decide_eq_true_eq, decide_eq_true_eq] at this
            first
              | (have h22' := of_decide_eq_true h22; omega)
              | (have h27' := of_decide_eq_true h27; omega)
          · skip   -- 27 F
            refine swp_skip ?_
            refine block_n ?_
            refine then_n ?_
            refine swp_region ?_
            refine s_pu (pu_move rfl) ?_
            refine s_pu (pu_add_as ((i + 1 : Nat) : Int) rfl rfl (by omega) (by omega) (by omega)) ?_
            refine s_pu (pu_assign rfl) ?_
            refine swl_sub _ (.cons (t := 0) rfl (.cons (t := 3) rfl .nil)) ?_
            refine swl_nil ?_
            have h22' := of_decide_eq_false h22
            have h27' := of_decide_eq_false h27
            refine then_n ⟨i + 1, ⟨⟨rfl, rfl, trivial⟩, Split.ent' (by repeat (first | exact Split.nil | (apply Split.cons; (repeat (first | with_reducible exact Take.here | apply Take.there))))), h15', ?_⟩, by omega⟩
            rw [hstep, decide_eq_true (show 33 ≤ b.toNat by omega), decide_eq_true (show b.toNat ≤ 126 by omega)]; rfl
      · skip   -- 15 F
        have h15' : i = s.size := by have := of_decide_eq_false h15; omega
        rw [h15', ← hb, List.take_length] at hall
        refine swp_exit ?_
        refine then_x ?_
        refine then_x ?_
        refine block_hit rfl ?_
        refine then_n ?_
        refine swp_seq ?_
        refine swp_region ?_
        refine s_pu (pu_assign rfl) ?_
        refine swl_sub _ (.cons (t := 2) rfl .nil) ?_
        refine swl_nil ?_
        refine then_n ?_
        refine swp_ret ?_
        refine done_ret [] (.tmp rfl .nil) ⟨by rw [key, hall]; rfl, rfl⟩ (by repeat (first | exact Split.nil | (apply Split.cons; (repeat (first | with_reducible exact Take.here | apply Take.there)))))
theorem rfind_spec (v : Value) (l : List Nm) (s : ByteArray) (_ : l.length ≤ 1048576) : Spec Try.prog 69 [v, .string s] [own 97 2 v l.length (l.flatMap rN1)]
    (fun r L => (∃ i : Int, r = .int .i64 i ∧ ((i < 0 ∧ findN l s = none) ∨ ∃ (k : Nat) (y : Nm), i = (k : Int) ∧ l[k]? = some y ∧ findN l s = some y.2)) ∧ L = [own 97 2 v l.length (l.flatMap rN1)]) := by
  refine Spec.fact' (fun m h => own_cap2 h) fun ⟨A, c, hv, hlc, hcm, hA, hA2⟩ => ?_
  simp only [maxLen] at hcm
  subst hv
  refine Spec.of 20 Try.func69 rfl rfl rfl ?_
  refine swp_seq ?_
  refine swp_region ?_
  refine s_pu (pu_assign rfl) ?_
  refine swl_sub _ (.cons (t := 0) rfl (.cons (t := 1) rfl .nil)) ?_
  refine swl_nil ?_
  refine then_n ?_
  refine swp_seq ?_
  refine swp_seq ?_
  refine swp_region ?_
  refine s_pu (pu_assign rfl) ?_
  refine swl_sub _ (.cons (t := 0) rfl (.cons (t := 1) rfl (.cons (t := 5) rfl .nil))) ?_
  refine swl_nil ?_
  refine then_n ?_
  refine swp_block ?_
  refine swp_loop (ι := Nat) (fun i env L => Sub env [(0, .slice A l.length c), (1, .string s), (5, .int .i64 (i : Nat))] ∧ Ent L [own 97 2 (.slice A l.length c) l.length (l.flatMap rN1)] ∧ i ≤ l.length ∧ findN (l.take i) s = none) (fun i => l.length - i) 0 ⟨⟨rfl, rfl, rfl, trivial⟩, Split.ent' (by repeat (first | exact Split.nil | (apply Split.cons; (repeat (first | with_reducible exact Take.here | apply Take.there))))), Nat.zero_le _, rfl⟩ ?_
  rintro i env L ⟨hsub, hE, hi, hn⟩
  refine swp_sub _ hsub ?_
  refine swp_ent hE ?_
  clear hsub hE env L
  refine swp_seq ?_
  refine swp_seq ?_
  refine swp_region ?_
  refine s_pu (pu_move rfl) ?_
  refine s_pu (pu_move rfl) ?_
  refine s_pu (pu_len rfl) ?_
  refine s_pu (pu_lss rfl rfl) ?_
  refine swl_sub _ (.cons (t := 0) rfl (.cons (t := 1) rfl (.cons (t := 5) rfl (.cons (t := 9) rfl .nil)))) ?_
  refine swl_nil ?_
  refine then_n ?_
  refine swp_cond (b := _) rfl (fun h9 => ?_) (fun h9 => ?_)
  · skip   -- 9 T
    have h9' : i < l.length := by have := of_decide_eq_true h9; omega
    obtain ⟨a, ha⟩ : ∃ a, A = some a := by cases A with | none => have := hA rfl; omega | some a => exact ⟨a, rfl⟩
    obtain ⟨b, rfl⟩ := hA2 a ha
    subst ha
    obtain ⟨y, hy⟩ : ∃ y, l[i]? = some y := ⟨_, List.getElem?_eq_getElem h9'⟩
    have hcell := flat_at (f := rN1) (n := 2) (fun _ => rfl) hy 0 _ rfl
    have hdrop : l.drop i = y :: l.drop (i + 1) := by rw [List.drop_eq_getElem_cons h9', (List.getElem?_eq_some_iff.1 hy).2]
    refine swp_skip ?_
    refine then_n ?_
    refine swp_seq ?_
    refine swp_block ?_
    refine swp_seq ?_
    refine swp_region ?_
    refine s_pu (pu_move rfl) ?_
    refine s_pu (pu_move rfl) ?_
    refine s_pu (pu_indexAddr (0 + i * 2) rfl rfl (by omega) (by omega) (by rw [Int.toNat_natCast])) ?_
    first | refine s_pu (pu_fieldAddr0 rfl) ?_ | refine s_pu (pu_fieldAddr rfl) ?_
    refine s_rd (rd_own rfl (by repeat (first | with_reducible exact Take.here | apply Take.there)) (by rw [Nat.zero_add]; exact hcell)) ?_
    refine s_pu (pu_move rfl) ?_
    refine s_pu (pu_str_eql rfl rfl) ?_
    refine swl_sub _ (.cons (t := 0) rfl (.cons (t := 1) rfl (.cons (t := 5) rfl (.cons (t := 18) rfl .nil)))) ?_
    refine swl_nil ?_
    refine then_n ?_
    refine swp_cond (b := _) rfl (fun h18 => ?_) (fun h18 => ?_)
    · skip   -- 18 T
      refine swp_seq ?_
      refine swp_region ?_
      refine s_pu (pu_move rfl) ?_
      refine s_pu (pu_assign rfl) ?_
      refine swl_sub _ (.cons (t := 4) rfl .nil) ?_
      refine swl_nil ?_
      refine then_n ?_
      refine swp_ret ?_
      refine block_r ?_
      refine then_r ?_
      refine then_r ?_
      refine block_r ?_
      refine then_r ?_
      refine done_ret [own 97 2 (.slice (some ⟨b, 0, none⟩) l.length c) l.length (l.flatMap rN1)] (.tmp rfl .nil) ⟨⟨i, rfl, .inr ⟨i, y, rfl, hy, ?_⟩⟩, rfl⟩ (by repeat (first | exact Split.nil | (apply Split.cons; (repeat (first | with_reducible exact Take.here | apply Take.there)))))
      rw [← List.take_append_drop i l, find_app, hn, hdrop, findN_cons, if_pos h18]; rfl
    · skip   -- 18 F
      refine swp_skip ?_
      refine block_n ?_
      refine then_n ?_
      refine swp_region ?_
      refine s_pu (pu_move rfl) ?_
      refine s_pu (pu_add_as ((i + 1 : Nat) : Int) rfl rfl (by omega) (by omega) (by omega)) ?_
      refine s_pu (pu_assign rfl) ?_
      refine swl_sub _ (.cons (t := 0) rfl (.cons (t := 1) rfl (.cons (t := 5) rfl .nil))) ?_
      refine swl_nil ?_
      refine then_n ⟨i + 1, ⟨⟨rfl, rfl, rfl, trivial⟩, Split.ent' (by repeat (first | exact Split.nil | (apply Split.cons; (repeat (first | with_reducible exact Take.here | apply Take.there))))), h9', ?_⟩, by omega⟩
      rw [List.take_add_one, hy, find_app, hn]
      show findN [y] s = none
      rw [findN_cons, if_neg (by rw [h18]; decide)]; rfl
  · skip   -- 9 F
    have h9' : i = l.length := by have := of_decide_eq_false h9; omega
    rw [h9', List.take_length] at hn
    refine swp_exit ?_
    refine then_x ?_
    refine then_x ?_
    refine block_hit rfl ?_
    refine then_n ?_
    refine swp_seq ?_
    refine swp_region ?_
    refine s_pu (pu_assign rfl) ?_
    refine swl_sub _ (.cons (t := 4) rfl .nil) ?_
    refine swl_nil ?_
    refine then_n ?_
    refine swp_ret ?_
    exact done_ret [own 97 2 (.slice A l.length c) l.length (l.flatMap rN1)] (.tmp rfl .nil) ⟨⟨-1, rfl, .inl ⟨by omega, hn⟩⟩, rfl⟩ (by repeat (first | exact Split.nil | (apply Split.cons; (repeat (first | with_reducible exact Take.here | apply Take.there)))))
end SX
namespace SX
open Go Go.Proofs
/-- what the number of a name's file is, or the error -/
def FileR (d : Dk) (s : ByteArray) (k e : Int) : Prop := (e ≠ 0 ∧ readD d s = ([], e) ∧ ∀ f, onFile d s f = (d, e)) ∨ (e = 0 ∧ ∃ j : Nat, k = (j : Int) ∧ findN d.seen s = some j ∧ readD d s = ((d.fl j).bytes, 0) ∧ ∀ f, onFile d s f = f j)
theorem rfile_spec (p : Nat) (d : Dk) (hd : d.Ok) (x : RX) (s : ByteArray) : Spec Try.prog 72 [pv p, .string s] [rdH p d x, own 97 2 x.sv d.seen.length (d.seen.flatMap rN1)] (fun r L => (∃ k e, r = .tuple #[.int .i64 k, .int .i64 e] ∧ FileR d s k e) ∧ L = [rdH p d x, own 97 2 x.sv d.seen.length (d.seen.flatMap rN1)]) := by
  have hsl := hd.seenLe
  refine Spec.pre (pre := [own 97 2 x.sv d.seen.length (d.seen.flatMap rN1), rdH p d x]) ?_ Ent.swap
  refine Spec.fact' (fun m h => own_cap2 h) fun ⟨A, c, hv, hlc, hcm, hA, hA2⟩ => ?_
  simp only [maxLen] at hcm
  refine Spec.of 27 Try.func72 rfl rfl rfl ?_
  refine swp_seq ?_
  refine swp_region ?_
  refine s_pu (pu_assign rfl) ?_
  refine s_pu (pu_assign rfl) ?_
  refine swl_sub _ (.cons (t := 0) rfl (.cons (t := 1) rfl .nil)) ?_
  refine swl_nil ?_
  refine then_n ?_
  refine swp_seq ?_
  refine swp_seq ?_
  refine swp_region ?_
  refine s_pu (pu_move rfl) ?_
  first | refine s_pu (pu_nilCheck rfl) ?_ | refine s_pu (pu_nilCheck_fn rfl) ?_ | refine s_pu (pu_nilCheck_if rfl) ?_
  first | refine s_pu (pu_fieldAddr0 rfl) ?_ | refine s_pu (pu_fieldAddr rfl) ?_
  refine s_rd (rd_load rfl rfl) ?_
  refine swl_sub _ (.cons (t := 0) rfl (.cons (t := 1) rfl (.cons (t := 10) rfl .nil))) ?_
  refine swl_nil ?_
  refine then_n ?_
  refine swp_cond (b := _) rfl (fun h10 => ?_) (fun h10 => ?_)
  · skip   -- 10 T
    refine swp_seq ?_
    refine swp_region ?_
    refine s_pu (pu_assign rfl) ?_
    refine s_pu (pu_assign rfl) ?_
    refine swl_sub _ (.cons (t := 4) rfl (.cons (t := 5) rfl .nil)) ?_
    refine swl_nil ?_
    refine then_n ?_
    refine swp_ret ?_
    refine then_r ?_
    refine done_ret [rdH p d x, own 97 2 x.sv d.seen.length (d.seen.flatMap rN1)] (.tmp rfl (.tmp rfl .nil)) ⟨⟨0, 8, rfl, .inl ⟨by decide, ?_, fun f => ?_⟩⟩, rfl⟩ (by repeat (first | exact Split.nil | (apply Split.cons; (repeat (first | with_reducible exact Take.here | apply Take.there)))))
    · unfold readD; rw [if_pos h10]
    · unfold onFile; rw [if_pos h10]
  · skip   -- 10 F
    have hoff : ¬ d.off = true := by rw [h10]; decide
    refine swp_skip ?_
    refine then_n ?_
    refine swp_seq ?_
    refine swp_region ?_
    refine s_pu (pu_move rfl) ?_
    first | refine s_pu (pu_nilCheck rfl) ?_ | refine s_pu (pu_nilCheck_fn rfl) ?_ | refine s_pu (pu_nilCheck_if rfl) ?_
    first | refine s_pu (pu_fieldAddr0 rfl) ?_ | refine s_pu (pu_fieldAddr rfl) ?_
    refine s_rd (rd_load rfl rfl) ?_
    refine s_pu (pu_move rfl) ?_
    refine s_ef (ef_fn (rfind_spec x.sv d.seen s (by omega)) rfl rfl (by repeat (first | exact Split.nil | (apply Split.cons; (repeat (first | with_reducible exact Take.here | apply Take.there)))))) ?_
    rintro v16 L1 ⟨⟨i, rfl, hi⟩, rfl⟩
    refine swl_app ?_
    refine s_pu (pu_assign rfl) ?_
    refine swl_sub _ (.cons (t := 0) rfl (.cons (t := 6) rfl .nil)) ?_
    refine swl_nil ?_
    refine then_n ?_
    refine swp_seq ?_
    refine swp_seq ?_
    refine swp_region ?_
    refine s_pu (pu_move rfl) ?_
    refine s_pu (pu_lss rfl rfl) ?_
    refine swl_sub _ (.cons (t := 0) rfl (.cons (t := 6) rfl (.cons (t := 18) rfl .nil))) ?_
    refine swl_nil ?_
    refine then_n ?_
    refine swp_cond (b := _) rfl (fun h18 => ?_) (fun h18 => ?_)
    · skip   -- 18 T
      refine swp_seq ?_
      refine swp_region ?_
      refine s_pu (pu_assign rfl) ?_
      refine s_pu (pu_assign rfl) ?_
      refine swl_sub _ (.cons (t := 4) rfl (.cons (t := 5) rfl .nil)) ?_
      refine swl_nil ?_
      refine then_n ?_
      refine swp_ret ?_
      refine then_r ?_
      have h18' := of_decide_eq_true h18
      have hf : findN d.seen s = none := by
        rcases hi with ⟨_, h⟩ | ⟨k, y, h, _⟩
        · exact h
        · omega
      refine done_ret [rdH p d x, own 97 2 x.sv d.seen.length (d.seen.flatMap rN1)] (.tmp rfl (.tmp rfl .nil)) ⟨⟨0, 6, rfl, .inl ⟨by decide, ?_, fun f => ?_⟩⟩, rfl⟩ (by repeat (first | exact Split.nil | (apply Split.cons; (repeat (first | with_reducible exact Take.here | apply Take.there)))))
      · unfold readD; rw [if_neg hoff, hf]
      · unfold onFile; rw [if_neg hoff, hf]
    · skip   -- 18 F
      have h18' := of_decide_eq_false h18
      obtain ⟨k, y, rfl, hy, hf⟩ : ∃ (k : Nat) (y : Nm), i = (k : Int) ∧ d.seen[k]? = some y ∧ findN d.seen s = some y.2 := by
        rcases hi with ⟨h, _⟩ | h
        · omega
        · exact h
      have hk : k < d.seen.length := (List.getElem?_eq_some_iff.1 hy).1
      obtain ⟨a, ha⟩ : ∃ a, A = some a := by cases A with | none => have := hA rfl; omega | some a => exact ⟨a, rfl⟩
      obtain ⟨b, rfl⟩ := hA2 a ha
      subst ha
      have hcell := flat_at (f := rN1) (n := 2) (fun _ => rfl) hy 1 _ rfl
      rw [hv]
      refine swp_skip ?_
      refine then_n ?_
      refine swp_seq ?_
      refine swp_region ?_
      refine s_pu (pu_move rfl) ?_
      first | refine s_pu (pu_nilCheck rfl) ?_ | refine s_pu (pu_nilCheck_fn rfl) ?_ | refine s_pu (pu_nilCheck_if rfl) ?_
      first | refine s_pu (pu_fieldAddr0 rfl) ?_ | refine s_pu (pu_fieldAddr rfl) ?_
      refine s_rd (rd_load rfl rfl) ?_
      refine s_pu (pu_move rfl) ?_
      refine s_pu (pu_indexAddr (0 + k * 2) (congrArg some hv) rfl (by omega) (by omega) (by rw [Int.toNat_natCast])) ?_
      first | refine s_pu (pu_fieldAddr0 rfl) ?_ | refine s_pu (pu_fieldAddr rfl) ?_
      refine s_rd (rd_own rfl (by repeat (first | with_reducible exact Take.here | apply Take.there)) (by rw [Nat.zero_add]; exact hcell)) ?_
      refine s_pu (pu_assign rfl) ?_
      refine s_pu (pu_assign rfl) ?_
      refine swl_sub _ (.cons (t := 4) rfl (.cons (t := 5) rfl .nil)) ?_
      refine swl_nil ?_
      refine then_n ?_
      refine swp_ret ?_
      rw [← hv]
      refine done_ret [rdH p d x, own 97 2 x.sv d.seen.length (d.seen.flatMap rN1)] (.tmp rfl (.tmp rfl .nil)) ⟨⟨y.2, 0, rfl, .inr ⟨rfl, y.2, rfl, hf, ?_, fun f => ?_⟩⟩, rfl⟩ (by repeat (first | exact Split.nil | (apply Split.cons; (repeat (first | with_reducible exact Take.here | apply Take.there)))))
      · unfold readD; rw [if_neg hoff, hf]
      · unfold onFile; rw [if_neg hoff, hf]
theorem rstep_spec (p : Nat) (q : Int) (fv sv av wv : Value) (fa : Int) (off : Bool) (h0 : 0 ≤ fa ∧ fa ≤ 9223372036854775807) : Spec Try.prog 70 [pv p] [blk p 64 (rdC q fv sv av wv fa off)]
    (fun r L => (fa = 1 ∧ r = .int .i64 8 ∧ L = [blk p 64 (rdC q fv sv av wv 0 true)]) ∨ (fa ≠ 1 ∧ r = .int .i64 0 ∧ L = [blk p 64 (rdC q fv sv av wv (if 0 < fa then fa - 1 else fa) off)])) := by
  refine Spec.of 23 Try.func70 rfl rfl rfl ?_
  refine swp_seq ?_
  refine swp_region ?_
  refine s_pu (pu_assign rfl) ?_
  refine swl_sub _ (.cons (t := 0) rfl .nil) ?_
  refine swl_nil ?_
  refine then_n ?_
  refine swp_seq ?_
  refine swp_seq ?_
  refine swp_region ?_
  refine s_pu (pu_move rfl) ?_
  first | refine s_pu (pu_nilCheck rfl) ?_ | refine s_pu (pu_nilCheck_fn rfl) ?_ | refine s_pu (pu_nilCheck_if rfl) ?_
  first | refine s_pu (pu_fieldAddr0 rfl) ?_ | refine s_pu (pu_fieldAddr rfl) ?_
  refine s_rd (rd_load rfl rfl) ?_
  refine s_pu (pu_gtr rfl rfl) ?_
  refine swl_sub _ (.cons (t := 0) rfl (.cons (t := 7) rfl .nil)) ?_
  refine swl_nil ?_
  refine then_n ?_
  refine swp_cond (b := _) rfl (fun h7 => ?_) (fun h7 => ?_)
  · skip   -- 7 T
    have h7' : 0 < fa := by have := of_decide_eq_true h7; omega
    refine swp_seq ?_
    refine swp_region ?_
    refine s_pu (pu_move rfl) ?_
    first | refine s_pu (pu_nilCheck rfl) ?_ | refine s_pu (pu_nilCheck_fn rfl) ?_ | refine s_pu (pu_nilCheck_if rfl) ?_
    first | refine s_pu (pu_fieldAddr0 rfl) ?_ | refine s_pu (pu_fieldAddr rfl) ?_
    refine s_rd (rd_load rfl rfl) ?_
    first | refine s_pu (pu_sub_in rfl rfl (by omega) (by omega)) ?_ | refine s_pu (pu_sub rfl rfl) ?_
    first | refine s_pu (pu_nilCheck rfl) ?_ | refine s_pu (pu_nilCheck_fn rfl) ?_ | refine s_pu (pu_nilCheck_if rfl) ?_
    first | refine s_pu (pu_fieldAddr0 rfl) ?_ | refine s_pu (pu_fieldAddr rfl) ?_
    refine s_ef0 (ef_store rfl rfl rfl) ?_
    refine swl_sub _ (.cons (t := 0) rfl .nil) ?_
    refine swl_nil ?_
    refine then_n ?_
    refine swp_seq ?_
    refine swp_region ?_
    refine s_pu (pu_move rfl) ?_
    first | refine s_pu (pu_nilCheck rfl) ?_ | refine s_pu (pu_nilCheck_fn rfl) ?_ | refine s_pu (pu_nilCheck_if rfl) ?_
    first | refine s_pu (pu_fieldAddr0 rfl) ?_ | refine s_pu (pu_fieldAddr rfl) ?_
    refine s_rd (rd_load rfl rfl) ?_
    refine s_pu (pu_eql rfl rfl) ?_
    refine swl_sub _ (.cons (t := 0) rfl (.cons (t := 19) rfl .nil)) ?_
    refine swl_nil ?_
    refine then_n ?_
    refine swp_cond (b := _) rfl (fun h19 => ?_) (fun h19 => ?_)
    · skip   -- 19 T
      have h19' : fa = 1 := by have := of_decide_eq_true h19; omega
      refine swp_seq ?_
      refine swp_region ?_
      refine s_pu (pu_move rfl) ?_
      first | refine s_pu (pu_nilCheck rfl) ?_ | refine s_pu (pu_nilCheck_fn rfl) ?_ | refine s_pu (pu_nilCheck_if rfl) ?_
      first | refine s_pu (pu_fieldAddr0 rfl) ?_ | refine s_pu (pu_fieldAddr rfl) ?_
      refine s_ef0 (ef_store rfl rfl rfl) ?_
      refine swl_sub _ .nil ?_
      refine swl_nil ?_
      refine then_n ?_
      refine swp_seq ?_
      refine swp_region ?_
      refine s_pu (pu_assign rfl) ?_
      refine swl_sub _ (.cons (t := 2) rfl .nil) ?_
      refine swl_nil ?_
      refine then_n ?_
      refine swp_ret ?_
      refine then_r ?_
      refine done_retE [blk p 64 (rdC q fv sv av wv 0 true)] (.tmp rfl .nil) (.inl ⟨h19', rfl, rfl⟩) ?_
      rw [show fa - 1 = 0 by omega]; exact Ent.refl _
    · skip   -- 19 F
      refine swp_skip ?_
      refine then_n ?_
      refine swp_seq ?_
      refine swp_region ?_
      refine s_pu (pu_assign rfl) ?_
      refine swl_sub _ (.cons (t := 2) rfl .nil) ?_
      refine swl_nil ?_
      refine then_n ?_
      refine swp_ret ?_
      have h19' : fa ≠ 1 := by have := of_decide_eq_false h19; omega
      refine done_ret [blk p 64 (rdC q fv sv av wv (if 0 < fa then fa - 1 else fa) off)] (.tmp rfl .nil) (.inr ⟨h19', rfl, rfl⟩) (R := []) ?_
      rw [if_pos h7']; exact (by repeat (first | exact Split.nil | (apply Split.cons; (repeat (first | with_reducible exact Take.here | apply Take.there)))))
  · skip   -- 7 F
    refine swp_skip ?_
    refine then_n ?_
    refine swp_seq ?_
    refine swp_region ?_
    refine s_pu (pu_assign rfl) ?_
    refine swl_sub _ (.cons (t := 2) rfl .nil) ?_
    refine swl_nil ?_
    refine then_n ?_
    refine swp_ret ?_
    have h7' : ¬ 0 < fa := by have := of_decide_eq_false h7; omega
    refine done_ret [blk p 64 (rdC q fv sv av wv (if 0 < fa then fa - 1 else fa) off)] (.tmp rfl .nil) (.inr ⟨by omega, rfl, rfl⟩) (R := []) ?_
    rw [if_neg h7']; exact (by repeat (first | exact Split.nil | (apply Split.cons; (repeat (first | with_reducible exact Take.here | apply Take.there)))))
set_option maxHeartbeats 2000000 in
theorem changed_spec (v : Value) (l : List Nm) (hl : l.length ≤ 1048576) (c : Cg) : Spec Try.prog 61 [v, .agg (rC1 c).toArray] [own 97 2 v l.length (l.flatMap rN1)]
    (fun r L => (∃ A c', r = .slice A (chgN l c).length c') ∧ L = [own 97 2 r (chgN l c).length ((chgN l c).flatMap rN1), own 97 2 v l.length (l.flatMap rN1)]) := by
  refine Spec.fact' (fun m h => own_cap2 h) fun ⟨A, cap, hv, hlc, hcm, hA, hA2⟩ => ?_
  simp only [maxLen] at hcm
  subst hv
  refine Spec.of 50 Try.func61 rfl rfl rfl ?_
  refine swp_seq ?_
  refine swp_region ?_
  refine s_ef (ef_box rfl rfl) ?_
  intro b3
  refine s_pu (pu_assign rfl) ?_
  refine swl_sub _ (.cons (t := 0) rfl (.cons (t := 3) rfl .nil)) ?_
  refine swl_nil ?_
  refine then_n ?_
  refine swp_seq ?_
  refine swp_region ?_
  refine s_pu (pu_assign rfl) ?_
  refine swl_sub _ (.cons (t := 0) rfl (.cons (t := 3) rfl (.cons (t := 5) rfl .nil))) ?_
  refine swl_nil ?_
  refine then_n ?_
  refine swp_seq ?_
  refine swp_seq ?_
  refine swp_region ?_
  refine s_pu (pu_assign rfl) ?_
  refine swl_sub _ (.cons (t := 0) rfl (.cons (t := 3) rfl (.cons (t := 5) rfl (.cons (t := 6) rfl .nil)))) ?_
  refine swl_nil ?_
  refine then_n ?_
  refine swp_block ?_
  refine swp_ent (own_nil_ent (e := 97) (n := 2)) ?_
  refine swp_loop (ι := Nat) (fun i env L => ∃ u, Sub env [(0, .slice A l.length cap), (3, pv b3), (5, u), (6, .int .i64 (i : Nat))] ∧ Ent L [own 97 2 u ((l.take i).filter (keepN c)).length (((l.take i).filter (keepN c)).flatMap rN1), own 97 2 (.slice A l.length cap) l.length (l.flatMap rN1), blk b3 95 (rC1 c)] ∧ i ≤ l.length) (fun i => l.length - i) 0 ⟨.slice none 0 0, ⟨rfl, rfl, rfl, rfl, trivial⟩, (show Ent _ [own 97 2 (.slice none 0 0) 0 [], own 97 2 (.slice A l.length cap) l.length (l.flatMap rN1), blk b3 95 (rC1 c)] from Split.ent' (by repeat (first | exact Split.nil | (apply Split.cons; (repeat (first | with_reducible exact Take.here | apply Take.there)))))), Nat.zero_le _⟩ ?_
  rintro i env L ⟨u, hsub, hE, hi⟩
  refine swp_sub _ hsub ?_
  refine swp_ent hE ?_
  clear hsub hE env L
  have hfl : ((l.take i).filter (keepN c)).length ≤ 1048576 := by
    have h1 := List.length_filter_le (keepN c) (l.take i)
    rw [List.length_take] at h1; omega
  refine swp_seq ?_
  refine swp_seq ?_
  refine swp_region ?_
  refine s_pu (pu_move rfl) ?_
  refine s_pu (pu_move rfl) ?_
  refine s_pu (pu_len rfl) ?_
  refine s_pu (pu_lss rfl rfl) ?_
  refine swl_sub _ (.cons (t := 0) rfl (.cons (t := 3) rfl (.cons (t := 5) rfl (.cons (t := 6) rfl (.cons (t := 10) rfl .nil))))) ?_
  refine swl_nil ?_
  refine then_n ?_
  refine swp_cond (b := _) rfl (fun h10 => ?_) (fun h10 => ?_)
  · skip   -- 10 T
    have h10' : i < l.length := by have := of_decide_eq_true h10; omega
    obtain ⟨a, ha⟩ : ∃ a, A = some a := by cases A with | none => have := hA rfl; omega | some a => exact ⟨a, rfl⟩
    obtain ⟨b, rfl⟩ := hA2 a ha
    subst ha
    obtain ⟨y, hy⟩ : ∃ y, l[i]? = some y := ⟨_, List.getElem?_eq_getElem h10'⟩
    have hat := flat_at (f := rN1) (n := 2) (fun _ => rfl) hy
    have hcell := hat 0 _ rfl
    have htk : (l.take (i + 1)).filter (keepN c) = (l.take i).filter (keepN c) ++ (if keepN c y = true then [y] else []) := by
      rw [List.take_add_one, hy, List.filter_append]
      congr 1
      by_cases hk : keepN c y = true
      · rw [if_pos hk]; simp [hk]
      · rw [if_neg hk]; simp [hk]
    refine swp_skip ?_
    refine then_n ?_
    refine swp_seq ?_
    refine swp_block ?_
    refine swp_seq ?_
    refine swp_draw [4, 6, 13, 15] _ [] (by simp only [List.append_nil]; exact Ent.refl _) (by kernel_rfl) ?_
    refine d_pu 0 rfl (pu_move rfl) (by kernel_rfl) (by kernel_rfl) (by kernel_rfl) ?_
    refine d_pu 1 rfl (pu_move rfl) (by kernel_rfl) (by kernel_rfl) (by kernel_rfl) ?_
    refine d_pu 2 rfl (pu_indexAddr (0 + i * 2) rfl rfl (by omega) (by omega) (by rw [Int.toNat_natCast])) (by kernel_rfl) (by kernel_rfl) (by kernel_rfl) ?_
    first | refine d_pu 3 rfl (pu_fieldAddr0 rfl) (by kernel_rfl) (by kernel_rfl) (by kernel_rfl) ?_ | refine d_pu 3 rfl (pu_fieldAddr rfl) (by kernel_rfl) (by kernel_rfl) (by kernel_rfl) ?_
    refine d_rd 4 rfl (rd_own rfl (by repeat (first | with_reducible exact Take.here | apply Take.there)) (by rw [Nat.zero_add]; exact hcell)) rfl (by kernel_rfl) (by kernel_rfl) (by kernel_rfl) ?_
    first | refine d_pu 5 rfl (pu_fieldAddr0 rfl) (by kernel_rfl) (by kernel_rfl) (by kernel_rfl) ?_ | refine d_pu 5 rfl (pu_fieldAddr rfl) (by kernel_rfl) (by kernel_rfl) (by kernel_rfl) ?_
    refine d_rd 6 rfl (rd_load rfl rfl) rfl (by kernel_rfl) (by kernel_rfl) (by kernel_rfl) ?_
    refine d_pu 7 rfl (pu_str_neq rfl rfl) (by kernel_rfl) (by kernel_rfl) (by kernel_rfl) ?_
    refine d_pu 8 rfl (pu_move rfl) (by kernel_rfl) (by kernel_rfl) (by kernel_rfl) ?_
    refine d_split 21 rfl (fun h21 => ?_) (fun h21 => ?_)
    · skip   -- 21 T
      refine d_pu_on 9 rfl rfl rfl (pu_move rfl) (by kernel_rfl) (by kernel_rfl) (by kernel_rfl) ?_
      refine d_pu_on 10 rfl rfl rfl (pu_move rfl) (by kernel_rfl) (by kernel_rfl) (by kernel_rfl) ?_
      refine d_pu_on 11 rfl rfl rfl (pu_indexAddr (0 + i * 2) rfl rfl (by omega) (by omega) (by rw [Int.toNat_natCast])) (by kernel_rfl) (by kernel_rfl) (by kernel_rfl) ?_
      first | refine d_pu_on 12 rfl rfl rfl (pu_fieldAddr0 rfl) (by kernel_rfl) (by kernel_rfl) (by kernel_rfl) ?_ | refine d_pu_on 12 rfl rfl rfl (pu_fieldAddr rfl) (by kernel_rfl) (by kernel_rfl) (by kernel_rfl) ?_
      refine d_rd_on 13 rfl rfl rfl (rd_own rfl (by repeat (first | with_reducible exact Take.here | apply Take.there)) (by rw [Nat.zero_add]; exact hcell)) rfl (by kernel_rfl) (by kernel_rfl) (by kernel_rfl) ?_
      first | refine d_pu_on 14 rfl rfl rfl (pu_fieldAddr0 rfl) (by kernel_rfl) (by kernel_rfl) (by kernel_rfl) ?_ | refine d_pu_on 14 rfl rfl rfl (pu_fieldAddr rfl) (by kernel_rfl) (by kernel_rfl) (by kernel_rfl) ?_
      refine d_rd_on 15 rfl rfl rfl (rd_load rfl rfl) rfl (by kernel_rfl) (by kernel_rfl) (by kernel_rfl) ?_
      refine d_pu_on 16 rfl rfl rfl (pu_str_neq rfl rfl) (by kernel_rfl) (by kernel_rfl) (by kernel_rfl) ?_
      first | refine d_pu 17 rfl (pu_pick_t rfl rfl) (by kernel_rfl) (by kernel_rfl) (by kernel_rfl) ?_ | refine d_pu 17 rfl (pu_pick_f rfl rfl) (by kernel_rfl) (by kernel_rfl) (by kernel_rfl) ?_
      refine d_sub _ (.cons (t := 0) rfl (.cons (t := 3) rfl (.cons (t := 5) rfl (.cons (t := 6) rfl (.cons (t := 30) rfl .nil))))) ?_
      first | refine d_nilt (by kernel_rfl) ?_ | refine d_nilf (by kernel_rfl) ?_
      refine then_n ?_
      refine swp_cond (b := _) rfl (fun h30 => ?_) (fun h30 => ?_)
      · skip   -- 30 T
        refine swp_region ?_
        refine s_pu (pu_move rfl) ?_
        refine s_pu (pu_move rfl) ?_
        refine s_pu (pu_move rfl) ?_
        refine s_pu (pu_indexAddr (0 + i * 2) rfl rfl (by omega) (by omega) (by rw [Int.toNat_natCast])) ?_
        refine s_rd (rd_ownA (vs := rN1 y) rfl (by repeat (first | with_reducible exact Take.here | apply Take.there)) rfl (fun j v hj => by rw [Nat.zero_add]; exact hat j v hj)) ?_
        refine s_ef (ef_bldS (qs := [(0, _)]) rfl rfl rfl) ?_
        intro b36
        refine s_ef (ef_append_lit (l := ((l.take i).filter (keepN c)).length) (m := 1) rfl rfl (by repeat (first | exact Split.nil | (apply Split.cons; (repeat (first | with_reducible exact Take.here | apply Take.there))))) (by simp only [maxLen]; omega) (by omega)) ?_
        rintro v' hv'
        skip
        refine s_pu (pu_assign rfl) ?_
        refine swl_sub _ (.cons (t := 0) rfl (.cons (t := 3) rfl (.cons (t := 5) rfl (.cons (t := 6) rfl .nil)))) ?_
        refine swl_nil ?_
        refine block_n ?_
        refine then_n ?_
        refine swp_region ?_
        refine s_pu (pu_move rfl) ?_
        refine s_pu (pu_add_as ((i + 1 : Nat) : Int) rfl rfl (by omega) (by omega) (by omega)) ?_
        refine s_pu (pu_assign rfl) ?_
        refine swl_sub _ (.cons (t := 0) rfl (.cons (t := 3) rfl (.cons (t := 5) rfl (.cons (t := 6) rfl .nil)))) ?_
        refine swl_nil ?_
        have hk : keepN c y = true := by unfold keepN; rw [not_t h21, not_t h30]; rfl
        refine then_n ⟨i + 1, ⟨v', ⟨rfl, rfl, rfl, rfl, trivial⟩, ?_, h10'⟩, by omega⟩
        rw [htk, if_pos hk, List.length_append, List.flatMap_append]
        simp only [List.length_singleton, List.flatMap_singleton]
        exact Split.ent' (by repeat (first | exact Split.nil | (apply Split.cons; (repeat (first | with_reducible exact Take.here | apply Take.there)))))
      · skip   -- 30 F
        refine swp_skip ?_
        refine block_n ?_
        refine then_n ?_
        refine swp_region ?_
        refine s_pu (pu_move rfl) ?_
        refine s_pu (pu_add_as ((i + 1 : Nat) : Int) rfl rfl (by omega) (by omega) (by omega)) ?_
        refine s_pu (pu_assign rfl) ?_
        refine swl_sub _ (.cons (t := 0) rfl (.cons (t := 3) rfl (.cons (t := 5) rfl (.cons (t := 6) rfl .nil)))) ?_
        refine swl_nil ?_
        have hk : keepN c y = false := by unfold keepN; rw [not_f h30]; simp
        refine then_n ⟨i + 1, ⟨u, ⟨rfl, rfl, rfl, rfl, trivial⟩, ?_, h10'⟩, by omega⟩
        rw [htk, if_neg (by rw [hk]; decide), List.append_nil]
        exact Split.ent' (by repeat (first | exact Split.nil | (apply Split.cons; (repeat (first | with_reducible exact Take.here | apply Take.there)))))
    · skip   -- 21 F
      refine d_off 9 rfl rfl rfl rfl (by kernel_rfl) (by kernel_rfl) (by kernel_rfl) ?_
      refine d_off 10 rfl rfl rfl rfl (by kernel_rfl) (by kernel_rfl) (by kernel_rfl) ?_
      refine d_off 11 rfl rfl rfl rfl (by kernel_rfl) (by kernel_rfl) (by kernel_rfl) ?_
      refine d_off 12 rfl rfl rfl rfl (by kernel_rfl) (by kernel_rfl) (by kernel_rfl) ?_
      refine d_off 13 rfl rfl rfl rfl (by kernel_rfl) (by kernel_rfl) (by kernel_rfl) ?_
      refine d_off 14 rfl rfl rfl rfl (by kernel_rfl) (by kernel_rfl) (by kernel_rfl) ?_
      refine d_off 15 rfl rfl rfl rfl (by kernel_rfl) (by kernel_rfl) (by kernel_rfl) ?_
      refine d_off 16 rfl rfl rfl rfl (by kernel_rfl) (by kernel_rfl) (by kernel_rfl) ?_
      first | refine d_pu 17 rfl (pu_pick_t rfl rfl) (by kernel_rfl) (by kernel_rfl) (by kernel_rfl) ?_ | refine d_pu 17 rfl (pu_pick_f rfl rfl) (by kernel_rfl) (by kernel_rfl) (by kernel_rfl) ?_
      refine d_sub _ (.cons (t := 0) rfl (.cons (t := 3) rfl (.cons (t := 5) rfl (.cons (t := 6) rfl (.cons (t := 30) rfl .nil))))) ?_
      first | refine d_nilt (by kernel_rfl) ?_ | refine d_nilf (by kernel_rfl) ?_
      refine then_n ?_
      refine swp_cond (b := _) rfl (fun h30 => by cases h30) (fun h30 => ?_)
      refine swp_skip ?_
      refine block_n ?_
      refine then_n ?_
      refine swp_region ?_
      refine s_pu (pu_move rfl) ?_
      refine s_pu (pu_add_as ((i + 1 : Nat) : Int) rfl rfl (by omega) (by omega) (by omega)) ?_
      refine s_pu (pu_assign rfl) ?_
      refine swl_sub _ (.cons (t := 0) rfl (.cons (t := 3) rfl (.cons (t := 5) rfl (.cons (t := 6) rfl .nil)))) ?_
      refine swl_nil ?_
      have hk : keepN c y = false := by unfold keepN; rw [not_f h21]; rfl
      refine then_n ⟨i + 1, ⟨u, ⟨rfl, rfl, rfl, rfl, trivial⟩, ?_, h10'⟩, by omega⟩
      rw [htk, if_neg (by rw [hk]; decide), List.append_nil]
      exact Split.ent' (by repeat (first | exact Split.nil | (apply Split.cons; (repeat (first | with_reducible exact Take.here | apply Take.there)))))
  · skip   -- 10 F
    have h10' : i = l.length := by have := of_decide_eq_false h10; omega
    subst h10'
    rw [List.take_length] at hfl ⊢
    refine swp_fact (fun m h => own_form h) fun hform => ?_
    refine swp_exit ?_
    refine then_x ?_
    refine then_x ?_
    refine block_hit rfl ?_
    refine then_n ?_
    refine swp_seq ?_
    refine swp_seq ?_
    refine swp_region ?_
    first | refine s_pu (pu_fieldAddr0 rfl) ?_ | refine s_pu (pu_fieldAddr rfl) ?_
    refine s_rd (rd_load rfl rfl) ?_
    refine s_pu (pu_str_neq rfl rfl) ?_
    refine swl_sub _ (.cons (t := 3) rfl (.cons (t := 5) rfl (.cons (t := 40) rfl .nil))) ?_
    refine swl_nil ?_
    refine then_n ?_
    refine swp_cond (b := _) rfl (fun h40 => ?_) (fun h40 => ?_)
    · skip   -- 40 T
      refine swp_region ?_
      refine s_pu (pu_move rfl) ?_
      first | refine s_pu (pu_fieldAddr0 rfl) ?_ | refine s_pu (pu_fieldAddr rfl) ?_
      refine s_rd (rd_load rfl rfl) ?_
      first | refine s_pu (pu_fieldAddr0 rfl) ?_ | refine s_pu (pu_fieldAddr rfl) ?_
      refine s_rd (rd_load rfl rfl) ?_
      refine s_pu (pu_bld (qs := [(0, _), (1, _)]) rfl) ?_
      refine s_ef (ef_bldS (qs := [(0, _)]) rfl rfl rfl) ?_
      intro b47
      refine s_ef (ef_append_lit (l := (l.filter (keepN c)).length) (m := 1) rfl rfl (by repeat (first | exact Split.nil | (apply Split.cons; (repeat (first | with_reducible exact Take.here | apply Take.there))))) (by simp only [maxLen]; omega) (by omega)) ?_
      rintro v' hv'
      skip
      refine s_pu (pu_assign rfl) ?_
      refine swl_sub _ (.cons (t := 5) rfl .nil) ?_
      refine swl_nil ?_
      refine then_n ?_
      refine swp_seq ?_
      refine swp_region ?_
      refine s_pu (pu_move rfl) ?_
      refine s_pu (pu_assign rfl) ?_
      refine swl_sub _ (.cons (t := 4) rfl .nil) ?_
      refine swl_nil ?_
      refine then_n ?_
      refine swp_ret ?_
      have hk : strEq c.come nos = false := not_t h40
      have key : chgN l c = l.filter (keepN c) ++ [(c.come, c.file)] := by unfold chgN; rw [if_neg (by rw [hk]; decide)]
      rw [key, List.length_append, List.flatMap_append]
      simp only [List.length_singleton, List.flatMap_singleton]
      exact done_ret [own 97 2 v' ((l.filter (keepN c)).length + 1) ((l.filter (keepN c)).flatMap rN1 ++ [.string c.come, .int .i64 (c.file : Nat)]), own 97 2 (.slice A l.length cap) l.length (l.flatMap rN1)] (.tmp rfl .nil) ⟨by obtain ⟨g, c', h⟩ := hv' (by decide); exact ⟨_, _, h⟩, rfl⟩ (by repeat (first | exact Split.nil | (apply Split.cons; (repeat (first | with_reducible exact Take.here | apply Take.there)))))
    · skip   -- 40 F
      refine swp_skip ?_
      refine then_n ?_
      refine swp_seq ?_
      refine swp_region ?_
      refine s_pu (pu_move rfl) ?_
      refine s_pu (pu_assign rfl) ?_
      refine swl_sub _ (.cons (t := 4) rfl .nil) ?_
      refine swl_nil ?_
      refine then_n ?_
      refine swp_ret ?_
      have hk : strEq c.come nos = true := not_f h40
      have key : chgN l c = l.filter (keepN c) := by unfold chgN; rw [if_pos hk, List.append_nil]
      rw [key]
      exact done_ret [own 97 2 u (l.filter (keepN c)).length ((l.filter (keepN c)).flatMap rN1), own 97 2 (.slice A l.length cap) l.length (l.flatMap rN1)] (.tmp rfl .nil) ⟨hform, rfl⟩ (by repeat (first | exact Split.nil | (apply Split.cons; (repeat (first | with_reducible exact Take.here | apply Take.there)))))
end SX
namespace SX
open Go Go.Proofs
theorem own_pos {e n : Nat} {v : Value} {l : Nat} {xs : List Value} {L : List Assn} {m : PH} (h : Sat (own e n v l xs :: L) m) (hl : 0 < l) : ∃ b c, v = .slice (some ⟨b, 0, none⟩) l c ∧ l ≤ c ∧ c ≤ 9223372036854775807 := by
  obtain ⟨A, c, hv, h1, h2, h3, h4⟩ := own_cap2 h
  simp only [maxLen] at h2
  cases A with
  | none => have := h3 rfl; omega
  | some a => obtain ⟨b, rfl⟩ := h4 a rfl; exact ⟨b, c, hv, h1, by omega⟩
theorem set_safe : ∀ {l : List Fl} {k : Nat} {f : Fl}, l[k]? = some f → ∀ s : Nat, (l.flatMap rF1).set (0 + k * 2 + 1) (.int .i64 (s : Nat)) = (l.set k ⟨f.bytes, s⟩).flatMap rF1
  | [], _, _, h, _ => by cases h
  | g :: l, 0, f, h, s => by
    simp at h; subst h; rfl
  | g :: l, k + 1, f, h, s => by
    have ih := set_safe (l := l) (k := k) (by simpa using h) s
    rw [List.set_cons_succ, List.flatMap_cons, List.flatMap_cons, ← ih, show 0 + (k + 1) * 2 + 1 = (0 + k * 2 + 1) + 2 by omega]; rfl
theorem set_bytes : ∀ {l : List Fl} {k : Nat} {f : Fl}, l[k]? = some f → ∀ B : List UInt8, (l.flatMap rF1).set (0 + k * 2 + 0) (.string ⟨B.toArray⟩) = (l.set k ⟨B, f.safe⟩).flatMap rF1
  | [], _, _, h, _ => by cases h
  | g :: l, 0, f, h, s => by
    simp at h; subst h; rfl
  | g :: l, k + 1, f, h, s => by
    have ih := set_bytes (l := l) (k := k) (by simpa using h) s
    rw [List.set_cons_succ, List.flatMap_cons, List.flatMap_cons, ← ih, show 0 + (k + 1) * 2 + 0 = (0 + k * 2 + 0) + 2 by omega]; rfl
theorem fl_at {d : Dk} {k : Nat} (h : k < d.files.length) : d.files[k]? = some (d.fl k) := by
  unfold Dk.fl; rw [List.getElem?_eq_getElem h]; rfl
theorem file_lt {d : Dk} (hd : d.Ok) {s : ByteArray} {k : Nat} (h : findN d.seen s = some k) : k < d.files.length := (hd.seenOk.good _ (findN_mem h)).2
theorem tsize (l : List UInt8) : (⟨l.toArray⟩ : ByteArray).size = l.length := by show l.toArray.size = _; simp
theorem str_app (l : List UInt8) (t : ByteArray) : (⟨l.toArray⟩ : ByteArray) ++ t = ⟨(l ++ t.data.toList).toArray⟩ := by
  apply ByteArray.ext
  rw [ByteArray.data_append]
  apply Array.toList_inj.1
  simp
theorem rnew_spec (q : Int) : Spec Try.prog 19 [.int .i64 q] [] (fun r L => (¬ newOk q ∧ r = .tuple #[.pointer none, .int .i64 1] ∧ L = []) ∨ (newOk q ∧ ∃ p, r = .tuple #[pv p, .int .i64 0] ∧ L = [RDA p (newD q)])) := by
  refine Spec.of 13 Try.func19 rfl rfl rfl ?_
  refine swp_seq ?_
  refine swp_region ?_
  refine s_pu (pu_assign rfl) ?_
  refine s_pu (pu_assign rfl) ?_
  refine swl_sub _ (.cons (t := 0) rfl .nil) ?_
  refine swl_nil ?_
  refine then_n ?_
  refine swp_seq ?_
  refine swp_seq ?_
  refine swp_region ?_
  refine s_pu (pu_move rfl) ?_
  refine s_pu (pu_lss rfl rfl) ?_
  refine s_pu (pu_move rfl) ?_
  refine s_split 6 rfl (fun h6 => ?_) (fun h6 => ?_)
  · skip   -- 6 T
    refine s_off rfl rfl rfl ?_
    refine s_off rfl rfl rfl ?_
    first | refine s_pu (pu_pick_t rfl rfl) ?_ | refine s_pu (pu_pick_f rfl rfl) ?_
    refine swl_sub _ (.cons (t := 0) rfl (.cons (t := 9) rfl .nil)) ?_
    refine swl_nil ?_
    refine then_n ?_
    refine swp_cond (b := _) rfl (fun h9 => ?_) (fun h9 => by cases h9)
    refine swp_seq ?_
    refine swp_region ?_
    refine s_pu (pu_assign rfl) ?_
    refine s_pu (pu_assign rfl) ?_
    refine swl_sub _ (.cons (t := 2) rfl (.cons (t := 3) rfl .nil)) ?_
    refine swl_nil ?_
    refine then_n ?_
    refine swp_ret ?_
    refine then_r ?_
    exact done_ret [] (.tmp rfl (.tmp rfl .nil)) (.inl ⟨fun h => by have := of_decide_eq_true h6; have := h.1; omega, rfl, rfl⟩) (by repeat (first | exact Split.nil | (apply Split.cons; (repeat (first | with_reducible exact Take.here | apply Take.there)))))
  · skip   -- 6 F
    refine s_on rfl rfl ?_
    refine s_pu (pu_move rfl) ?_
    refine s_on rfl rfl ?_
    refine s_pu (pu_gtr rfl rfl) ?_
    first | refine s_pu (pu_pick_t rfl rfl) ?_ | refine s_pu (pu_pick_f rfl rfl) ?_
    refine swl_sub _ (.cons (t := 0) rfl (.cons (t := 9) rfl .nil)) ?_
    refine swl_nil ?_
    refine then_n ?_
    refine swp_cond (b := _) rfl (fun h9 => ?_) (fun h9 => ?_)
    · skip   -- 9 T
      refine swp_seq ?_
      refine swp_region ?_
      refine s_pu (pu_assign rfl) ?_
      refine s_pu (pu_assign rfl) ?_
      refine swl_sub _ (.cons (t := 2) rfl (.cons (t := 3) rfl .nil)) ?_
      refine swl_nil ?_
      refine then_n ?_
      refine swp_ret ?_
      refine then_r ?_
      exact done_ret [] (.tmp rfl (.tmp rfl .nil)) (.inl ⟨fun h => by have := of_decide_eq_true h9; have := h.2; omega, rfl, rfl⟩) (by repeat (first | exact Split.nil | (apply Split.cons; (repeat (first | with_reducible exact Take.here | apply Take.there)))))
    · skip   -- 9 F
      refine swp_skip ?_
      refine then_n ?_
      refine swp_seq ?_
      refine swp_region ?_
      refine s_pu (pu_move rfl) ?_
      refine s_pu (pu_bld (qs := [(0, _)]) rfl) ?_
      refine s_ef (ef_box rfl rfl) ?_
      intro b12
      refine s_pu (pu_assign rfl) ?_
      refine s_pu (pu_assign rfl) ?_
      refine swl_sub _ (.cons (t := 2) rfl (.cons (t := 3) rfl .nil)) ?_
      refine swl_nil ?_
      refine then_n ?_
      refine swp_ret ?_
      refine done_retE [RDA b12 (newD q)] (.tmp rfl (.tmp rfl .nil)) (.inr ⟨⟨by have := of_decide_eq_false h6; omega, by have := of_decide_eq_false h9; omega⟩, b12, rfl, rfl⟩) ?_
      refine Ent.trans (own_nil_ent (e := 95) (n := 3)) ?_
      refine Ent.trans (own_nil_ent (e := 97) (n := 2)) ?_
      refine Ent.trans (own_nil_ent (e := 97) (n := 2)) ?_
      refine Ent.trans (own_nil_ent (e := 99) (n := 2)) ?_
      exact Ent.trans (Split.ent' (K := [blk b12 64 [.int .i64 q, .slice none 0 0, .slice none 0 0, .slice none 0 0, .slice none 0 0, .int .i64 0, .bool false], own 99 2 (.slice none 0 0) 0 [], own 97 2 (.slice none 0 0) 0 [], own 97 2 (.slice none 0 0) 0 [], own 95 3 (.slice none 0 0) 0 []]) (by repeat (first | exact Split.nil | (apply Split.cons; (repeat (first | with_reducible exact Take.here | apply Take.there)))))) (rd_close (d := newD q) (x := ⟨.slice none 0 0, .slice none 0 0, .slice none 0 0, .slice none 0 0⟩))
theorem rfall_spec (p : Nat) (d : Dk) (n : Int) : Spec Try.prog 52 [pv p, .int .i64 n] [RDA p d] (fun _ L => L = [RDA p (fallD d n)]) := by
  refine RDA.open' fun ⟨fv, sv, av, wv⟩ => ?_
  refine Spec.of 9 Try.func52 rfl rfl rfl ?_
  refine swp_region ?_
  refine s_pu (pu_move rfl) ?_
  refine s_pu (pu_move rfl) ?_
  refine s_pu (pu_max2 rfl rfl) ?_
  first | refine s_pu (pu_nilCheck rfl) ?_ | refine s_pu (pu_nilCheck_fn rfl) ?_ | refine s_pu (pu_nilCheck_if rfl) ?_
  first | refine s_pu (pu_fieldAddr0 rfl) ?_ | refine s_pu (pu_fieldAddr rfl) ?_
  refine s_ef0 (ef_store rfl rfl rfl) ?_
  refine swl_sub _ .nil ?_
  refine swl_nil ?_
  exact done_endE [RDA p (fallD d n)] .nil rfl ((Split.ent' (K := [blk p 64 (rdC d.quota fv sv av wv (max n 0) d.off), own 99 2 fv d.files.length (d.files.flatMap rF1), own 97 2 sv d.seen.length (d.seen.flatMap rN1), own 97 2 av d.safe.length (d.safe.flatMap rN1), own 95 3 wv d.pend.length (d.pend.flatMap rC1)]) (by repeat (first | exact Split.nil | (apply Split.cons; (repeat (first | with_reducible exact Take.here | apply Take.there)))))).trans (rd_close (d := fallD d n) (x := ⟨fv, sv, av, wv⟩)))
theorem rchange_spec (p : Nat) (q : Int) (fv sv av wv : Value) (fa : Int) (off : Bool) (l : List Nm) (ps : List Cg) (hl : l.length ≤ 1048576) (hp : ps.length ≤ 1048576) (c : Cg) :
    Spec Try.prog 71 [pv p, .agg (rC1 c).toArray] [blk p 64 (rdC q fv sv av wv fa off), own 97 2 sv l.length (l.flatMap rN1), own 95 3 wv ps.length (ps.flatMap rC1)]
      (fun _ L => ∃ sv' wv', L = [blk p 64 (rdC q fv sv' av wv' fa off), own 97 2 sv' (chgN l c).length ((chgN l c).flatMap rN1), own 95 3 wv' (ps ++ [c]).length ((ps ++ [c]).flatMap rC1)]) := by
  have hps : (ps ++ [c]).flatMap rC1 = ps.flatMap rC1 ++ rC1 c := by rw [List.flatMap_append, List.flatMap_singleton]
  have hpl : (ps ++ [c]).length = ps.length + 1 := by rw [List.length_append]; rfl
  refine Spec.of 23 Try.func71 rfl rfl rfl ?_
  refine swp_seq ?_
  refine swp_region ?_
  refine s_ef (ef_box rfl rfl) ?_
  intro b3
  refine swl_sub _ (.cons (t := 0) rfl (.cons (t := 3) rfl .nil)) ?_
  refine swl_nil ?_
  refine then_n ?_
  refine swp_seq ?_
  refine swp_draw [4, 5] _ [] (by simp only [List.append_nil]; exact Ent.refl _) (by kernel_rfl) ?_
  refine d_pu 0 rfl (pu_move rfl) (by kernel_rfl) (by kernel_rfl) (by kernel_rfl) ?_
  refine d_pu 1 rfl (pu_move rfl) (by kernel_rfl) (by kernel_rfl) (by kernel_rfl) ?_
  first | refine d_pu 2 rfl (pu_nilCheck rfl) (by kernel_rfl) (by kernel_rfl) (by kernel_rfl) ?_ | refine d_pu 2 rfl (pu_nilCheck_fn rfl) (by kernel_rfl) (by kernel_rfl) (by kernel_rfl) ?_ | refine d_pu 2 rfl (pu_nilCheck_if rfl) (by kernel_rfl) (by kernel_rfl) (by kernel_rfl) ?_
  first | refine d_pu 3 rfl (pu_fieldAddr0 rfl) (by kernel_rfl) (by kernel_rfl) (by kernel_rfl) ?_ | refine d_pu 3 rfl (pu_fieldAddr rfl) (by kernel_rfl) (by kernel_rfl) (by kernel_rfl) ?_
  refine d_rd 4 rfl (rd_load rfl rfl) rfl (by kernel_rfl) (by kernel_rfl) (by kernel_rfl) ?_
  first | refine d_rd 5 rfl (rd_loadW rfl rfl) rfl (by kernel_rfl) (by kernel_rfl) (by kernel_rfl) ?_ | refine d_rd 5 rfl (rd_loadX rfl rfl rfl) rfl (by kernel_rfl) (by kernel_rfl) (by kernel_rfl) ?_
  first | refine d_fint 6 rfl (by kernel_rfl) (by kernel_rfl) (ef_fn (changed_spec sv l hl c) rfl rfl (by repeat (first | exact Split.nil | (apply Split.cons; (repeat (first | with_reducible exact Take.here | apply Take.there)))))) ?_ | refine d_finf 6 rfl (by kernel_rfl) (by kernel_rfl) (ef_fn (changed_spec sv l hl c) rfl rfl (by repeat (first | exact Split.nil | (apply Split.cons; (repeat (first | with_reducible exact Take.here | apply Take.there)))))) ?_
  rintro v10 L1 ⟨⟨A1, c1, rfl⟩, rfl⟩
  refine swd_app ?_
  first | refine d_pu 7 rfl (pu_nilCheck rfl) (by kernel_rfl) (by kernel_rfl) (by kernel_rfl) ?_ | refine d_pu 7 rfl (pu_nilCheck_fn rfl) (by kernel_rfl) (by kernel_rfl) (by kernel_rfl) ?_ | refine d_pu 7 rfl (pu_nilCheck_if rfl) (by kernel_rfl) (by kernel_rfl) (by kernel_rfl) ?_
  first | refine d_pu 8 rfl (pu_fieldAddr0 rfl) (by kernel_rfl) (by kernel_rfl) (by kernel_rfl) ?_ | refine d_pu 8 rfl (pu_fieldAddr rfl) (by kernel_rfl) (by kernel_rfl) (by kernel_rfl) ?_
  first | refine d_fin0t 9 rfl (by kernel_rfl) (by kernel_rfl) (ef_store rfl rfl rfl) ?_ | refine d_fin0f 9 rfl (by kernel_rfl) (by kernel_rfl) (ef_store rfl rfl rfl) ?_
  refine d_sub _ (.cons (t := 0) rfl (.cons (t := 3) rfl .nil)) ?_
  first | refine d_nilt (by kernel_rfl) ?_ | refine d_nilf (by kernel_rfl) ?_
  refine then_n ?_
  refine swp_draw [4, 5] _ [] (by simp only [List.append_nil]; exact Ent.refl _) (by kernel_rfl) ?_
  refine d_pu 0 rfl (pu_move rfl) (by kernel_rfl) (by kernel_rfl) (by kernel_rfl) ?_
  refine d_pu 1 rfl (pu_move rfl) (by kernel_rfl) (by kernel_rfl) (by kernel_rfl) ?_
  first | refine d_pu 2 rfl (pu_nilCheck rfl) (by kernel_rfl) (by kernel_rfl) (by kernel_rfl) ?_ | refine d_pu 2 rfl (pu_nilCheck_fn rfl) (by kernel_rfl) (by kernel_rfl) (by kernel_rfl) ?_ | refine d_pu 2 rfl (pu_nilCheck_if rfl) (by kernel_rfl) (by kernel_rfl) (by kernel_rfl) ?_
  first | refine d_pu 3 rfl (pu_fieldAddr0 rfl) (by kernel_rfl) (by kernel_rfl) (by kernel_rfl) ?_ | refine d_pu 3 rfl (pu_fieldAddr rfl) (by kernel_rfl) (by kernel_rfl) (by kernel_rfl) ?_
  refine d_rd 4 rfl (rd_load rfl rfl) rfl (by kernel_rfl) (by kernel_rfl) (by kernel_rfl) ?_
  first | refine d_rd 5 rfl (rd_loadW rfl rfl) rfl (by kernel_rfl) (by kernel_rfl) (by kernel_rfl) ?_ | refine d_rd 5 rfl (rd_loadX rfl rfl rfl) rfl (by kernel_rfl) (by kernel_rfl) (by kernel_rfl) ?_
  refine d_eft 6 rfl (by kernel_rfl) (ef_bldS (qs := [(0, _)]) rfl rfl rfl) ?_
  intro b19
  refine ⟨_, Split.ent (by repeat (first | exact Split.nil | (apply Split.cons; (repeat (first | with_reducible exact Take.here | apply Take.there))))), ?_⟩
  first | refine d_fint 7 rfl (by kernel_rfl) (by kernel_rfl) (ef_append_lit (l := ps.length) (m := 1) (news := rC1 c) rfl rfl (by repeat (first | exact Split.nil | (apply Split.cons; (repeat (first | with_reducible exact Take.here | apply Take.there))))) (by simp only [maxLen]; omega) (by omega)) ?_ | refine d_finf 7 rfl (by kernel_rfl) (by kernel_rfl) (ef_append_lit (l := ps.length) (m := 1) (news := rC1 c) rfl rfl (by repeat (first | exact Split.nil | (apply Split.cons; (repeat (first | with_reducible exact Take.here | apply Take.there))))) (by simp only [maxLen]; omega) (by omega)) ?_
  rintro w' hw'
  obtain ⟨g7, c7, rfl⟩ := hw' (by decide)
  first | refine d_pu 8 rfl (pu_nilCheck rfl) (by kernel_rfl) (by kernel_rfl) (by kernel_rfl) ?_ | refine d_pu 8 rfl (pu_nilCheck_fn rfl) (by kernel_rfl) (by kernel_rfl) (by kernel_rfl) ?_ | refine d_pu 8 rfl (pu_nilCheck_if rfl) (by kernel_rfl) (by kernel_rfl) (by kernel_rfl) ?_
  first | refine d_pu 9 rfl (pu_fieldAddr0 rfl) (by kernel_rfl) (by kernel_rfl) (by kernel_rfl) ?_ | refine d_pu 9 rfl (pu_fieldAddr rfl) (by kernel_rfl) (by kernel_rfl) (by kernel_rfl) ?_
  first | refine d_fin0t 10 rfl (by kernel_rfl) (by kernel_rfl) (ef_store rfl rfl rfl) ?_ | refine d_fin0f 10 rfl (by kernel_rfl) (by kernel_rfl) (ef_store rfl rfl rfl) ?_
  refine d_sub _ .nil ?_
  first | refine d_nilt (by kernel_rfl) ?_ | refine d_nilf (by kernel_rfl) ?_
  rw [hps, hpl]
  exact done_end [blk p 64 (rdC q fv (.slice A1 (chgN l c).length c1) av (.slice (some ⟨g7, 0, none⟩) (ps.length + 1) c7) fa off), own 97 2 (.slice A1 (chgN l c).length c1) (chgN l c).length ((chgN l c).flatMap rN1), own 95 3 (.slice (some ⟨g7, 0, none⟩) (ps.length + 1) c7) (ps.length + 1) (ps.flatMap rC1 ++ rC1 c)] .nil ⟨_, _, rfl⟩ (by repeat (first | exact Split.nil | (apply Split.cons; (repeat (first | with_reducible exact Take.here | apply Take.there)))))
end SX
namespace SX
open Go Go.Proofs
def sE (fa : Int) : Int := if fa = 1 then 8 else 0
def sA (fa : Int) : Int := if fa = 1 then 0 else if 0 < fa then fa - 1 else fa
def sO (fa : Int) (off : Bool) : Bool := if fa = 1 then true else off
theorem sE_1 {fa : Int} (h : fa = 1) : sE fa = 8 := if_pos h
theorem sE_n {fa : Int} (h : fa ≠ 1) : sE fa = 0 := if_neg h
theorem sE_t {fa : Int} (h : sE fa ≠ 0) : fa = 1 := by
  unfold sE at h; split at h
  · assumption
  · exact absurd rfl h
theorem sE_f {fa : Int} (h : sE fa = 0) : fa ≠ 1 := fun k => by rw [sE_1 k] at h; cases h
theorem rstep' (p : Nat) (q : Int) (fv sv av wv : Value) (fa : Int) (off : Bool) (h0 : 0 ≤ fa ∧ fa ≤ 9223372036854775807) : Spec Try.prog 70 [pv p] [blk p 64 (rdC q fv sv av wv fa off)]
    (fun r L => r = .int .i64 (sE fa) ∧ L = [blk p 64 (rdC q fv sv av wv (sA fa) (sO fa off))]) :=
  (rstep_spec p q fv sv av wv fa off h0).mono fun r L h => by
    unfold sE sA sO
    rcases h with ⟨h, rfl, rfl⟩ | ⟨h, rfl, rfl⟩
    · rw [if_pos h, if_pos h, if_pos h]; exact ⟨rfl, rfl⟩
    · rw [if_neg h, if_neg h, if_neg h]; exact ⟨rfl, rfl⟩
theorem st_1 {fa : Int} {off : Bool} (h : fa = 1) : sA fa = 0 ∧ sO fa off = true := ⟨if_pos h, if_pos h⟩
theorem st_n {fa : Int} {off : Bool} (h : fa ≠ 1) : sA fa = (if 0 < fa then fa - 1 else fa) ∧ sO fa off = off := ⟨if_neg h, if_neg h⟩
theorem isNone_of {l : List Nm} {s : ByteArray} (h : findN l s = none) : (findN l s).isNone = true := by rw [h]; rfl
set_option maxHeartbeats 4000000 in
theorem rcreate_spec (p : Nat) (d : Dk) (hd : d.Ok) (hw : Few d) (s : ByteArray) : Spec Try.prog 46 [pv p, .string s] [RDA p d] (fun r L => r = .int .i64 (createD d s).2 ∧ L = [RDA p (createD d s).1]) := by
  refine RDA.open' fun ⟨fv, sv, av, wv⟩ => ?_
  refine Spec.pre (pre := [own 97 2 sv d.seen.length (d.seen.flatMap rN1), blk p 64 (rdC d.quota fv sv av wv d.falls d.off), own 99 2 fv d.files.length (d.files.flatMap rF1), own 97 2 av d.safe.length (d.safe.flatMap rN1), own 95 3 wv d.pend.length (d.pend.flatMap rC1)]) ?_ (Split.ent' (by repeat (first | exact Split.nil | (apply Split.cons; (repeat (first | with_reducible exact Take.here | apply Take.there))))))
  refine Spec.fact' (fun m h => own_form h) fun hsv => ?_
  have hsl := hd.seenLe
  have hff := hw.1
  have hpp := hw.2
  refine Spec.of 53 Try.func46 rfl rfl rfl ?_
  refine swp_seq ?_
  refine swp_region ?_
  refine s_pu (pu_assign rfl) ?_
  refine swl_sub _ (.cons (t := 0) rfl (.cons (t := 1) rfl .nil)) ?_
  refine swl_nil ?_
  refine then_n ?_
  refine swp_seq ?_
  refine swp_seq ?_
  refine swp_region ?_
  refine s_pu (pu_move rfl) ?_
  first | refine s_pu (pu_nilCheck rfl) ?_ | refine s_pu (pu_nilCheck_fn rfl) ?_ | refine s_pu (pu_nilCheck_if rfl) ?_
  first | refine s_pu (pu_fieldAddr0 rfl) ?_ | refine s_pu (pu_fieldAddr rfl) ?_
  refine s_rd (rd_load rfl rfl) ?_
  refine swl_sub _ (.cons (t := 0) rfl (.cons (t := 1) rfl (.cons (t := 9) rfl .nil))) ?_
  refine swl_nil ?_
  refine then_n ?_
  refine swp_cond (b := _) rfl (fun h9 => ?_) (fun h9 => ?_)
  · skip   -- 9 T
    refine swp_seq ?_
    refine swp_region ?_
    refine s_pu (pu_assign rfl) ?_
    refine swl_sub _ (.cons (t := 4) rfl .nil) ?_
    refine swl_nil ?_
    refine then_n ?_
    refine swp_ret ?_
    refine then_r ?_
    have key : createD d s = (d, 8) := by unfold createD; rw [if_pos h9]
    rw [key]
    exact done_retE [RDA p d] (.tmp rfl .nil) ⟨rfl, rfl⟩ ((Split.ent' (K := [blk p 64 (rdC d.quota fv sv av wv d.falls d.off), own 99 2 fv d.files.length (d.files.flatMap rF1), own 97 2 sv d.seen.length (d.seen.flatMap rN1), own 97 2 av d.safe.length (d.safe.flatMap rN1), own 95 3 wv d.pend.length (d.pend.flatMap rC1)]) (by repeat (first | exact Split.nil | (apply Split.cons; (repeat (first | with_reducible exact Take.here | apply Take.there)))))).trans (rd_close (x := ⟨fv, sv, av, wv⟩)))
  · skip   -- 9 F
    refine swp_skip ?_
    refine then_n ?_
    refine swp_seq ?_
    refine swp_seq ?_
    refine swp_region ?_
    refine s_pu (pu_move rfl) ?_
    refine s_ef (ef_fn (rgood_spec s) rfl rfl (by repeat (first | exact Split.nil | (apply Split.cons; (repeat (first | with_reducible exact Take.here | apply Take.there)))))) ?_
    rintro v11 L1 ⟨rfl, rfl⟩
    refine swl_app ?_
    refine s_pu (pu_not rfl) ?_
    refine swl_sub _ (.cons (t := 0) rfl (.cons (t := 1) rfl (.cons (t := 12) rfl .nil))) ?_
    refine swl_nil ?_
    refine then_n ?_
    refine swp_cond (b := _) rfl (fun h12 => ?_) (fun h12 => ?_)
    · skip   -- 12 T
      refine swp_seq ?_
      refine swp_region ?_
      refine s_pu (pu_assign rfl) ?_
      refine swl_sub _ (.cons (t := 4) rfl .nil) ?_
      refine swl_nil ?_
      refine then_n ?_
      refine swp_ret ?_
      refine then_r ?_
      have key : createD d s = (d, 1) := by unfold createD; rw [if_neg (by rw [h9]; decide), if_pos (by simpa using h12)]
      rw [key]
      exact done_retE [RDA p d] (.tmp rfl .nil) ⟨rfl, rfl⟩ ((Split.ent' (K := [blk p 64 (rdC d.quota fv sv av wv d.falls d.off), own 99 2 fv d.files.length (d.files.flatMap rF1), own 97 2 sv d.seen.length (d.seen.flatMap rN1), own 97 2 av d.safe.length (d.safe.flatMap rN1), own 95 3 wv d.pend.length (d.pend.flatMap rC1)]) (by repeat (first | exact Split.nil | (apply Split.cons; (repeat (first | with_reducible exact Take.here | apply Take.there)))))).trans (rd_close (x := ⟨fv, sv, av, wv⟩)))
    · skip   -- 12 F
      have h12' : goodN s = true := by simpa using h12
      refine swp_skip ?_
      refine then_n ?_
      refine swp_cut (fun env L => Sub env [(0, pv p), (1, .string s)] ∧ Ent L [blk p 64 (rdC d.quota fv sv av wv d.falls d.off), own 99 2 fv d.files.length (d.files.flatMap rF1), own 97 2 sv d.seen.length (d.seen.flatMap rN1), own 97 2 av d.safe.length (d.safe.flatMap rN1), own 95 3 wv d.pend.length (d.pend.flatMap rC1)] ∧ ¬ ((findN d.seen s).isNone = true ∧ 64 ≤ d.seen.length)) ?_ ?_
      · skip
        refine swp_seq ?_
        refine swp_region ?_
        refine s_pu (pu_move rfl) ?_
        first | refine s_pu (pu_nilCheck rfl) ?_ | refine s_pu (pu_nilCheck_fn rfl) ?_ | refine s_pu (pu_nilCheck_if rfl) ?_
        first | refine s_pu (pu_fieldAddr0 rfl) ?_ | refine s_pu (pu_fieldAddr rfl) ?_
        refine s_rd (rd_load rfl rfl) ?_
        refine s_pu (pu_move rfl) ?_
        refine s_ef (ef_fn (rfind_spec sv d.seen s (by omega)) rfl rfl (by repeat (first | exact Split.nil | (apply Split.cons; (repeat (first | with_reducible exact Take.here | apply Take.there)))))) ?_
        rintro v18 L1 ⟨⟨i, rfl, hi⟩, rfl⟩
        refine swl_app ?_
        refine s_pu (pu_lss rfl rfl) ?_
        refine s_pu (pu_move rfl) ?_
        refine s_split 20 rfl (fun h20 => ?_) (fun h20 => ?_)
        · skip   -- 20 T
          refine s_on rfl rfl ?_
          refine s_pu (pu_move rfl) ?_
          refine s_on rfl rfl ?_
          first | refine s_pu (pu_nilCheck rfl) ?_ | refine s_pu (pu_nilCheck_fn rfl) ?_ | refine s_pu (pu_nilCheck_if rfl) ?_
          refine s_on rfl rfl ?_
          first | refine s_pu (pu_fieldAddr0 rfl) ?_ | refine s_pu (pu_fieldAddr rfl) ?_
          refine s_on rfl rfl ?_
          refine s_rd (rd_load rfl rfl) ?_
          refine s_on rfl rfl ?_
          refine s_pu (pu_len_own hsv rfl) ?_
          refine s_on rfl rfl ?_
          refine s_pu (pu_geq rfl rfl) ?_
          first | refine s_pu (pu_pick_t rfl rfl) ?_ | refine s_pu (pu_pick_f rfl rfl) ?_
          refine swl_sub _ (.cons (t := 0) rfl (.cons (t := 1) rfl (.cons (t := 27) rfl .nil))) ?_
          refine swl_nil ?_
          refine then_n ?_
          refine swp_cond (b := _) rfl (fun h27 => ?_) (fun h27 => ?_)
          · skip   -- 27 T
            refine swp_seq ?_
            refine swp_region ?_
            refine s_pu (pu_assign rfl) ?_
            refine swl_sub _ (.cons (t := 4) rfl .nil) ?_
            refine swl_nil ?_
            refine then_n ?_
            refine swp_ret ?_
            refine then_r ?_
            have h20' := of_decide_eq_true h20
            have h27' := of_decide_eq_true h27
            have hf : findN d.seen s = none := by
              rcases hi with ⟨_, h⟩ | ⟨k, y, h, _⟩
              · exact h
              · omega
            have key : createD d s = (d, 7) := by unfold createD; rw [if_neg (by rw [h9]; decide), if_neg (by rw [h12']; decide), if_pos ⟨isNone_of hf, by omega⟩]
            rw [key]
            exact done_retE [RDA p d] (.tmp rfl .nil) ⟨rfl, rfl⟩ ((Split.ent' (K := [blk p 64 (rdC d.quota fv sv av wv d.falls d.off), own 99 2 fv d.files.length (d.files.flatMap rF1), own 97 2 sv d.seen.length (d.seen.flatMap rN1), own 97 2 av d.safe.length (d.safe.flatMap rN1), own 95 3 wv d.pend.length (d.pend.flatMap rC1)]) (by repeat (first | exact Split.nil | (apply Split.cons; (repeat (first | with_reducible exact Take.here | apply Take.there)))))).trans (rd_close (x := ⟨fv, sv, av, wv⟩)))
          · skip   -- 27 F
            refine swp_skip ?_
            refine then_n ⟨⟨rfl, rfl, trivial⟩, Split.ent' (by repeat (first | exact Split.nil | (apply Split.cons; (repeat (first | with_reducible exact Take.here | apply Take.there))))), ?_⟩
            rintro ⟨k1, k2⟩
            first
              | (have h27' := of_decide_eq_false h27; omega)
              | (have h20' := of_decide_eq_false h20
                 rcases hi with ⟨h, _⟩ | ⟨k, y, _, _, h⟩
                 · omega
                 · rw [h] at k1; cases k1)
        · skip   -- 20 F
          refine s_off rfl rfl rfl ?_
          refine s_off rfl rfl rfl ?_
          refine s_off rfl rfl rfl ?_
          refine s_off rfl rfl rfl ?_
          refine s_off rfl rfl rfl ?_
          refine s_off rfl rfl rfl ?_
          first | refine s_pu (pu_pick_t rfl rfl) ?_ | refine s_pu (pu_pick_f rfl rfl) ?_
          refine swl_sub _ (.cons (t := 0) rfl (.cons (t := 1) rfl (.cons (t := 27) rfl .nil))) ?_
          refine swl_nil ?_
          refine then_n ?_
          refine swp_cond (b := _) rfl (fun h27 => by cases h27) (fun h27 => ?_)
          refine swp_skip ?_
          refine then_n ⟨⟨rfl, rfl, trivial⟩, Split.ent' (by repeat (first | exact Split.nil | (apply Split.cons; (repeat (first | with_reducible exact Take.here | apply Take.there))))), ?_⟩
          rintro ⟨k1, k2⟩
          first
            | (have h27' := of_decide_eq_false h27; omega)
            | (have h20' := of_decide_eq_false h20
               rcases hi with ⟨h, _⟩ | ⟨k, y, _, _, h⟩
               · omega
               · rw [h] at k1; cases k1)
      rintro env L ⟨hsub, hE, h1⟩
      refine swp_sub _ hsub ?_
      refine swp_ent hE ?_
      clear hsub hE env L
      refine swp_seq ?_
      refine swp_region ?_
      refine s_pu (pu_move rfl) ?_
      refine s_ef (ef_fn (rstep' p d.quota fv sv av wv d.falls d.off hd.falls) rfl rfl (by repeat (first | exact Split.nil | (apply Split.cons; (repeat (first | with_reducible exact Take.here | apply Take.there)))))) ?_
      rintro v29 L1 ⟨rfl, rfl⟩
      refine swl_app ?_
      refine s_pu (pu_assign rfl) ?_
      refine swl_sub _ (.cons (t := 0) rfl (.cons (t := 1) rfl (.cons (t := 5) rfl .nil))) ?_
      refine swl_nil ?_
      refine then_n ?_
      refine swp_seq ?_
      refine swp_seq ?_
      refine swp_region ?_
      refine s_pu (pu_move rfl) ?_
      refine s_pu (pu_neq rfl rfl) ?_
      refine swl_sub _ (.cons (t := 0) rfl (.cons (t := 1) rfl (.cons (t := 5) rfl (.cons (t := 31) rfl .nil)))) ?_
      refine swl_nil ?_
      refine then_n ?_
      refine swp_cond (b := _) rfl (fun h31 => ?_) (fun h31 => ?_)
      · skip   -- 31 T
        refine swp_seq ?_
        refine swp_region ?_
        refine s_pu (pu_move rfl) ?_
        refine s_pu (pu_assign rfl) ?_
        refine swl_sub _ (.cons (t := 4) rfl .nil) ?_
        refine swl_nil ?_
        refine then_n ?_
        refine swp_ret ?_
        refine then_r ?_
        have hf1 : d.falls = 1 := sE_t (by simpa using h31)
        have key : createD d s = (fa0 d, 8) := by unfold createD; rw [if_neg (by rw [h9]; decide), if_neg (by rw [h12']; decide), if_neg h1]; exact atStep_1 hf1 _
        rw [key, sE_1 hf1, (st_1 (off := d.off) hf1).1, (st_1 hf1).2]
        exact done_retE [RDA p (fa0 d)] (.tmp rfl .nil) ⟨rfl, rfl⟩ ((Split.ent' (K := [blk p 64 (rdC d.quota fv sv av wv 0 true), own 99 2 fv d.files.length (d.files.flatMap rF1), own 97 2 sv d.seen.length (d.seen.flatMap rN1), own 97 2 av d.safe.length (d.safe.flatMap rN1), own 95 3 wv d.pend.length (d.pend.flatMap rC1)]) (by repeat (first | exact Split.nil | (apply Split.cons; (repeat (first | with_reducible exact Take.here | apply Take.there)))))).trans (rd_close (d := fa0 d) (x := ⟨fv, sv, av, wv⟩)))
      · skip   -- 31 F
        have hfn : d.falls ≠ 1 := sE_f (by simpa using h31)
        rw [(st_n (off := d.off) hfn).1, (st_n hfn).2]
        have key : createD d s = ((newF (fa1 d)).chg ⟨nos, s, d.files.length⟩, 0) := by unfold createD; rw [if_neg (by rw [h9]; decide), if_neg (by rw [h12']; decide), if_neg h1]; exact atStep_n hfn _
        refine swp_skip ?_
        refine then_n ?_
        refine swp_seq ?_
        refine swp_region ?_
        refine s_pu (pu_move rfl) ?_
        refine s_pu (pu_move rfl) ?_
        first | refine s_pu (pu_nilCheck rfl) ?_ | refine s_pu (pu_nilCheck_fn rfl) ?_ | refine s_pu (pu_nilCheck_if rfl) ?_
        first | refine s_pu (pu_fieldAddr0 rfl) ?_ | refine s_pu (pu_fieldAddr rfl) ?_
        refine s_rd (rd_load rfl rfl) ?_
        refine s_pu (pu_bld (qs := []) rfl) ?_
        refine s_ef (ef_bldS (qs := [(0, _)]) rfl rfl rfl) ?_
        intro b39
        refine s_ef (ef_append_lit (l := d.files.length) (m := 1) (news := [.string ⟨#[]⟩, .int .i64 0]) rfl rfl (by repeat (first | exact Split.nil | (apply Split.cons; (repeat (first | with_reducible exact Take.here | apply Take.there))))) (by simp only [maxLen]; omega) (by omega)) ?_
        rintro fv' hfv'
        obtain ⟨g7, c7, rfl⟩ := hfv' (by decide)
        first | refine s_pu (pu_nilCheck rfl) ?_ | refine s_pu (pu_nilCheck_fn rfl) ?_ | refine s_pu (pu_nilCheck_if rfl) ?_
        first | refine s_pu (pu_fieldAddr0 rfl) ?_ | refine s_pu (pu_fieldAddr rfl) ?_
        refine s_ef0 (ef_store rfl rfl rfl) ?_
        refine swl_sub _ (.cons (t := 0) rfl (.cons (t := 1) rfl .nil)) ?_
        refine swl_nil ?_
        refine then_n ?_
        refine swp_seq ?_
        refine swp_region ?_
        refine s_pu (pu_move rfl) ?_
        refine s_pu (pu_move rfl) ?_
        refine s_pu (pu_move rfl) ?_
        first | refine s_pu (pu_nilCheck rfl) ?_ | refine s_pu (pu_nilCheck_fn rfl) ?_ | refine s_pu (pu_nilCheck_if rfl) ?_
        first | refine s_pu (pu_fieldAddr0 rfl) ?_ | refine s_pu (pu_fieldAddr rfl) ?_
        refine s_rd (rd_load rfl rfl) ?_
        refine s_pu (pu_len rfl) ?_
        refine s_pu (pu_sub_as ((d.files.length : Nat) : Int) rfl rfl (by omega) (by omega) (by omega)) ?_
        refine s_pu (pu_bld (qs := [(1, _), (2, _)]) rfl) ?_
        refine s_ef (ef_fn (rchange_spec p d.quota (.slice (some ⟨g7, 0, none⟩) (d.files.length + 1) c7) sv av wv (if 0 < d.falls then d.falls - 1 else d.falls) d.off d.seen d.pend (by omega) (by omega) ⟨nos, s, d.files.length⟩) rfl rfl (by repeat (first | exact Split.nil | (apply Split.cons; (repeat (first | with_reducible exact Take.here | apply Take.there)))))) ?_
        rintro v52 L1 ⟨sv', wv', rfl⟩
        refine swl_app ?_
        refine swl_sub _ .nil ?_
        refine swl_nil ?_
        refine then_n ?_
        refine swp_seq ?_
        refine swp_region ?_
        refine s_pu (pu_assign rfl) ?_
        refine swl_sub _ (.cons (t := 4) rfl .nil) ?_
        refine swl_nil ?_
        refine then_n ?_
        refine swp_ret ?_
        rw [key]
        refine done_retE [RDA p ((newF (fa1 d)).chg ⟨nos, s, d.files.length⟩)] (.tmp rfl .nil) ⟨rfl, rfl⟩ ?_
        have e1 : (d.files ++ [(⟨[], 0⟩ : Fl)]).length = d.files.length + 1 := by rw [List.length_append]; rfl
        have e2 : (d.files ++ [(⟨[], 0⟩ : Fl)]).flatMap rF1 = d.files.flatMap rF1 ++ [.string ⟨#[]⟩, .int .i64 0] := by rw [List.flatMap_append]; rfl
        refine Ent.trans (Split.ent' (K := [blk p 64 (rdC d.quota (.slice (some ⟨g7, 0, none⟩) (d.files.length + 1) c7) sv' av wv' (if 0 < d.falls then d.falls - 1 else d.falls) d.off), own 99 2 (.slice (some ⟨g7, 0, none⟩) (d.files.length + 1) c7) (d.files.length + 1) (d.files.flatMap rF1 ++ [.string ⟨#[]⟩, .int .i64 0]), own 97 2 sv' (chgN d.seen ⟨nos, s, d.files.length⟩).length ((chgN d.seen ⟨nos, s, d.files.length⟩).flatMap rN1), own 97 2 av d.safe.length (d.safe.flatMap rN1), own 95 3 wv' (d.pend ++ [(⟨nos, s, d.files.length⟩ : Cg)]).length ((d.pend ++ [(⟨nos, s, d.files.length⟩ : Cg)]).flatMap rC1)]) (by repeat (first | exact Split.nil | (apply Split.cons; (repeat (first | with_reducible exact Take.here | apply Take.there)))))) ?_
        rw [← e2, ← e1]
        exact rd_close (d := (newF (fa1 d)).chg ⟨nos, s, d.files.length⟩) (x := ⟨.slice (some ⟨g7, 0, none⟩) (d.files ++ [(⟨[], 0⟩ : Fl)]).length c7, sv', av, wv'⟩)
end SX
namespace SX
open Go Go.Proofs
theorem FileR.err {d : Dk} {s : ByteArray} {k e : Int} (h : FileR d s k e) (he : e ≠ 0) : readD d s = ([], e) ∧ ∀ f, onFile d s f = (d, e) := by
  rcases h with ⟨_, h1, h2⟩ | ⟨h, _⟩
  · exact ⟨h1, h2⟩
  · exact absurd h he
theorem FileR.ok {d : Dk} {s : ByteArray} {k e : Int} (h : FileR d s k e) (he : e = 0) : ∃ j : Nat, k = (j : Int) ∧ findN d.seen s = some j ∧ readD d s = ((d.fl j).bytes, 0) ∧ ∀ f, onFile d s f = f j := by
  rcases h with ⟨h, _⟩ | ⟨_, h⟩
  · exact absurd he h
  · exact h
set_option maxHeartbeats 4000000 in
theorem rread_spec (p : Nat) (d : Dk) (hd : d.Ok) (hw : Few d) (s : ByteArray) : Spec Try.prog 54 [pv p, .string s] [RDA p d] (fun r L => r = .tuple #[.string ⟨(readD d s).1.toArray⟩, .int .i64 (readD d s).2] ∧ L = [RDA p d]) := by
  refine RDA.open' fun ⟨fv, sv, av, wv⟩ => ?_
  have hff := hw.1
  refine Spec.of 25 Try.func54 rfl rfl rfl ?_
  refine swp_seq ?_
  refine swp_region ?_
  refine s_pu (pu_assign rfl) ?_
  refine s_pu (pu_assign rfl) ?_
  refine swl_sub _ (.cons (t := 0) rfl (.cons (t := 1) rfl .nil)) ?_
  refine swl_nil ?_
  refine then_n ?_
  refine swp_seq ?_
  refine swp_region ?_
  refine s_pu (pu_move rfl) ?_
  refine s_pu (pu_move rfl) ?_
  refine s_ef (ef_fn (rfile_spec p d hd ⟨fv, sv, av, wv⟩ s) rfl rfl (by repeat (first | exact Split.nil | (apply Split.cons; (repeat (first | with_reducible exact Take.here | apply Take.there)))))) ?_
  rintro v11 L1 ⟨⟨k, e, rfl, hR⟩, rfl⟩
  refine swl_app ?_
  refine s_pu (pu_move rfl) ?_
  first | refine s_pu (pu_extractL rfl) ?_ | refine s_pu (pu_extract rfl rfl) ?_
  first | refine s_pu (pu_extractL rfl) ?_ | refine s_pu (pu_extract rfl rfl) ?_
  refine s_pu (pu_assign rfl) ?_
  refine s_pu (pu_assign rfl) ?_
  refine swl_sub _ (.cons (t := 0) rfl (.cons (t := 6) rfl (.cons (t := 7) rfl .nil))) ?_
  refine swl_nil ?_
  refine then_n ?_
  refine swp_seq ?_
  refine swp_seq ?_
  refine swp_region ?_
  refine s_pu (pu_move rfl) ?_
  refine s_pu (pu_neq rfl rfl) ?_
  refine swl_sub _ (.cons (t := 0) rfl (.cons (t := 6) rfl (.cons (t := 7) rfl (.cons (t := 15) rfl .nil)))) ?_
  refine swl_nil ?_
  refine then_n ?_
  refine swp_cond (b := _) rfl (fun h15 => ?_) (fun h15 => ?_)
  · skip   -- 15 T
    refine swp_seq ?_
    refine swp_region ?_
    refine s_pu (pu_move rfl) ?_
    refine s_pu (pu_assign rfl) ?_
    refine s_pu (pu_assign rfl) ?_
    refine swl_sub _ (.cons (t := 4) rfl (.cons (t := 5) rfl .nil)) ?_
    refine swl_nil ?_
    refine then_n ?_
    refine swp_ret ?_
    refine then_r ?_
    rw [(hR.err (by simpa using h15)).1]
    exact done_retE [RDA p d] (.tmp rfl (.tmp rfl .nil)) ⟨rfl, rfl⟩ ((Split.ent' (K := [blk p 64 (rdC d.quota fv sv av wv d.falls d.off), own 99 2 fv d.files.length (d.files.flatMap rF1), own 97 2 sv d.seen.length (d.seen.flatMap rN1), own 97 2 av d.safe.length (d.safe.flatMap rN1), own 95 3 wv d.pend.length (d.pend.flatMap rC1)]) (by repeat (first | exact Split.nil | (apply Split.cons; (repeat (first | with_reducible exact Take.here | apply Take.there)))))).trans (rd_close (x := ⟨fv, sv, av, wv⟩)))
  · skip   -- 15 F
    obtain ⟨j, rfl, hf, hr, _⟩ := hR.ok (by simpa using h15)
    have hj := file_lt hd hf
    refine swp_ent (Split.ent' (K := [own 99 2 fv d.files.length (d.files.flatMap rF1), blk p 64 (rdC d.quota fv sv av wv d.falls d.off), own 97 2 sv d.seen.length (d.seen.flatMap rN1), own 97 2 av d.safe.length (d.safe.flatMap rN1), own 95 3 wv d.pend.length (d.pend.flatMap rC1)]) (by repeat (first | exact Split.nil | (apply Split.cons; (repeat (first | with_reducible exact Take.here | apply Take.there)))))) ?_
    refine swp_fact (fun m h => own_pos h (by omega)) fun ⟨b, c, hfv, hlc, hcm⟩ => ?_
    subst hfv
    have hcell := flat_at (f := rF1) (n := 2) (fun _ => rfl) (fl_at hj) 0 _ rfl
    refine swp_skip ?_
    refine then_n ?_
    refine swp_seq ?_
    refine swp_region ?_
    refine s_pu (pu_move rfl) ?_
    first | refine s_pu (pu_nilCheck rfl) ?_ | refine s_pu (pu_nilCheck_fn rfl) ?_ | refine s_pu (pu_nilCheck_if rfl) ?_
    first | refine s_pu (pu_fieldAddr0 rfl) ?_ | refine s_pu (pu_fieldAddr rfl) ?_
    refine s_rd (rd_load rfl rfl) ?_
    refine s_pu (pu_move rfl) ?_
    refine s_pu (pu_indexAddr (0 + j * 2) rfl rfl (by omega) (by omega) (by rw [Int.toNat_natCast])) ?_
    first | refine s_pu (pu_fieldAddr0 rfl) ?_ | refine s_pu (pu_fieldAddr rfl) ?_
    refine s_rd (rd_own rfl (by repeat (first | with_reducible exact Take.here | apply Take.there)) (by rw [Nat.zero_add]; exact hcell)) ?_
    refine s_pu (pu_assign rfl) ?_
    refine s_pu (pu_assign rfl) ?_
    refine swl_sub _ (.cons (t := 4) rfl (.cons (t := 5) rfl .nil)) ?_
    refine swl_nil ?_
    refine then_n ?_
    refine swp_ret ?_
    rw [hr]
    exact done_retE [RDA p d] (.tmp rfl (.tmp rfl .nil)) ⟨rfl, rfl⟩ ((Split.ent' (K := [blk p 64 (rdC d.quota (.slice (some ⟨b, 0, none⟩) d.files.length c) sv av wv d.falls d.off), own 99 2 (.slice (some ⟨b, 0, none⟩) d.files.length c) d.files.length (d.files.flatMap rF1), own 97 2 sv d.seen.length (d.seen.flatMap rN1), own 97 2 av d.safe.length (d.safe.flatMap rN1), own 95 3 wv d.pend.length (d.pend.flatMap rC1)]) (by repeat (first | exact Split.nil | (apply Split.cons; (repeat (first | with_reducible exact Take.here | apply Take.there)))))).trans (rd_close (x := ⟨.slice (some ⟨b, 0, none⟩) d.files.length c, sv, av, wv⟩)))
set_option maxHeartbeats 4000000 in
theorem rsync_spec (p : Nat) (d : Dk) (hd : d.Ok) (hw : Few d) (s : ByteArray) : Spec Try.prog 48 [pv p, .string s] [RDA p d] (fun r L => r = .int .i64 (syncD d s).2 ∧ L = [RDA p (syncD d s).1]) := by
  refine RDA.open' fun ⟨fv, sv, av, wv⟩ => ?_
  have hff := hw.1
  refine Spec.of 37 Try.func48 rfl rfl rfl ?_
  refine swp_seq ?_
  refine swp_region ?_
  refine s_pu (pu_assign rfl) ?_
  refine swl_sub _ (.cons (t := 0) rfl (.cons (t := 1) rfl .nil)) ?_
  refine swl_nil ?_
  refine then_n ?_
  refine swp_seq ?_
  refine swp_region ?_
  refine s_pu (pu_move rfl) ?_
  refine s_pu (pu_move rfl) ?_
  refine s_ef (ef_fn (rfile_spec p d hd ⟨fv, sv, av, wv⟩ s) rfl rfl (by repeat (first | exact Split.nil | (apply Split.cons; (repeat (first | with_reducible exact Take.here | apply Take.there)))))) ?_
  rintro v10 L1 ⟨⟨k, e, rfl, hR⟩, rfl⟩
  refine swl_app ?_
  refine s_pu (pu_move rfl) ?_
  first | refine s_pu (pu_extractL rfl) ?_ | refine s_pu (pu_extract rfl rfl) ?_
  first | refine s_pu (pu_extractL rfl) ?_ | refine s_pu (pu_extract rfl rfl) ?_
  refine s_pu (pu_assign rfl) ?_
  refine s_pu (pu_assign rfl) ?_
  refine swl_sub _ (.cons (t := 0) rfl (.cons (t := 5) rfl (.cons (t := 6) rfl .nil))) ?_
  refine swl_nil ?_
  refine then_n ?_
  refine swp_seq ?_
  refine swp_seq ?_
  refine swp_region ?_
  refine s_pu (pu_move rfl) ?_
  refine s_pu (pu_neq rfl rfl) ?_
  refine swl_sub _ (.cons (t := 0) rfl (.cons (t := 5) rfl (.cons (t := 6) rfl (.cons (t := 14) rfl .nil)))) ?_
  refine swl_nil ?_
  refine then_n ?_
  refine swp_cond (b := _) rfl (fun h14 => ?_) (fun h14 => ?_)
  · skip   -- 14 T
    refine swp_seq ?_
    refine swp_region ?_
    refine s_pu (pu_move rfl) ?_
    refine s_pu (pu_assign rfl) ?_
    refine swl_sub _ (.cons (t := 4) rfl .nil) ?_
    refine swl_nil ?_
    refine then_n ?_
    refine swp_ret ?_
    refine then_r ?_
    unfold syncD
    rw [(hR.err (by simpa using h14)).2]
    exact done_retE [RDA p d] (.tmp rfl .nil) ⟨rfl, rfl⟩ ((Split.ent' (K := [blk p 64 (rdC d.quota fv sv av wv d.falls d.off), own 99 2 fv d.files.length (d.files.flatMap rF1), own 97 2 sv d.seen.length (d.seen.flatMap rN1), own 97 2 av d.safe.length (d.safe.flatMap rN1), own 95 3 wv d.pend.length (d.pend.flatMap rC1)]) (by repeat (first | exact Split.nil | (apply Split.cons; (repeat (first | with_reducible exact Take.here | apply Take.there)))))).trans (rd_close (x := ⟨fv, sv, av, wv⟩)))
  · skip   -- 14 F
    obtain ⟨j, rfl, hf, _, hon⟩ := hR.ok (by simpa using h14)
    have hj := file_lt hd hf
    refine swp_ent (Split.ent' (K := [own 99 2 fv d.files.length (d.files.flatMap rF1), blk p 64 (rdC d.quota fv sv av wv d.falls d.off), own 97 2 sv d.seen.length (d.seen.flatMap rN1), own 97 2 av d.safe.length (d.safe.flatMap rN1), own 95 3 wv d.pend.length (d.pend.flatMap rC1)]) (by repeat (first | exact Split.nil | (apply Split.cons; (repeat (first | with_reducible exact Take.here | apply Take.there)))))) ?_
    refine swp_fact (fun m h => own_pos h (by omega)) fun ⟨b, c, hfv, hlc, hcm⟩ => ?_
    have hcell := flat_at (f := rF1) (n := 2) (fun _ => rfl) (fl_at hj) 0 _ rfl
    have hst := set_safe (fl_at hj)
    have hfl : (d.files.flatMap rF1).length = d.files.length * 2 := flat_length (f := rF1) (k := 2) (fun _ => rfl) _
    refine swp_skip ?_
    refine then_n ?_
    refine swp_seq ?_
    refine swp_region ?_
    refine s_pu (pu_move rfl) ?_
    refine s_ef (ef_fn (rstep' p d.quota fv sv av wv d.falls d.off hd.falls) rfl rfl (by repeat (first | exact Split.nil | (apply Split.cons; (repeat (first | with_reducible exact Take.here | apply Take.there)))))) ?_
    rintro v17 L1 ⟨rfl, rfl⟩
    refine swl_app ?_
    refine s_pu (pu_assign rfl) ?_
    refine swl_sub _ (.cons (t := 0) rfl (.cons (t := 5) rfl (.cons (t := 6) rfl .nil))) ?_
    refine swl_nil ?_
    refine then_n ?_
    refine swp_seq ?_
    refine swp_seq ?_
    refine swp_region ?_
    refine s_pu (pu_move rfl) ?_
    refine s_pu (pu_eql rfl rfl) ?_
    refine swl_sub _ (.cons (t := 0) rfl (.cons (t := 5) rfl (.cons (t := 6) rfl (.cons (t := 19) rfl .nil)))) ?_
    refine swl_nil ?_
    refine then_n ?_
    refine swp_cond (b := _) rfl (fun h19 => ?_) (fun h19 => ?_)
    · skip   -- 19 T
      have hfn : d.falls ≠ 1 := sE_f (of_decide_eq_true h19)
      rw [(st_n (off := d.off) hfn).1, (st_n hfn).2]
      have key : syncD d s = ((fa1 d).setF j ⟨(d.fl j).bytes, (d.fl j).bytes.length⟩, 0) := by unfold syncD; rw [hon]; exact atStep_n hfn _
      subst hfv
      refine swp_draw [3, 8, 12] _ [] (by simp only [List.append_nil]; exact Ent.refl _) (by kernel_rfl) ?_
      refine d_pu 0 rfl (pu_move rfl) (by kernel_rfl) (by kernel_rfl) (by kernel_rfl) ?_
      first | refine d_pu 1 rfl (pu_nilCheck rfl) (by kernel_rfl) (by kernel_rfl) (by kernel_rfl) ?_ | refine d_pu 1 rfl (pu_nilCheck_fn rfl) (by kernel_rfl) (by kernel_rfl) (by kernel_rfl) ?_ | refine d_pu 1 rfl (pu_nilCheck_if rfl) (by kernel_rfl) (by kernel_rfl) (by kernel_rfl) ?_
      first | refine d_pu 2 rfl (pu_fieldAddr0 rfl) (by kernel_rfl) (by kernel_rfl) (by kernel_rfl) ?_ | refine d_pu 2 rfl (pu_fieldAddr rfl) (by kernel_rfl) (by kernel_rfl) (by kernel_rfl) ?_
      refine d_rd 3 rfl (rd_load rfl rfl) rfl (by kernel_rfl) (by kernel_rfl) (by kernel_rfl) ?_
      refine d_pu 4 rfl (pu_move rfl) (by kernel_rfl) (by kernel_rfl) (by kernel_rfl) ?_
      refine d_pu 5 rfl (pu_move rfl) (by kernel_rfl) (by kernel_rfl) (by kernel_rfl) ?_
      first | refine d_pu 6 rfl (pu_nilCheck rfl) (by kernel_rfl) (by kernel_rfl) (by kernel_rfl) ?_ | refine d_pu 6 rfl (pu_nilCheck_fn rfl) (by kernel_rfl) (by kernel_rfl) (by kernel_rfl) ?_ | refine d_pu 6 rfl (pu_nilCheck_if rfl) (by kernel_rfl) (by kernel_rfl) (by kernel_rfl) ?_
      first | refine d_pu 7 rfl (pu_fieldAddr0 rfl) (by kernel_rfl) (by kernel_rfl) (by kernel_rfl) ?_ | refine d_pu 7 rfl (pu_fieldAddr rfl) (by kernel_rfl) (by kernel_rfl) (by kernel_rfl) ?_
      refine d_rd 8 rfl (rd_load rfl rfl) rfl (by kernel_rfl) (by kernel_rfl) (by kernel_rfl) ?_
      refine d_pu 9 rfl (pu_move rfl) (by kernel_rfl) (by kernel_rfl) (by kernel_rfl) ?_
      refine d_pu 10 rfl (pu_indexAddr (0 + j * 2) rfl rfl (by omega) (by omega) (by rw [Int.toNat_natCast])) (by kernel_rfl) (by kernel_rfl) (by kernel_rfl) ?_
      first | refine d_pu 11 rfl (pu_fieldAddr0 rfl) (by kernel_rfl) (by kernel_rfl) (by kernel_rfl) ?_ | refine d_pu 11 rfl (pu_fieldAddr rfl) (by kernel_rfl) (by kernel_rfl) (by kernel_rfl) ?_
      refine d_rd 12 rfl (rd_own rfl (by repeat (first | with_reducible exact Take.here | apply Take.there)) (by rw [Nat.zero_add]; exact hcell)) rfl (by kernel_rfl) (by kernel_rfl) (by kernel_rfl) ?_
      refine d_pu 13 rfl (pu_strlen rfl) (by kernel_rfl) (by kernel_rfl) (by kernel_rfl) ?_
      refine d_pu 14 rfl (pu_indexAddr (0 + j * 2) rfl rfl (by omega) (by omega) (by rw [Int.toNat_natCast])) (by kernel_rfl) (by kernel_rfl) (by kernel_rfl) ?_
      first | refine d_pu 15 rfl (pu_fieldAddr0 rfl) (by kernel_rfl) (by kernel_rfl) (by kernel_rfl) ?_ | refine d_pu 15 rfl (pu_fieldAddr rfl) (by kernel_rfl) (by kernel_rfl) (by kernel_rfl) ?_
      first | refine d_fin0t 16 rfl (by kernel_rfl) (by kernel_rfl) (ef_store_own rfl rfl (by repeat (first | exact Split.nil | (apply Split.cons; (repeat (first | with_reducible exact Take.here | apply Take.there))))) (by rw [hfl]; omega) rfl) ?_ | refine d_fin0f 16 rfl (by kernel_rfl) (by kernel_rfl) (ef_store_own rfl rfl (by repeat (first | exact Split.nil | (apply Split.cons; (repeat (first | with_reducible exact Take.here | apply Take.there))))) (by rw [hfl]; omega) rfl) ?_
      refine d_sub _ (.cons (t := 6) rfl .nil) ?_
      first | refine d_nilt (by kernel_rfl) ?_ | refine d_nilf (by kernel_rfl) ?_
      refine then_n ?_
      refine swp_seq ?_
      refine swp_region ?_
      refine s_pu (pu_move rfl) ?_
      refine s_pu (pu_assign rfl) ?_
      refine swl_sub _ (.cons (t := 4) rfl .nil) ?_
      refine swl_nil ?_
      refine then_n ?_
      refine swp_ret ?_
      have hE : sE d.falls = 0 := sE_n hfn
      rw [key, hE]
      refine done_retE [RDA p ((fa1 d).setF j ⟨(d.fl j).bytes, (d.fl j).bytes.length⟩)] (.tmp rfl .nil) ⟨rfl, rfl⟩ ?_
      rw [tsize, hst]
      have e1 : (d.files.set j ⟨(d.fl j).bytes, (d.fl j).bytes.length⟩).length = d.files.length := List.length_set
      refine Ent.trans (Split.ent' (K := [blk p 64 (rdC d.quota (.slice (some ⟨b, 0, none⟩) d.files.length c) sv av wv (if 0 < d.falls then d.falls - 1 else d.falls) d.off), own 99 2 (.slice (some ⟨b, 0, none⟩) d.files.length c) d.files.length ((d.files.set j ⟨(d.fl j).bytes, (d.fl j).bytes.length⟩).flatMap rF1), own 97 2 sv d.seen.length (d.seen.flatMap rN1), own 97 2 av d.safe.length (d.safe.flatMap rN1), own 95 3 wv d.pend.length (d.pend.flatMap rC1)]) (by repeat (first | exact Split.nil | (apply Split.cons; (repeat (first | with_reducible exact Take.here | apply Take.there)))))) ?_
      have := rd_close (p := p) (L := []) (d := (fa1 d).setF j ⟨(d.fl j).bytes, (d.fl j).bytes.length⟩) (x := ⟨.slice (some ⟨b, 0, none⟩) d.files.length c, sv, av, wv⟩)
      rw [show ((fa1 d).setF j ⟨(d.fl j).bytes, (d.fl j).bytes.length⟩).files = d.files.set j ⟨(d.fl j).bytes, (d.fl j).bytes.length⟩ from rfl, e1] at this
      exact this
    · skip   -- 19 F
      refine swp_skip ?_
      refine then_n ?_
      refine swp_seq ?_
      refine swp_region ?_
      refine s_pu (pu_move rfl) ?_
      refine s_pu (pu_assign rfl) ?_
      refine swl_sub _ (.cons (t := 4) rfl .nil) ?_
      refine swl_nil ?_
      refine then_n ?_
      refine swp_ret ?_
      have hf1 : d.falls = 1 := sE_t (of_decide_eq_false h19)
      have key : syncD d s = (fa0 d, 8) := by unfold syncD; rw [hon]; exact atStep_1 hf1 _
      rw [key, sE_1 hf1, (st_1 (off := d.off) hf1).1, (st_1 hf1).2]
      exact done_retE [RDA p (fa0 d)] (.tmp rfl .nil) ⟨rfl, rfl⟩ ((Split.ent' (K := [blk p 64 (rdC d.quota fv sv av wv 0 true), own 99 2 fv d.files.length (d.files.flatMap rF1), own 97 2 sv d.seen.length (d.seen.flatMap rN1), own 97 2 av d.safe.length (d.safe.flatMap rN1), own 95 3 wv d.pend.length (d.pend.flatMap rC1)]) (by repeat (first | exact Split.nil | (apply Split.cons; (repeat (first | with_reducible exact Take.here | apply Take.there)))))).trans (rd_close (d := fa0 d) (x := ⟨fv, sv, av, wv⟩)))
set_option maxHeartbeats 4000000 in
theorem rsyncn_spec (p : Nat) (d : Dk) (hd : d.Ok) : Spec Try.prog 51 [pv p] [RDA p d] (fun r L => r = .int .i64 (syncNamesD d).2 ∧ L = [RDA p (syncNamesD d).1]) := by
  refine RDA.open' fun ⟨fv, sv, av, wv⟩ => ?_
  have hsl := hd.seenLe
  have hch : chgN d.seen ⟨nos, nos, 0⟩ = d.seen := by
    unfold chgN
    rw [if_pos (strEq_refl _), List.append_nil]
    refine List.filter_eq_self.2 fun y hy => ?_
    unfold keepN
    rw [hd.names y hy]; rfl
  refine Spec.of 25 Try.func51 rfl rfl rfl ?_
  refine swp_seq ?_
  refine swp_region ?_
  refine s_pu (pu_assign rfl) ?_
  refine swl_sub _ (.cons (t := 0) rfl .nil) ?_
  refine swl_nil ?_
  refine then_n ?_
  refine swp_seq ?_
  refine swp_seq ?_
  refine swp_region ?_
  refine s_pu (pu_move rfl) ?_
  first | refine s_pu (pu_nilCheck rfl) ?_ | refine s_pu (pu_nilCheck_fn rfl) ?_ | refine s_pu (pu_nilCheck_if rfl) ?_
  first | refine s_pu (pu_fieldAddr0 rfl) ?_ | refine s_pu (pu_fieldAddr rfl) ?_
  refine s_rd (rd_load rfl rfl) ?_
  refine swl_sub _ (.cons (t := 0) rfl (.cons (t := 7) rfl .nil)) ?_
  refine swl_nil ?_
  refine then_n ?_
  refine swp_cond (b := _) rfl (fun h7 => ?_) (fun h7 => ?_)
  · skip   -- 7 T
    refine swp_seq ?_
    refine swp_region ?_
    refine s_pu (pu_assign rfl) ?_
    refine swl_sub _ (.cons (t := 2) rfl .nil) ?_
    refine swl_nil ?_
    refine then_n ?_
    refine swp_ret ?_
    refine then_r ?_
    have key : syncNamesD d = (d, 8) := by unfold syncNamesD; rw [if_pos h7]
    rw [key]
    exact done_retE [RDA p d] (.tmp rfl .nil) ⟨rfl, rfl⟩ ((Split.ent' (K := [blk p 64 (rdC d.quota fv sv av wv d.falls d.off), own 99 2 fv d.files.length (d.files.flatMap rF1), own 97 2 sv d.seen.length (d.seen.flatMap rN1), own 97 2 av d.safe.length (d.safe.flatMap rN1), own 95 3 wv d.pend.length (d.pend.flatMap rC1)]) (by repeat (first | exact Split.nil | (apply Split.cons; (repeat (first | with_reducible exact Take.here | apply Take.there)))))).trans (rd_close (x := ⟨fv, sv, av, wv⟩)))
  · skip   -- 7 F
    refine swp_skip ?_
    refine then_n ?_
    refine swp_seq ?_
    refine swp_region ?_
    refine s_pu (pu_move rfl) ?_
    refine s_ef (ef_fn (rstep' p d.quota fv sv av wv d.falls d.off hd.falls) rfl rfl (by repeat (first | exact Split.nil | (apply Split.cons; (repeat (first | with_reducible exact Take.here | apply Take.there)))))) ?_
    rintro v9 L1 ⟨rfl, rfl⟩
    refine swl_app ?_
    refine s_pu (pu_assign rfl) ?_
    refine swl_sub _ (.cons (t := 0) rfl (.cons (t := 3) rfl .nil)) ?_
    refine swl_nil ?_
    refine then_n ?_
    refine swp_seq ?_
    refine swp_seq ?_
    refine swp_region ?_
    refine s_pu (pu_move rfl) ?_
    refine s_pu (pu_eql rfl rfl) ?_
    refine swl_sub _ (.cons (t := 0) rfl (.cons (t := 3) rfl (.cons (t := 11) rfl .nil))) ?_
    refine swl_nil ?_
    refine then_n ?_
    refine swp_cond (b := _) rfl (fun h11 => ?_) (fun h11 => ?_)
    · skip   -- 11 T
      have hfn : d.falls ≠ 1 := sE_f (of_decide_eq_true h11)
      rw [(st_n (off := d.off) hfn).1, (st_n hfn).2]
      have key : syncNamesD d = (({ (fa1 d) with safe := d.seen, pend := [] } : Dk), 0) := by unfold syncNamesD; rw [if_neg (by rw [h7]; decide)]; exact atStep_n hfn _
      refine swp_seq ?_
      refine swp_region ?_
      refine s_pu (pu_move rfl) ?_
      refine s_pu (pu_move rfl) ?_
      first | refine s_pu (pu_nilCheck rfl) ?_ | refine s_pu (pu_nilCheck_fn rfl) ?_ | refine s_pu (pu_nilCheck_if rfl) ?_
      first | refine s_pu (pu_fieldAddr0 rfl) ?_ | refine s_pu (pu_fieldAddr rfl) ?_
      refine s_rd (rd_load rfl rfl) ?_
      refine s_pu (pu_bld (qs := []) rfl) ?_
      refine s_ef (ef_fn (changed_spec sv d.seen (by omega) ⟨nos, nos, 0⟩) rfl rfl (by repeat (first | exact Split.nil | (apply Split.cons; (repeat (first | with_reducible exact Take.here | apply Take.there)))))) ?_
      rintro v18 L1 ⟨⟨A1, c1, rfl⟩, rfl⟩
      rw [hch]
      refine swl_app ?_
      first | refine s_pu (pu_nilCheck rfl) ?_ | refine s_pu (pu_nilCheck_fn rfl) ?_ | refine s_pu (pu_nilCheck_if rfl) ?_
      first | refine s_pu (pu_fieldAddr0 rfl) ?_ | refine s_pu (pu_fieldAddr rfl) ?_
      refine s_ef0 (ef_store rfl rfl rfl) ?_
      refine swl_sub _ (.cons (t := 0) rfl (.cons (t := 3) rfl .nil)) ?_
      refine swl_nil ?_
      refine then_n ?_
      refine swp_region ?_
      refine s_pu (pu_move rfl) ?_
      first | refine s_pu (pu_nilCheck rfl) ?_ | refine s_pu (pu_nilCheck_fn rfl) ?_ | refine s_pu (pu_nilCheck_if rfl) ?_
      first | refine s_pu (pu_fieldAddr0 rfl) ?_ | refine s_pu (pu_fieldAddr rfl) ?_
      refine s_ef0 (ef_store rfl rfl rfl) ?_
      refine swl_sub _ (.cons (t := 3) rfl .nil) ?_
      refine swl_nil ?_
      refine then_n ?_
      refine swp_seq ?_
      refine swp_region ?_
      refine s_pu (pu_move rfl) ?_
      refine s_pu (pu_assign rfl) ?_
      refine swl_sub _ (.cons (t := 2) rfl .nil) ?_
      refine swl_nil ?_
      refine then_n ?_
      refine swp_ret ?_
      have hE : sE d.falls = 0 := sE_n hfn
      rw [key, hE]
      refine done_retE [RDA p ({ (fa1 d) with safe := d.seen, pend := [] } : Dk)] (.tmp rfl .nil) ⟨rfl, rfl⟩ ?_
      refine Ent.trans (own_nil_ent (e := 95) (n := 3)) ?_
      exact Ent.trans (Split.ent' (K := [blk p 64 (rdC d.quota fv sv (.slice A1 d.seen.length c1) (.slice none 0 0) (if 0 < d.falls then d.falls - 1 else d.falls) d.off), own 99 2 fv d.files.length (d.files.flatMap rF1), own 97 2 sv d.seen.length (d.seen.flatMap rN1), own 97 2 (.slice A1 d.seen.length c1) d.seen.length (d.seen.flatMap rN1), own 95 3 (.slice none 0 0) 0 []]) (by repeat (first | exact Split.nil | (apply Split.cons; (repeat (first | with_reducible exact Take.here | apply Take.there)))))) (rd_close (d := { (fa1 d) with safe := d.seen, pend := [] }) (x := ⟨fv, sv, .slice A1 d.seen.length c1, .slice none 0 0⟩))
    · skip   -- 11 F
      refine swp_skip ?_
      refine then_n ?_
      refine swp_seq ?_
      refine swp_region ?_
      refine s_pu (pu_move rfl) ?_
      refine s_pu (pu_assign rfl) ?_
      refine swl_sub _ (.cons (t := 2) rfl .nil) ?_
      refine swl_nil ?_
      refine then_n ?_
      refine swp_ret ?_
      have hf1 : d.falls = 1 := sE_t (of_decide_eq_false h11)
      have key : syncNamesD d = (fa0 d, 8) := by unfold syncNamesD; rw [if_neg (by rw [h7]; decide)]; exact atStep_1 hf1 _
      rw [key, sE_1 hf1, (st_1 (off := d.off) hf1).1, (st_1 hf1).2]
      exact done_retE [RDA p (fa0 d)] (.tmp rfl .nil) ⟨rfl, rfl⟩ ((Split.ent' (K := [blk p 64 (rdC d.quota fv sv av wv 0 true), own 99 2 fv d.files.length (d.files.flatMap rF1), own 97 2 sv d.seen.length (d.seen.flatMap rN1), own 97 2 av d.safe.length (d.safe.flatMap rN1), own 95 3 wv d.pend.length (d.pend.flatMap rC1)]) (by repeat (first | exact Split.nil | (apply Split.cons; (repeat (first | with_reducible exact Take.here | apply Take.there)))))).trans (rd_close (d := fa0 d) (x := ⟨fv, sv, av, wv⟩)))
set_option maxHeartbeats 4000000 in
theorem rremove_spec (p : Nat) (d : Dk) (hd : d.Ok) (hw : Few d) (s : ByteArray) : Spec Try.prog 50 [pv p, .string s] [RDA p d] (fun r L => r = .int .i64 (removeD d s).2 ∧ L = [RDA p (removeD d s).1]) := by
  refine RDA.open' fun ⟨fv, sv, av, wv⟩ => ?_
  have hsl := hd.seenLe
  have hpp := hw.2
  refine Spec.of 25 Try.func50 rfl rfl rfl ?_
  refine swp_seq ?_
  refine swp_region ?_
  refine s_pu (pu_assign rfl) ?_
  refine swl_sub _ (.cons (t := 0) rfl (.cons (t := 1) rfl .nil)) ?_
  refine swl_nil ?_
  refine then_n ?_
  refine swp_seq ?_
  refine swp_region ?_
  refine s_pu (pu_move rfl) ?_
  refine s_pu (pu_move rfl) ?_
  refine s_ef (ef_fn (rfile_spec p d hd ⟨fv, sv, av, wv⟩ s) rfl rfl (by repeat (first | exact Split.nil | (apply Split.cons; (repeat (first | with_reducible exact Take.here | apply Take.there)))))) ?_
  rintro v10 L1 ⟨⟨k, e, rfl, hR⟩, rfl⟩
  refine swl_app ?_
  refine s_pu (pu_move rfl) ?_
  first | refine s_pu (pu_extractL rfl) ?_ | refine s_pu (pu_extract rfl rfl) ?_
  first | refine s_pu (pu_extractL rfl) ?_ | refine s_pu (pu_extract rfl rfl) ?_
  refine s_pu (pu_assign rfl) ?_
  refine s_pu (pu_assign rfl) ?_
  refine swl_sub _ (.cons (t := 0) rfl (.cons (t := 1) rfl (.cons (t := 6) rfl .nil))) ?_
  refine swl_nil ?_
  refine then_n ?_
  refine swp_seq ?_
  refine swp_seq ?_
  refine swp_region ?_
  refine s_pu (pu_move rfl) ?_
  refine s_pu (pu_neq rfl rfl) ?_
  refine swl_sub _ (.cons (t := 0) rfl (.cons (t := 1) rfl (.cons (t := 6) rfl (.cons (t := 14) rfl .nil)))) ?_
  refine swl_nil ?_
  refine then_n ?_
  refine swp_cond (b := _) rfl (fun h14 => ?_) (fun h14 => ?_)
  · skip   -- 14 T
    refine swp_seq ?_
    refine swp_region ?_
    refine s_pu (pu_move rfl) ?_
    refine s_pu (pu_assign rfl) ?_
    refine swl_sub _ (.cons (t := 4) rfl .nil) ?_
    refine swl_nil ?_
    refine then_n ?_
    refine swp_ret ?_
    refine then_r ?_
    unfold removeD
    rw [(hR.err (by simpa using h14)).2]
    exact done_retE [RDA p d] (.tmp rfl .nil) ⟨rfl, rfl⟩ ((Split.ent' (K := [blk p 64 (rdC d.quota fv sv av wv d.falls d.off), own 99 2 fv d.files.length (d.files.flatMap rF1), own 97 2 sv d.seen.length (d.seen.flatMap rN1), own 97 2 av d.safe.length (d.safe.flatMap rN1), own 95 3 wv d.pend.length (d.pend.flatMap rC1)]) (by repeat (first | exact Split.nil | (apply Split.cons; (repeat (first | with_reducible exact Take.here | apply Take.there)))))).trans (rd_close (x := ⟨fv, sv, av, wv⟩)))
  · skip   -- 14 F
    obtain ⟨j, rfl, hf, _, hon⟩ := hR.ok (by simpa using h14)
    refine swp_skip ?_
    refine then_n ?_
    refine swp_seq ?_
    refine swp_region ?_
    refine s_pu (pu_move rfl) ?_
    refine s_ef (ef_fn (rstep' p d.quota fv sv av wv d.falls d.off hd.falls) rfl rfl (by repeat (first | exact Split.nil | (apply Split.cons; (repeat (first | with_reducible exact Take.here | apply Take.there)))))) ?_
    rintro v17 L1 ⟨rfl, rfl⟩
    refine swl_app ?_
    refine s_pu (pu_assign rfl) ?_
    refine swl_sub _ (.cons (t := 0) rfl (.cons (t := 1) rfl (.cons (t := 6) rfl .nil))) ?_
    refine swl_nil ?_
    refine then_n ?_
    refine swp_seq ?_
    refine swp_seq ?_
    refine swp_region ?_
    refine s_pu (pu_move rfl) ?_
    refine s_pu (pu_eql rfl rfl) ?_
    refine swl_sub _ (.cons (t := 0) rfl (.cons (t := 1) rfl (.cons (t := 6) rfl (.cons (t := 19) rfl .nil)))) ?_
    refine swl_nil ?_
    refine then_n ?_
    refine swp_cond (b := _) rfl (fun h19 => ?_) (fun h19 => ?_)
    · skip   -- 19 T
      have hfn : d.falls ≠ 1 := sE_f (of_decide_eq_true h19)
      rw [(st_n (off := d.off) hfn).1, (st_n hfn).2]
      have key : removeD d s = ((fa1 d).chg ⟨s, nos, 0⟩, 0) := by unfold removeD; rw [hon]; exact atStep_n hfn _
      refine swp_region ?_
      refine s_pu (pu_move rfl) ?_
      refine s_pu (pu_move rfl) ?_
      refine s_pu (pu_bld (qs := [(0, _)]) rfl) ?_
      refine s_ef (ef_fn (rchange_spec p d.quota fv sv av wv (if 0 < d.falls then d.falls - 1 else d.falls) d.off d.seen d.pend (by omega) (by omega) ⟨s, nos, 0⟩) rfl rfl (by repeat (first | exact Split.nil | (apply Split.cons; (repeat (first | with_reducible exact Take.here | apply Take.there)))))) ?_
      rintro v23 L1 ⟨sv', wv', rfl⟩
      refine swl_app ?_
      refine swl_sub _ (.cons (t := 6) rfl .nil) ?_
      refine swl_nil ?_
      refine then_n ?_
      refine swp_seq ?_
      refine swp_region ?_
      refine s_pu (pu_move rfl) ?_
      refine s_pu (pu_assign rfl) ?_
      refine swl_sub _ (.cons (t := 4) rfl .nil) ?_
      refine swl_nil ?_
      refine then_n ?_
      refine swp_ret ?_
      have hE : sE d.falls = 0 := sE_n hfn
      rw [key, hE]
      refine done_retE [RDA p ((fa1 d).chg ⟨s, nos, 0⟩)] (.tmp rfl .nil) ⟨rfl, rfl⟩ ?_
      exact Ent.trans (Split.ent' (K := [blk p 64 (rdC d.quota fv sv' av wv' (if 0 < d.falls then d.falls - 1 else d.falls) d.off), own 99 2 fv d.files.length (d.files.flatMap rF1), own 97 2 sv' (chgN d.seen ⟨s, nos, 0⟩).length ((chgN d.seen ⟨s, nos, 0⟩).flatMap rN1), own 97 2 av d.safe.length (d.safe.flatMap rN1), own 95 3 wv' (d.pend ++ [(⟨s, nos, 0⟩ : Cg)]).length ((d.pend ++ [(⟨s, nos, 0⟩ : Cg)]).flatMap rC1)]) (by repeat (first | exact Split.nil | (apply Split.cons; (repeat (first | with_reducible exact Take.here | apply Take.there)))))) (rd_close (d := (fa1 d).chg ⟨s, nos, 0⟩) (x := ⟨fv, sv', av, wv'⟩))
    · skip   -- 19 F
      refine swp_skip ?_
      refine then_n ?_
      refine swp_seq ?_
      refine swp_region ?_
      refine s_pu (pu_move rfl) ?_
      refine s_pu (pu_assign rfl) ?_
      refine swl_sub _ (.cons (t := 4) rfl .nil) ?_
      refine swl_nil ?_
      refine then_n ?_
      refine swp_ret ?_
      have hf1 : d.falls = 1 := sE_t (of_decide_eq_false h19)
      have key : removeD d s = (fa0 d, 8) := by unfold removeD; rw [hon]; exact atStep_1 hf1 _
      rw [key, sE_1 hf1, (st_1 (off := d.off) hf1).1, (st_1 hf1).2]
      exact done_retE [RDA p (fa0 d)] (.tmp rfl .nil) ⟨rfl, rfl⟩ ((Split.ent' (K := [blk p 64 (rdC d.quota fv sv av wv 0 true), own 99 2 fv d.files.length (d.files.flatMap rF1), own 97 2 sv d.seen.length (d.seen.flatMap rN1), own 97 2 av d.safe.length (d.safe.flatMap rN1), own 95 3 wv d.pend.length (d.pend.flatMap rC1)]) (by repeat (first | exact Split.nil | (apply Split.cons; (repeat (first | with_reducible exact Take.here | apply Take.there)))))).trans (rd_close (d := fa0 d) (x := ⟨fv, sv, av, wv⟩)))
end SX
namespace SX
open Go Go.Proofs
set_option maxHeartbeats 4000000 in
theorem rrename_spec (p : Nat) (d : Dk) (hd : d.Ok) (hw : Few d) (s t : ByteArray) : Spec Try.prog 49 [pv p, .string s, .string t] [RDA p d] (fun r L => r = .int .i64 (renameD d s t).2 ∧ L = [RDA p (renameD d s t).1]) := by
  refine RDA.open' fun ⟨fv, sv, av, wv⟩ => ?_
  have hsl := hd.seenLe
  have hpp := hw.2
  refine Spec.of 37 Try.func49 rfl rfl rfl ?_
  refine swp_seq ?_
  refine swp_region ?_
  refine s_pu (pu_assign rfl) ?_
  refine swl_sub _ (.cons (t := 0) rfl (.cons (t := 1) rfl (.cons (t := 2) rfl .nil))) ?_
  refine swl_nil ?_
  refine then_n ?_
  refine swp_seq ?_
  refine swp_region ?_
  refine s_pu (pu_move rfl) ?_
  refine s_pu (pu_move rfl) ?_
  refine s_ef (ef_fn (rfile_spec p d hd ⟨fv, sv, av, wv⟩ s) rfl rfl (by repeat (first | exact Split.nil | (apply Split.cons; (repeat (first | with_reducible exact Take.here | apply Take.there)))))) ?_
  rintro v12 L1 ⟨⟨k, e, rfl, hR⟩, rfl⟩
  refine swl_app ?_
  refine s_pu (pu_move rfl) ?_
  first | refine s_pu (pu_extractL rfl) ?_ | refine s_pu (pu_extract rfl rfl) ?_
  first | refine s_pu (pu_extractL rfl) ?_ | refine s_pu (pu_extract rfl rfl) ?_
  refine s_pu (pu_assign rfl) ?_
  refine s_pu (pu_assign rfl) ?_
  refine swl_sub _ (.cons (t := 0) rfl (.cons (t := 1) rfl (.cons (t := 2) rfl (.cons (t := 7) rfl (.cons (t := 8) rfl .nil))))) ?_
  refine swl_nil ?_
  refine then_n ?_
  refine swp_seq ?_
  refine swp_seq ?_
  refine swp_region ?_
  refine s_pu (pu_move rfl) ?_
  refine s_pu (pu_neq rfl rfl) ?_
  refine swl_sub _ (.cons (t := 0) rfl (.cons (t := 1) rfl (.cons (t := 2) rfl (.cons (t := 7) rfl (.cons (t := 8) rfl (.cons (t := 16) rfl .nil)))))) ?_
  refine swl_nil ?_
  refine then_n ?_
  refine swp_cond (b := _) rfl (fun h16 => ?_) (fun h16 => ?_)
  · skip   -- 16 T
    refine swp_seq ?_
    refine swp_region ?_
    refine s_pu (pu_move rfl) ?_
    refine s_pu (pu_assign rfl) ?_
    refine swl_sub _ (.cons (t := 6) rfl .nil) ?_
    refine swl_nil ?_
    refine then_n ?_
    refine swp_ret ?_
    refine then_r ?_
    unfold renameD
    rw [(hR.err (by simpa using h16)).2]
    exact done_retE [RDA p d] (.tmp rfl .nil) ⟨rfl, rfl⟩ ((Split.ent' (K := [blk p 64 (rdC d.quota fv sv av wv d.falls d.off), own 99 2 fv d.files.length (d.files.flatMap rF1), own 97 2 sv d.seen.length (d.seen.flatMap rN1), own 97 2 av d.safe.length (d.safe.flatMap rN1), own 95 3 wv d.pend.length (d.pend.flatMap rC1)]) (by repeat (first | exact Split.nil | (apply Split.cons; (repeat (first | with_reducible exact Take.here | apply Take.there)))))).trans (rd_close (x := ⟨fv, sv, av, wv⟩)))
  · skip   -- 16 F
    obtain ⟨j, rfl, hf, _, hon⟩ := hR.ok (by simpa using h16)
    refine swp_skip ?_
    refine then_n ?_
    refine swp_seq ?_
    refine swp_seq ?_
    refine swp_region ?_
    refine s_pu (pu_move rfl) ?_
    refine s_ef (ef_fn (rgood_spec t) rfl rfl (by repeat (first | exact Split.nil | (apply Split.cons; (repeat (first | with_reducible exact Take.here | apply Take.there)))))) ?_
    rintro v19 L1 ⟨rfl, rfl⟩
    refine swl_app ?_
    refine s_pu (pu_not rfl) ?_
    refine swl_sub _ (.cons (t := 0) rfl (.cons (t := 1) rfl (.cons (t := 2) rfl (.cons (t := 7) rfl (.cons (t := 20) rfl .nil))))) ?_
    refine swl_nil ?_
    refine then_n ?_
    refine swp_cond (b := _) rfl (fun h20 => ?_) (fun h20 => ?_)
    · skip   -- 20 T
      refine swp_seq ?_
      refine swp_region ?_
      refine s_pu (pu_assign rfl) ?_
      refine swl_sub _ (.cons (t := 6) rfl .nil) ?_
      refine swl_nil ?_
      refine then_n ?_
      refine swp_ret ?_
      refine then_r ?_
      have h20' : goodN t = false := by simpa using h20
      have key : renameD d s t = (d, 1) := by unfold renameD; rw [hon, if_pos h20']
      rw [key]
      exact done_retE [RDA p d] (.tmp rfl .nil) ⟨rfl, rfl⟩ ((Split.ent' (K := [blk p 64 (rdC d.quota fv sv av wv d.falls d.off), own 99 2 fv d.files.length (d.files.flatMap rF1), own 97 2 sv d.seen.length (d.seen.flatMap rN1), own 97 2 av d.safe.length (d.safe.flatMap rN1), own 95 3 wv d.pend.length (d.pend.flatMap rC1)]) (by repeat (first | exact Split.nil | (apply Split.cons; (repeat (first | with_reducible exact Take.here | apply Take.there)))))).trans (rd_close (x := ⟨fv, sv, av, wv⟩)))
    · skip   -- 20 F
      have h20' : goodN t = true := by simpa using h20
      refine swp_skip ?_
      refine then_n ?_
      refine swp_seq ?_
      refine swp_region ?_
      refine s_pu (pu_move rfl) ?_
      refine s_ef (ef_fn (rstep' p d.quota fv sv av wv d.falls d.off hd.falls) rfl rfl (by repeat (first | exact Split.nil | (apply Split.cons; (repeat (first | with_reducible exact Take.here | apply Take.there)))))) ?_
      rintro v22 L1 ⟨rfl, rfl⟩
      refine swl_app ?_
      refine s_pu (pu_assign rfl) ?_
      refine swl_sub _ (.cons (t := 0) rfl (.cons (t := 1) rfl (.cons (t := 2) rfl (.cons (t := 7) rfl (.cons (t := 8) rfl .nil))))) ?_
      refine swl_nil ?_
      refine then_n ?_
      refine swp_cut (fun env L => Sub env [(8, .int .i64 (renameD d s t).2)] ∧ Ent L [RDA p (renameD d s t).1]) ?_ ?_
      · skip
        refine swp_seq ?_
        refine swp_region ?_
        refine s_pu (pu_move rfl) ?_
        refine s_pu (pu_eql rfl rfl) ?_
        refine s_pu (pu_move rfl) ?_
        refine s_split 25 rfl (fun h25 => ?_) (fun h25 => ?_)
        · skip   -- 25 T
          have hfn : d.falls ≠ 1 := sE_f (of_decide_eq_true h25)
          rw [(st_n (off := d.off) hfn).1, (st_n hfn).2]
          have key : renameD d s t = ((if strEq s t = true then fa1 d else (fa1 d).chg ⟨s, t, j⟩), 0) := by unfold renameD; rw [hon, if_neg (by rw [h20']; decide)]; exact atStep_n hfn _
          have hE : sE d.falls = 0 := sE_n hfn
          refine s_on rfl rfl ?_
          refine s_pu (pu_move rfl) ?_
          refine s_on rfl rfl ?_
          refine s_pu (pu_move rfl) ?_
          refine s_on rfl rfl ?_
          refine s_pu (pu_str_neq rfl rfl) ?_
          first | refine s_pu (pu_pick_t rfl rfl) ?_ | refine s_pu (pu_pick_f rfl rfl) ?_
          refine swl_sub _ (.cons (t := 0) rfl (.cons (t := 1) rfl (.cons (t := 2) rfl (.cons (t := 7) rfl (.cons (t := 8) rfl (.cons (t := 29) rfl .nil)))))) ?_
          refine swl_nil ?_
          refine then_n ?_
          refine swp_cond (b := _) rfl (fun h29 => ?_) (fun h29 => ?_)
          · skip   -- 29 T
            refine swp_region ?_
            refine s_pu (pu_move rfl) ?_
            refine s_pu (pu_move rfl) ?_
            refine s_pu (pu_move rfl) ?_
            refine s_pu (pu_move rfl) ?_
            refine s_pu (pu_bld (qs := [(0, _), (1, _), (2, _)]) rfl) ?_
            refine s_ef (ef_fn (rchange_spec p d.quota fv sv av wv (if 0 < d.falls then d.falls - 1 else d.falls) d.off d.seen d.pend (by omega) (by omega) ⟨s, t, j⟩) rfl rfl (by repeat (first | exact Split.nil | (apply Split.cons; (repeat (first | with_reducible exact Take.here | apply Take.there)))))) ?_
            rintro v35 L1 ⟨sv', wv', rfl⟩
            refine swl_app ?_
            refine swl_sub _ (.cons (t := 8) rfl .nil) ?_
            refine swl_nil ?_
            have hst : strEq s t = false := not_t h29
            rw [if_neg (by rw [hst]; decide)] at key
            rw [key, hE]
            refine then_n ⟨⟨rfl, trivial⟩, ?_⟩
            exact Ent.trans (Split.ent' (K := [blk p 64 (rdC d.quota fv sv' av wv' (if 0 < d.falls then d.falls - 1 else d.falls) d.off), own 99 2 fv d.files.length (d.files.flatMap rF1), own 97 2 sv' (chgN d.seen ⟨s, t, j⟩).length ((chgN d.seen ⟨s, t, j⟩).flatMap rN1), own 97 2 av d.safe.length (d.safe.flatMap rN1), own 95 3 wv' (d.pend ++ [(⟨s, t, j⟩ : Cg)]).length ((d.pend ++ [(⟨s, t, j⟩ : Cg)]).flatMap rC1)]) (by repeat (first | exact Split.nil | (apply Split.cons; (repeat (first | with_reducible exact Take.here | apply Take.there)))))) (rd_close (d := (fa1 d).chg ⟨s, t, j⟩) (x := ⟨fv, sv', av, wv'⟩))
          · skip   -- 29 F
            refine swp_skip ?_
            have hst : strEq s t = true := not_f h29
            rw [if_pos hst] at key
            rw [key, hE]
            refine then_n ⟨⟨rfl, trivial⟩, ?_⟩
            exact Ent.trans (Split.ent' (K := [blk p 64 (rdC d.quota fv sv av wv (if 0 < d.falls then d.falls - 1 else d.falls) d.off), own 99 2 fv d.files.length (d.files.flatMap rF1), own 97 2 sv d.seen.length (d.seen.flatMap rN1), own 97 2 av d.safe.length (d.safe.flatMap rN1), own 95 3 wv d.pend.length (d.pend.flatMap rC1)]) (by repeat (first | exact Split.nil | (apply Split.cons; (repeat (first | with_reducible exact Take.here | apply Take.there)))))) (rd_close (d := fa1 d) (x := ⟨fv, sv, av, wv⟩))
        · skip   -- 25 F
          refine s_off rfl rfl rfl ?_
          refine s_off rfl rfl rfl ?_
          refine s_off rfl rfl rfl ?_
          first | refine s_pu (pu_pick_t rfl rfl) ?_ | refine s_pu (pu_pick_f rfl rfl) ?_
          refine swl_sub _ (.cons (t := 0) rfl (.cons (t := 1) rfl (.cons (t := 2) rfl (.cons (t := 7) rfl (.cons (t := 8) rfl (.cons (t := 29) rfl .nil)))))) ?_
          refine swl_nil ?_
          refine then_n ?_
          refine swp_cond (b := _) rfl (fun h29 => by cases h29) (fun h29 => ?_)
          refine swp_skip ?_
          have hf1 : d.falls = 1 := sE_t (of_decide_eq_false h25)
          have key : renameD d s t = (fa0 d, 8) := by unfold renameD; rw [hon, if_neg (by rw [h20']; decide)]; exact atStep_1 hf1 _
          rw [key, sE_1 hf1, (st_1 (off := d.off) hf1).1, (st_1 hf1).2]
          exact then_n ⟨⟨rfl, trivial⟩, ((Split.ent' (K := [blk p 64 (rdC d.quota fv sv av wv 0 true), own 99 2 fv d.files.length (d.files.flatMap rF1), own 97 2 sv d.seen.length (d.seen.flatMap rN1), own 97 2 av d.safe.length (d.safe.flatMap rN1), own 95 3 wv d.pend.length (d.pend.flatMap rC1)]) (by repeat (first | exact Split.nil | (apply Split.cons; (repeat (first | with_reducible exact Take.here | apply Take.there)))))).trans (rd_close (d := fa0 d) (x := ⟨fv, sv, av, wv⟩)))⟩
      rintro env L ⟨hsub, hE⟩
      refine swp_sub _ hsub ?_
      refine swp_ent hE ?_
      clear hsub hE env L
      refine swp_seq ?_
      refine swp_region ?_
      refine s_pu (pu_move rfl) ?_
      refine s_pu (pu_assign rfl) ?_
      refine swl_sub _ (.cons (t := 6) rfl .nil) ?_
      refine swl_nil ?_
      refine then_n ?_
      refine swp_ret ?_
      exact done_ret [RDA p (renameD d s t).1] (.tmp rfl .nil) ⟨rfl, rfl⟩ (by repeat (first | exact Split.nil | (apply Split.cons; (repeat (first | with_reducible exact Take.here | apply Take.there)))))
theorem sum_take_succ {l : List Nm} {f : Nm → Nat} {i : Nat} {y : Nm} (h : l[i]? = some y) : ((l.take (i + 1)).map f).sum = ((l.take i).map f).sum + f y := by
  rw [List.take_add_one, h, List.map_append, List.sum_append]; simp
set_option maxHeartbeats 4000000 in
theorem rused_spec (p : Nat) (d : Dk) (hd : d.Ok) (hw : Few d) (fv sv av wv : Value) : Spec Try.prog 58 [pv p] [blk p 64 (rdC d.quota fv sv av wv d.falls d.off), own 99 2 fv d.files.length (d.files.flatMap rF1), own 97 2 sv d.seen.length (d.seen.flatMap rN1)] (fun r L => r = .int .i64 (d.used : Nat) ∧ L = [blk p 64 (rdC d.quota fv sv av wv d.falls d.off), own 99 2 fv d.files.length (d.files.flatMap rF1), own 97 2 sv d.seen.length (d.seen.flatMap rN1)]) := by
  have hsl := hd.seenLe
  have hff := hw.1
  refine Spec.pre (pre := [own 97 2 sv d.seen.length (d.seen.flatMap rN1), blk p 64 (rdC d.quota fv sv av wv d.falls d.off), own 99 2 fv d.files.length (d.files.flatMap rF1)]) ?_ (Split.ent' (by repeat (first | exact Split.nil | (apply Split.cons; (repeat (first | with_reducible exact Take.here | apply Take.there))))))
  refine Spec.fact' (fun m h => own_cap2 h) fun ⟨A, c, hv, hlc, hcm, hA, hA2⟩ => ?_
  simp only [maxLen] at hcm
  subst hv
  refine Spec.of 33 Try.func58 rfl rfl rfl ?_
  refine swp_seq ?_
  refine swp_region ?_
  refine s_pu (pu_assign rfl) ?_
  refine swl_sub _ (.cons (t := 0) rfl .nil) ?_
  refine swl_nil ?_
  refine then_n ?_
  refine swp_seq ?_
  refine swp_region ?_
  refine s_pu (pu_assign rfl) ?_
  refine swl_sub _ (.cons (t := 0) rfl (.cons (t := 3) rfl .nil)) ?_
  refine swl_nil ?_
  refine then_n ?_
  refine swp_seq ?_
  refine swp_seq ?_
  refine swp_region ?_
  refine s_pu (pu_assign rfl) ?_
  refine swl_sub _ (.cons (t := 0) rfl (.cons (t := 3) rfl (.cons (t := 4) rfl .nil))) ?_
  refine swl_nil ?_
  refine then_n ?_
  refine swp_block ?_
  refine swp_loop (ι := Nat) (fun i env L => Sub env [(0, pv p), (3, .int .i64 (((d.seen.take i).map fun y => (d.fl y.2).bytes.length).sum : Nat)), (4, .int .i64 (i : Nat))] ∧ Ent L [own 99 2 fv d.files.length (d.files.flatMap rF1), blk p 64 (rdC d.quota fv (.slice A d.seen.length c) av wv d.falls d.off), own 97 2 (.slice A d.seen.length c) d.seen.length (d.seen.flatMap rN1)] ∧ i ≤ d.seen.length) (fun i => d.seen.length - i) 0 ⟨⟨rfl, rfl, rfl, trivial⟩, Split.ent' (by repeat (first | exact Split.nil | (apply Split.cons; (repeat (first | with_reducible exact Take.here | apply Take.there))))), Nat.zero_le _⟩ ?_
  rintro i env L ⟨hsub, hE, hi⟩
  refine swp_sub _ hsub ?_
  refine swp_ent hE ?_
  clear hsub hE env L
  refine swp_seq ?_
  refine swp_seq ?_
  refine swp_region ?_
  refine s_pu (pu_move rfl) ?_
  refine s_pu (pu_move rfl) ?_
  first | refine s_pu (pu_nilCheck rfl) ?_ | refine s_pu (pu_nilCheck_fn rfl) ?_ | refine s_pu (pu_nilCheck_if rfl) ?_
  first | refine s_pu (pu_fieldAddr0 rfl) ?_ | refine s_pu (pu_fieldAddr rfl) ?_
  refine s_rd (rd_load rfl rfl) ?_
  refine s_pu (pu_len rfl) ?_
  refine s_pu (pu_lss rfl rfl) ?_
  refine swl_sub _ (.cons (t := 0) rfl (.cons (t := 3) rfl (.cons (t := 4) rfl (.cons (t := 11) rfl .nil)))) ?_
  refine swl_nil ?_
  refine then_n ?_
  refine swp_cond (b := _) rfl (fun h11 => ?_) (fun h11 => ?_)
  · skip   -- 11 T
    have h11' : i < d.seen.length := by have := of_decide_eq_true h11; omega
    obtain ⟨a, ha⟩ : ∃ a, A = some a := by cases A with | none => have := hA rfl; omega | some a => exact ⟨a, rfl⟩
    obtain ⟨b, rfl⟩ := hA2 a ha
    subst ha
    obtain ⟨y, hy⟩ : ∃ y, d.seen[i]? = some y := ⟨_, List.getElem?_eq_getElem h11'⟩
    have hcell := flat_at (f := rN1) (n := 2) (fun _ => rfl) hy 1 _ rfl
    have hj : y.2 < d.files.length := (hd.seenOk.good y (List.mem_of_getElem? hy)).2
    have hcell2 := flat_at (f := rF1) (n := 2) (fun _ => rfl) (fl_at hj) 0 _ rfl
    have hsum := sum_take_succ (f := fun y : Nm => (d.fl y.2).bytes.length) hy
    have hul : ((d.seen.take (i + 1)).map fun y : Nm => (d.fl y.2).bytes.length).sum ≤ 64 * mostF := by
      have h1 := sum_le (fun y : Nm => (d.fl y.2).bytes.length) mostF (d.seen.take (i + 1)) fun y _ => (Dk.fl_ok hd y.2).1
      have h2 : (d.seen.take (i + 1)).length ≤ 64 := by rw [List.length_take]; omega
      exact Nat.le_trans h1 (Nat.mul_le_mul_right _ h2)
    simp only [mostF] at hul
    refine swp_fact (fun m h => own_pos h (by omega)) fun ⟨b2, c2, hfv, hlc2, hcm2⟩ => ?_
    subst hfv
    refine swp_skip ?_
    refine then_n ?_
    refine swp_seq ?_
    refine swp_block ?_
    refine swp_draw [4, 8, 12, 15] _ [] (by simp only [List.append_nil]; exact Ent.refl _) (by kernel_rfl) ?_
    refine d_pu 0 rfl (pu_move rfl) (by kernel_rfl) (by kernel_rfl) (by kernel_rfl) ?_
    refine d_pu 1 rfl (pu_move rfl) (by kernel_rfl) (by kernel_rfl) (by kernel_rfl) ?_
    first | refine d_pu 2 rfl (pu_nilCheck rfl) (by kernel_rfl) (by kernel_rfl) (by kernel_rfl) ?_ | refine d_pu 2 rfl (pu_nilCheck_fn rfl) (by kernel_rfl) (by kernel_rfl) (by kernel_rfl) ?_ | refine d_pu 2 rfl (pu_nilCheck_if rfl) (by kernel_rfl) (by kernel_rfl) (by kernel_rfl) ?_
    first | refine d_pu 3 rfl (pu_fieldAddr0 rfl) (by kernel_rfl) (by kernel_rfl) (by kernel_rfl) ?_ | refine d_pu 3 rfl (pu_fieldAddr rfl) (by kernel_rfl) (by kernel_rfl) (by kernel_rfl) ?_
    refine d_rd 4 rfl (rd_load rfl rfl) rfl (by kernel_rfl) (by kernel_rfl) (by kernel_rfl) ?_
    refine d_pu 5 rfl (pu_move rfl) (by kernel_rfl) (by kernel_rfl) (by kernel_rfl) ?_
    first | refine d_pu 6 rfl (pu_nilCheck rfl) (by kernel_rfl) (by kernel_rfl) (by kernel_rfl) ?_ | refine d_pu 6 rfl (pu_nilCheck_fn rfl) (by kernel_rfl) (by kernel_rfl) (by kernel_rfl) ?_ | refine d_pu 6 rfl (pu_nilCheck_if rfl) (by kernel_rfl) (by kernel_rfl) (by kernel_rfl) ?_
    first | refine d_pu 7 rfl (pu_fieldAddr0 rfl) (by kernel_rfl) (by kernel_rfl) (by kernel_rfl) ?_ | refine d_pu 7 rfl (pu_fieldAddr rfl) (by kernel_rfl) (by kernel_rfl) (by kernel_rfl) ?_
    refine d_rd 8 rfl (rd_load rfl rfl) rfl (by kernel_rfl) (by kernel_rfl) (by kernel_rfl) ?_
    refine d_pu 9 rfl (pu_move rfl) (by kernel_rfl) (by kernel_rfl) (by kernel_rfl) ?_
    refine d_pu 10 rfl (pu_indexAddr (0 + i * 2) rfl rfl (by omega) (by omega) (by rw [Int.toNat_natCast])) (by kernel_rfl) (by kernel_rfl) (by kernel_rfl) ?_
    first | refine d_pu 11 rfl (pu_fieldAddr0 rfl) (by kernel_rfl) (by kernel_rfl) (by kernel_rfl) ?_ | refine d_pu 11 rfl (pu_fieldAddr rfl) (by kernel_rfl) (by kernel_rfl) (by kernel_rfl) ?_
    refine d_rd 12 rfl (rd_own rfl (by repeat (first | with_reducible exact Take.here | apply Take.there)) (by rw [Nat.zero_add]; exact hcell)) rfl (by kernel_rfl) (by kernel_rfl) (by kernel_rfl) ?_
    refine d_pu 13 rfl (pu_indexAddr (0 + y.2 * 2) rfl rfl (by omega) (by omega) (by rw [Int.toNat_natCast])) (by kernel_rfl) (by kernel_rfl) (by kernel_rfl) ?_
    first | refine d_pu 14 rfl (pu_fieldAddr0 rfl) (by kernel_rfl) (by kernel_rfl) (by kernel_rfl) ?_ | refine d_pu 14 rfl (pu_fieldAddr rfl) (by kernel_rfl) (by kernel_rfl) (by kernel_rfl) ?_
    refine d_rd 15 rfl (rd_own rfl (by repeat (first | with_reducible exact Take.here | apply Take.there)) (by rw [Nat.zero_add]; exact hcell2)) rfl (by kernel_rfl) (by kernel_rfl) (by kernel_rfl) ?_
    refine d_pu 16 rfl (pu_strlen rfl) (by kernel_rfl) (by kernel_rfl) (by kernel_rfl) ?_
    refine d_pu 17 rfl (pu_add_as ((((d.seen.take (i + 1)).map fun y => (d.fl y.2).bytes.length).sum : Nat) : Int) rfl rfl (by rw [hsum, tsize]; omega) (by omega) (by omega)) (by kernel_rfl) (by kernel_rfl) (by kernel_rfl) ?_
    refine d_pu 18 rfl (pu_assign rfl) (by kernel_rfl) (by kernel_rfl) (by kernel_rfl) ?_
    refine d_sub _ (.cons (t := 0) rfl (.cons (t := 3) rfl (.cons (t := 4) rfl .nil))) ?_
    first | refine d_nilt (by kernel_rfl) ?_ | refine d_nilf (by kernel_rfl) ?_
    refine block_n ?_
    refine then_n ?_
    refine swp_region ?_
    refine s_pu (pu_move rfl) ?_
    refine s_pu (pu_add_as ((i + 1 : Nat) : Int) rfl rfl (by omega) (by omega) (by omega)) ?_
    refine s_pu (pu_assign rfl) ?_
    refine swl_sub _ (.cons (t := 0) rfl (.cons (t := 3) rfl (.cons (t := 4) rfl .nil))) ?_
    refine swl_nil ?_
    exact then_n ⟨i + 1, ⟨⟨rfl, rfl, rfl, trivial⟩, Split.ent' (by repeat (first | exact Split.nil | (apply Split.cons; (repeat (first | with_reducible exact Take.here | apply Take.there))))), h11'⟩, by omega⟩
  · skip   -- 11 F
    have h11' : i = d.seen.length := by have := of_decide_eq_false h11; omega
    rw [h11', List.take_length]
    refine swp_exit ?_
    refine then_x ?_
    refine then_x ?_
    refine block_hit rfl ?_
    refine then_n ?_
    refine swp_seq ?_
    refine swp_region ?_
    refine s_pu (pu_move rfl) ?_
    refine s_pu (pu_assign rfl) ?_
    refine swl_sub _ (.cons (t := 2) rfl .nil) ?_
    refine swl_nil ?_
    refine then_n ?_
    refine swp_ret ?_
    exact done_ret [blk p 64 (rdC d.quota fv (.slice A d.seen.length c) av wv d.falls d.off), own 99 2 fv d.files.length (d.files.flatMap rF1), own 97 2 (.slice A d.seen.length c) d.seen.length (d.seen.flatMap rN1)] (.tmp rfl .nil) ⟨rfl, rfl⟩ (by repeat (first | exact Split.nil | (apply Split.cons; (repeat (first | with_reducible exact Take.here | apply Take.there)))))
end SX
