/- A part of the proof: walks of the program's functions, and the rules by which they go. -/
import Derived.Test.YtllgakmdhjgmoaaGreatB8daedde2
import Derived.Test.YtllgakmdhjgmoaaGreatB33d03443
import Derived.Test.YtllgakmdhjgmoaaGreatB87cbf4bb
namespace SX
open Go Go.Proofs
instance : MClone Tryz.prog 118 := ⟨_, Tryz.func118, by kernel_rfl, by kernel_rfl, by kernel_rfl, by kernel_rfl⟩
/-- maps.Clone -/
theorem mclone_spec (b : Nat) (es : Ents ByteArray) (cl : Nat) : Spec Tryz.prog 80 [.map (some b)] [mpe b skv es cl] (fun r L => ∃ b', r = .map (some b') ∧ L = [mpe b' skv es cl, mpe b skv es cl]) := by
 refine Spec.of 9 Tryz.func80 rfl rfl rfl ?_
 refine swp_seq ?_
 refine swp_region ?_
 refine s_pu (pu_assign rfl) ?_
 refine swl_sub _ (sc0 0 rfl .nil) ?_
 refine swl_nil ?_
 refine then_n ?_
 refine swp_seq ?_
 refine swp_seq ?_
 refine swp_region ?_
 refine s_pu (pu_move rfl) ?_
 refine s_pu (pu_map_eq_nil rfl rfl) ?_
 refine swl_sub _ (sc0 0 rfl (sc0 4 rfl .nil)) ?_
 refine swl_nil ?_
 refine then_n ?_
 refine swp_cond (b := _) rfl (fun h4 => by cases h4) (fun h4 => ?_)
 refine swp_skip ?_
 refine then_n ?_
 refine swp_seq ?_
 refine swp_region ?_
 refine s_pu (pu_move rfl) ?_
 refine s_pu (pu_iface rfl) ?_
 refine s_ef (ef_mclone (κ := ByteArray) rfl rfl) ?_
 rintro b7
 skip
 refine s_pu (pu_typeAssert_map rfl) ?_
 refine s_pu (pu_assign rfl) ?_
 refine swl_sub _ (sc0 2 rfl .nil) ?_
 refine swl_nil ?_
 refine then_n ?_
 refine swp_ret ?_
 exact done_ret [mpe b7 skv es cl, mpe b skv es cl] (.tmp rfl .nil) ⟨b7, rfl, rfl⟩ sp0
/-- SyncNames' step -/
theorem syncn1_spec (p d0 : Nat) (q : Int) (n sb fb : Nat) (w : Value) (fa : Int) (off : Bool) (es : Ents ByteArray) (cl : Nat) :
  Spec Tryz.prog 79 [pv d0] [blk p 81 (fsC q n sb fb w fa off), blk d0 27 [pv p], mpe sb skv es cl]
   (fun _ L => ∃ fb', L = [blk p 81 (fsC q n sb fb' (.slice none 0 0) fa off), mpe sb skv es cl, mpe fb' skv es cl]) := by
 refine Spec.of 12 Tryz.func79 rfl rfl rfl ?_
 refine swp_seq ?_
 refine swp_draw [0, 1, 4] ([blk p 81 (fsC q n sb fb w fa off), blk d0 27 [pv p]]) ([mpe sb skv es cl]) (Split.ent sp0) kr0 ?_
 refine d_rd 0 rfl (rd_load rfl rfl) rfl kr0 kr0 kr0 ?_
 refine d_rd 1 rfl (rd_load rfl rfl) rfl kr0 kr0 kr0 ?_
 refine d_pu 2 rfl (pu_nilCheck rfl) kr0 kr0 kr0 ?_
 refine d_pu 3 rfl (pu_fieldAddr0 rfl) kr0 kr0 kr0 ?_
 refine d_rd 4 rfl (rd_load rfl rfl) rfl kr0 kr0 kr0 ?_
 refine d_eft 5 rfl kr0 (ef_fn (mclone_spec sb es cl) rfl rfl sp0) ?_
 rintro v6 L1 ⟨b', rfl, rfl⟩
 refine ⟨_, ent_appC (Split.ent sp0), ?_⟩
 refine d_pu 6 rfl (pu_nilCheck rfl) kr0 kr0 kr0 ?_
 refine d_pu 7 rfl (pu_fieldAddr0 rfl) kr0 kr0 kr0 ?_
 refine d_fin0t 8 rfl kr0 kr0 (ef_store rfl rfl rfl) ?_
 refine d_sub _ (sc0 0 rfl .nil) ?_
 refine d_nilf kr0 ?_
 refine then_n ?_
 refine swp_region ?_
 refine s_rd (rd_load rfl rfl) ?_
 refine s_pu (pu_nilCheck rfl) ?_
 refine s_pu (pu_fieldAddr0 rfl) ?_
 refine s_ef0 (ef_store rfl rfl rfl) ?_
 refine swl_sub _ .nil ?_
 refine swl_nil ?_
 exact done_end [blk p 81 (fsC q n sb b' (.slice none 0 0) fa off), mpe sb skv es cl, mpe b' skv es cl] .nil ⟨b', rfl⟩ sp0
theorem Rep.sync {d : Dk} {x : FX} (h : Rep d x) (fb' : Nat) : Rep { d with safe := d.seen, pend := [] } { x with fb := fb', ef := x.es, cf := x.cs, ps := [], pv := .slice none 0 0 } :=
  ⟨h.seen, h.seen, h.bs, h.bs, h.len, fun k hk => h.fl k (by
    rcases hk with hk | hk | ⟨c, hc, _⟩
    · exact .inl hk
    · exact .inl hk
    · cases hc), rfl, fun i p c hp => by cases hp⟩
set_option maxHeartbeats 4000000 in
theorem syncn_spec (p : Nat) (d : Dk) (hd : d.Ok) : Spec Tryz.prog 38 [pv p] [FSA p d] (fun r L => r = .int .i64 (syncNamesD d).2 ∧ L = [FSA p (syncNamesD d).1]) := by
 refine FSA.open' fun x hx => ?_
 obtain ⟨o, e, hve⟩ := find_ptr x.rs d nos
 have hfs := find_spec' (p := p) hx hve
 have hcs := find_cases hve
 have hno : findN d.seen nos = none := findN_none.2 fun x hx e => by have := hd.names x hx; rw [e, strEq_refl] at this; cases this
 refine Spec.of 16 Tryz.func38 rfl rfl rfl ?_
 refine swp_seq ?_
 refine swp_region ?_
 refine s_ef (ef_box rfl rfl) ?_
 intro b1
 refine s_pu (pu_assign rfl) ?_
 refine swl_sub _ (sc0 1 rfl .nil) ?_
 refine swl_nil ?_
 refine then_n ?_
 refine swp_seq ?_
 refine swp_seq ?_
 refine swp_region ?_
 refine s_rd (rd_load rfl rfl) ?_
 refine s_ef (ef_fn hfs rfl rfl sp0) ?_
 rintro v7 L1 ⟨rfl, rfl⟩
 refine swl_app ?_
 refine s_pu (pu_move rfl) ?_
 refine s_pu (pu_extractL rfl) ?_
 refine s_pu (pu_extractL rfl) ?_
 refine s_pu (pu_assign rfl) ?_
 refine s_pu (pu_assign rfl) ?_
 refine swl_sub _ (sc0 1 rfl (sc0 4 rfl .nil)) ?_
 refine swl_nil ?_
 refine then_n ?_
 refine swp_seq ?_
 refine swp_region ?_
 refine s_pu (pu_move rfl) ?_
 refine s_pu (pu_neq rfl rfl) ?_
 refine swl_sub _ (sc0 1 rfl (sc0 4 rfl (sc0 11 rfl .nil))) ?_
 refine swl_nil ?_
 refine then_n ?_
 refine swp_cond (b := _) rfl (fun h11 => ?_) (fun h11 => ?_)
 ·skip
  refine swp_seq ?_
  refine swp_region ?_
  refine s_pu (pu_move rfl) ?_
  refine s_pu (pu_assign rfl) ?_
  refine swl_sub _ (sc0 2 rfl .nil) ?_
  refine swl_nil ?_
  refine then_n ?_
  refine swp_ret ?_
  refine then_r ?_
  have h11' : e ≠ 6 := by simpa using h11
  have h8 : e = 8 ∧ d.off = true := by
   rcases hcs with h | ⟨h, _⟩ | ⟨_, _, k, h, _⟩
   ·exact h
   ·exact absurd h h11'
   ·rw [hno] at h; cases h
  have key : syncNamesD d = (d, 8) := by unfold syncNamesD; rw [if_pos h8.2]
  rw [key, h8.1]
  exact done_retE [FSA p d] (.tmp rfl .nil) ⟨rfl, rfl⟩ ((Split.ent' (K := [fsH p d x, mpe x.sb skv x.es x.cs, mpe x.fb skv x.ef x.cf, own 127 3 x.pv x.ps.length (x.ps.flatMap encP), recsA x.rs]) sp0).trans (fs_close hx))
 ·skip
  have h11' : e = 6 := by simpa using h11
  have hoff : d.off = false := by
   rcases hcs with ⟨h, _⟩ | ⟨_, h, _⟩ | ⟨h, _⟩
   ·rw [h11'] at h; cases h
   ·exact h
   ·rw [h11'] at h; cases h
  refine swp_skip ?_
  refine then_n ?_
  refine swp_seq ?_
  refine swp_region ?_
  refine s_rd (rd_load rfl rfl) ?_
  refine s_pu (pu_func (vs := []) (us := [_]) rfl rfl) ?_
  refine s_ef (ef_fn (step_spec (f := 79) (ca := [pv b1]) (pre := [blk b1 27 [pv p], mpe x.sb skv x.es x.cs]) p d.quota x.rs.length x.sb x.fb x.pv d.falls d.off hd.falls (fun fa' => syncn1_spec p b1 d.quota x.rs.length x.sb x.fb x.pv fa' d.off x.es x.cs)) rfl rfl sp0) ?_
  rintro v15 L1 hs
  skip
  refine s_pu (pu_assign rfl) ?_
  refine swl_sub _ (sc0 2 rfl .nil) ?_
  refine swl_nil ?_
  refine then_n ?_
  refine swp_ret ?_
  rcases hs with ⟨hf1, rfl, rfl⟩ | ⟨hfn, rfl, fb', rfl⟩
  ·have key : syncNamesD d = (fa0 d, 8) := by unfold syncNamesD; rw [if_neg (by rw [hoff]; decide)]; exact atStep_1 hf1 _
   rw [key]
   refine done_retE [FSA p (fa0 d)] (.tmp rfl .nil) ⟨rfl, rfl⟩ ?_
   simp only [List.cons_append, List.nil_append]
   exact ((Split.ent' (K := [fsH p (fa0 d) x, mpe x.sb skv x.es x.cs, mpe x.fb skv x.ef x.cf, own 127 3 x.pv x.ps.length (x.ps.flatMap encP), recsA x.rs]) sp0).trans (fs_close (d := fa0 d) (hx.fa _ _)))
  ·have key : syncNamesD d = (({ (fa1 d) with safe := d.seen, pend := [] } : Dk), 0) := by unfold syncNamesD; rw [if_neg (by rw [hoff]; decide)]; exact atStep_n hfn _
   rw [key]
   refine done_retE [FSA p ({ (fa1 d) with safe := d.seen, pend := [] } : Dk)] (.tmp rfl .nil) ⟨rfl, rfl⟩ ?_
   simp only [List.cons_append, List.nil_append]
   refine Ent.trans (own_nil_ent (e := 127) (n := 3)) ?_
   refine Ent.trans (Split.ent' (K := [blk p 81 (fsC d.quota x.rs.length x.sb fb' (.slice none 0 0) (if 0 < d.falls then d.falls - 1 else d.falls) d.off), mpe x.sb skv x.es x.cs, mpe fb' skv x.es x.cs, own 127 3 (.slice none 0 0) 0 [], recsA x.rs]) sp0) ?_
   exact fs_close (d := { (fa1 d) with safe := d.seen, pend := [] }) (x := { x with fb := fb', ef := x.es, cf := x.cs, ps := [], pv := .slice none 0 0 }) ((hx.fa (fa1 d).falls d.off).sync fb')
end SX
namespace SX
open Go Go.Proofs
theorem read_err {rs : List Rc} {d : Dk} {s : ByteArray} {v : Value} {e : Int} (h : findV rs d s = (v, e)) (he : e ≠ 0) : readD d s = ([], e) := by
  unfold readD
  rcases find_cases h with ⟨rfl, h1⟩ | ⟨rfl, h1, h2⟩ | ⟨h0, _⟩
  · rw [if_pos h1]
  · rw [if_neg (by rw [h1]; decide), h2]
  · exact absurd h0 he
set_option maxHeartbeats 4000000 in
theorem read_spec (p : Nat) (d : Dk) (hd : d.Ok) (s : ByteArray) : Spec Tryz.prog 34 [pv p, .string s] [FSA p d] (fun r L => r = .tuple #[.string ⟨(readD d s).1.toArray⟩, .int .i64 (readD d s).2] ∧ L = [FSA p d]) := by
 refine FSA.open' fun x hx => ?_
 obtain ⟨o, e, hve⟩ := find_ptr x.rs d s
 have hfs := find_spec' (p := p) hx hve
 refine Spec.of 22 Tryz.func34 rfl rfl rfl ?_
 refine swp_seq ?_
 refine swp_region ?_
 refine s_pu (pu_assign rfl) ?_
 refine s_pu (pu_assign rfl) ?_
 refine swl_sub _ (sc0 0 rfl (sc0 1 rfl .nil)) ?_
 refine swl_nil ?_
 refine then_n ?_
 refine swp_seq ?_
 refine swp_region ?_
 refine s_pu (pu_move rfl) ?_
 refine s_pu (pu_move rfl) ?_
 refine s_ef (ef_fn hfs rfl rfl sp0) ?_
 rintro v11 L1 ⟨rfl, rfl⟩
 refine swl_app ?_
 refine s_pu (pu_move rfl) ?_
 refine s_pu (pu_extractL rfl) ?_
 refine s_pu (pu_extractL rfl) ?_
 refine s_pu (pu_assign rfl) ?_
 refine s_pu (pu_assign rfl) ?_
 refine swl_sub _ (sc0 6 rfl (sc0 7 rfl .nil)) ?_
 refine swl_nil ?_
 refine then_n ?_
 refine swp_seq ?_
 refine swp_seq ?_
 refine swp_region ?_
 refine s_pu (pu_move rfl) ?_
 refine s_pu (pu_neq rfl rfl) ?_
 refine swl_sub _ (sc0 6 rfl (sc0 7 rfl (sc0 15 rfl .nil))) ?_
 refine swl_nil ?_
 refine then_n ?_
 refine swp_cond (b := _) rfl (fun h15 => ?_) (fun h15 => ?_)
 ·skip
  refine swp_seq ?_
  refine swp_region ?_
  refine s_pu (pu_move rfl) ?_
  refine s_pu (pu_assign rfl) ?_
  refine s_pu (pu_assign rfl) ?_
  refine swl_sub _ (sc0 4 rfl (sc0 5 rfl .nil)) ?_
  refine swl_nil ?_
  refine then_n ?_
  refine swp_ret ?_
  refine then_r ?_
  have h15' : e ≠ 0 := by simpa using h15
  rw [read_err hve h15']
  exact done_retE [FSA p d] (.tmp rfl (.tmp rfl .nil)) ⟨rfl, rfl⟩ ((Split.ent' (K := [fsH p d x, mpe x.sb skv x.es x.cs, mpe x.fb skv x.ef x.cf, own 127 3 x.pv x.ps.length (x.ps.flatMap encP), recsA x.rs]) sp0).trans (fs_close hx))
 ·skip
  have h15' : e = 0 := by simpa using h15
  subst h15'
  have hk3 : ∃ k, findN d.seen s = some k ∧ .pointer o = adr x.rs k ∧ readD d s = ((d.fl k).bytes, 0) := by
   rcases find_cases hve with ⟨h0, _⟩ | ⟨h0, _⟩ | ⟨_, h1, k, h2, h3⟩
   ·cases h0
   ·cases h0
   ·refine ⟨k, h2, h3, ?_⟩
    unfold readD
    rw [if_neg (by rw [h1]; decide), h2]
  obtain ⟨k, hk1, hk2, hk3⟩ := hk3
  obtain ⟨r, hr, hf, ha⟩ := hx.find hk1
  rw [ha] at hk2
  rw [hk2]
  refine swp_ent (Split.ent' (K := [recsA x.rs, fsH p d x, mpe x.sb skv x.es x.cs, mpe x.fb skv x.ef x.cf, own 127 3 x.pv x.ps.length (x.ps.flatMap encP)]) sp0) ?_
  refine swp_ent (recs_open' hr (real_of hd hf)) ?_
  refine swp_skip ?_
  refine then_n ?_
  refine swp_seq ?_
  refine swp_region ?_
  refine s_pu (pu_move rfl) ?_
  refine s_pu (pu_nilCheck rfl) ?_
  refine s_pu (pu_fieldAddr0 rfl) ?_
  refine s_rd (rd_load rfl rfl) ?_
  refine s_rd (rd_bytes_own r.f.bytes rfl tk0) ?_
  refine s_pu (pu_assign rfl) ?_
  refine s_pu (pu_assign rfl) ?_
  refine swl_sub _ (sc0 4 rfl (sc0 5 rfl .nil)) ?_
  refine swl_nil ?_
  refine then_n ?_
  refine swp_ret ?_
  rw [hk3, ← hf]
  refine done_retE [FSA p d] (.tmp rfl (.tmp rfl .nil)) ⟨rfl, rfl⟩ ?_
  refine Ent.trans (Split.ent' (K := [own 5 1 r.v r.f.bytes.length (bcs r.f.bytes), blk r.a 118 [.int .i64 (k : Nat), r.v, .int .i64 (r.f.safe : Nat)], holeA x.rs k, fsH p d x, mpe x.sb skv x.es x.cs, mpe x.fb skv x.ef x.cf, own 127 3 x.pv x.ps.length (x.ps.flatMap encP)]) sp0) ?_
  exact (recs_back' hr (real_of hd hf)).trans ((Split.ent' (K := [fsH p d x, mpe x.sb skv x.es x.cs, mpe x.fb skv x.ef x.cf, own 127 3 x.pv x.ps.length (x.ps.flatMap encP), recsA x.rs]) sp0).trans (fs_close hx))
theorem off_spec (p : Nat) (d : Dk) : Spec Tryz.prog 25 [pv p] [FSA p d] (fun r L => r = .bool d.off ∧ L = [FSA p d]) := by
 refine FSA.open' fun x hx => ?_
 refine Spec.of 11 Tryz.func25 rfl rfl rfl ?_
 refine swp_seq ?_
 refine swp_region ?_
 refine s_pu (pu_assign rfl) ?_
 refine swl_sub _ (sc0 0 rfl .nil) ?_
 refine swl_nil ?_
 refine then_n ?_
 refine swp_seq ?_
 refine swp_region ?_
 refine s_pu (pu_move rfl) ?_
 refine s_pu (pu_ptr_ne_nil rfl rfl) ?_
 refine s_pu (pu_move rfl) ?_
 refine s_split 5 rfl (fun h5 => ?_) (fun h5 => by cases h5)
 refine s_on rfl rfl ?_
 refine s_pu (pu_move rfl) ?_
 refine s_on rfl rfl ?_
 refine s_pu (pu_nilCheck rfl) ?_
 refine s_on rfl rfl ?_
 refine s_pu (pu_fieldAddr0 rfl) ?_
 refine s_on rfl rfl ?_
 refine s_rd (rd_load rfl rfl) ?_
 refine s_pu (pu_pick_t rfl rfl) ?_
 refine s_pu (pu_assign rfl) ?_
 refine swl_sub _ (sc0 2 rfl .nil) ?_
 refine swl_nil ?_
 refine then_n ?_
 refine swp_ret ?_
 exact done_retE [FSA p d] (.tmp rfl .nil) ⟨rfl, rfl⟩ ((Split.ent' (K := [fsH p d x, mpe x.sb skv x.es x.cs, mpe x.fb skv x.ef x.cf, own 127 3 x.pv x.ps.length (x.ps.flatMap encP), recsA x.rs]) sp0).trans (fs_close hx))
theorem fall_spec (p : Nat) (d : Dk) (n : Int) : Spec Tryz.prog 24 [pv p, .int .i64 n] [FSA p d] (fun _ L => L = [FSA p (fallD d n)]) := by
 refine FSA.open' fun x hx => ?_
 refine Spec.of 11 Tryz.func24 rfl rfl rfl ?_
 refine swp_seq ?_
 refine swp_region ?_
 refine s_pu (pu_move rfl) ?_
 refine s_pu (pu_ptr_ne_nil rfl rfl) ?_
 refine swl_sub _ (sc0 0 rfl (sc0 1 rfl (sc0 5 rfl .nil))) ?_
 refine swl_nil ?_
 refine then_n ?_
 refine swp_cond (b := _) rfl (fun h5 => ?_) (fun h5 => by cases h5)
 refine swp_region ?_
 refine s_pu (pu_move rfl) ?_
 refine s_pu (pu_move rfl) ?_
 refine s_pu (pu_max2 rfl rfl) ?_
 refine s_pu (pu_nilCheck rfl) ?_
 refine s_pu (pu_fieldAddr0 rfl) ?_
 refine s_ef0 (ef_store rfl rfl rfl) ?_
 refine swl_sub _ .nil ?_
 refine swl_nil ?_
 exact done_endE [FSA p (fallD d n)] .nil rfl ((Split.ent' (K := [blk p 81 (fsC d.quota x.rs.length x.sb x.fb x.pv (max n 0) d.off), mpe x.sb skv x.es x.cs, mpe x.fb skv x.ef x.cf, own 127 3 x.pv x.ps.length (x.ps.flatMap encP), recsA x.rs]) sp0).trans (fs_close (d := fallD d n) (hx.fa (max n 0) d.off)))
theorem newD_rep (q : Int) (sb fb : Nat) : Rep (newD q) ⟨sb, fb, [], 0, [], 0, [], [], .slice none 0 0⟩ :=
  ⟨.nil _, .nil _, .nil _, .nil _, rfl, (fun k hk => by
    rcases hk with ⟨⟨y, hy, _⟩⟩ | ⟨⟨y, hy, _⟩⟩ | ⟨c, hc, _⟩
    · cases hy
    · cases hy
    · cases hc), rfl, fun i p c hp => by cases hp⟩
def newOk (q : Int) : Prop := 0 ≤ q ∧ q ≤ 16777216
theorem new_spec (q : Int) : Spec Tryz.prog 8 [.int .i64 q] [] (fun r L => (¬ newOk q ∧ r = .tuple #[.pointer none, .int .i64 1] ∧ L = []) ∨ (newOk q ∧ ∃ p, r = .tuple #[pv p, .int .i64 0] ∧ L = [FSA p (newD q)])) := by
 refine Spec.of 15 Tryz.func8 rfl rfl rfl ?_
 refine swp_seq ?_
 refine swp_region ?_
 refine s_pu (pu_assign rfl) ?_
 refine s_pu (pu_assign rfl) ?_
 refine swl_sub _ (sc0 0 rfl .nil) ?_
 refine swl_nil ?_
 refine then_n ?_
 refine swp_seq ?_
 refine swp_seq ?_
 refine swp_region ?_
 refine s_pu (pu_move rfl) ?_
 refine s_pu (pu_lss rfl rfl) ?_
 refine s_pu (pu_move rfl) ?_
 refine s_split 6 rfl (fun h6 => ?_) (fun h6 => ?_)
 ·skip
  refine s_off rfl rfl rfl ?_
  refine s_off rfl rfl rfl ?_
  refine s_pu (pu_pick_t rfl rfl) ?_
  refine swl_sub _ (sc0 0 rfl (sc0 9 rfl .nil)) ?_
  refine swl_nil ?_
  refine then_n ?_
  refine swp_cond (b := _) rfl (fun h9 => ?_) (fun h9 => by cases h9)
  refine swp_seq ?_
  refine swp_region ?_
  refine s_pu (pu_assign rfl) ?_
  refine s_pu (pu_assign rfl) ?_
  refine swl_sub _ (sc0 2 rfl (sc0 3 rfl .nil)) ?_
  refine swl_nil ?_
  refine then_n ?_
  refine swp_ret ?_
  refine then_r ?_
  exact done_ret [] (.tmp rfl (.tmp rfl .nil)) (.inl ⟨fun h => by have := of_decide_eq_true h6; have := h.1; omega, rfl, rfl⟩) sp0
 ·skip
  refine s_on rfl rfl ?_
  refine s_pu (pu_move rfl) ?_
  refine s_on rfl rfl ?_
  refine s_pu (pu_gtr rfl rfl) ?_
  refine s_pu (pu_pick_f rfl rfl) ?_
  refine swl_sub _ (sc0 0 rfl (sc0 9 rfl .nil)) ?_
  refine swl_nil ?_
  refine then_n ?_
  refine swp_cond (b := _) rfl (fun h9 => ?_) (fun h9 => ?_)
  ·skip
   refine swp_seq ?_
   refine swp_region ?_
   refine s_pu (pu_assign rfl) ?_
   refine s_pu (pu_assign rfl) ?_
   refine swl_sub _ (sc0 2 rfl (sc0 3 rfl .nil)) ?_
   refine swl_nil ?_
   refine then_n ?_
   refine swp_ret ?_
   refine then_r ?_
   exact done_ret [] (.tmp rfl (.tmp rfl .nil)) (.inl ⟨fun h => by have := of_decide_eq_true h9; have := h.2; omega, rfl, rfl⟩) sp0
  ·skip
   refine swp_skip ?_
   refine then_n ?_
   refine swp_seq ?_
   refine swp_region ?_
   refine s_pu (pu_move rfl) ?_
   refine s_ef (ef_makeMap (kv := skv)) ?_
   intro b11
   refine s_ef (ef_makeMap (kv := skv)) ?_
   intro b12
   refine s_pu (pu_bld (qs := [(0, _), (2, _), (3, _)]) rfl) ?_
   refine s_ef (ef_box rfl rfl) ?_
   intro b14
   refine s_pu (pu_assign rfl) ?_
   refine s_pu (pu_assign rfl) ?_
   refine swl_sub _ (sc0 2 rfl (sc0 3 rfl .nil)) ?_
   refine swl_nil ?_
   refine then_n ?_
   refine swp_ret ?_
   refine done_retE [FSA b14 (newD q)] (.tmp rfl (.tmp rfl .nil)) (.inr ⟨⟨by have := of_decide_eq_false h6; omega, by have := of_decide_eq_false h9; omega⟩, b14, rfl, rfl⟩) ?_
   refine Ent.trans (own_nil_ent (e := 127) (n := 3)) ?_
   have e1 : Ent [] [recsA []] := star_close (K := []) (L := [])
   exact Ent.trans (Split.ent' (K := [blk b14 81 [.int .i64 q, .int .i64 0, .map (some b11), .map (some b12), .slice none 0 0, .int .i64 0, .bool false], mpe b11 skv [] 0, mpe b12 skv [] 0, own 127 3 (.slice none 0 0) 0 []]) sp0) ((Ent.under (X := [blk b14 81 [.int .i64 q, .int .i64 0, .map (some b11), .map (some b12), .slice none 0 0, .int .i64 0, .bool false], mpe b11 skv [] 0, mpe b12 skv [] 0, own 127 3 (.slice none 0 0) 0 []]) e1).trans (fs_close (newD_rep q b11 b12)))
end SX
namespace SX
open Go Go.Proofs
def brk (k : Nat) (W : Assn) : Nat → Assn := fun i => if i = k then W else (fun _ => False : Assn)
theorem brk_hit (k : Nat) (W : Assn) : brk k W k = W := if_pos rfl
theorem brk_miss {k i : Nat} (W : Assn) (h : ¬ i = k) {m : PH} (hm : brk k W i m) : False := by
  have e : brk k W i = (fun _ => False : Assn) := if_neg h
  rw [e] at hm; exact hm
abbrev logN : ByteArray := ⟨#[108, 111, 103]⟩
/-- the rest of the log is cut off -/
def cutRest (d : Dk) (n len : Nat) : Dk × Int := if n = len then (d, 0) else cutD d logN (n : Nat)
def settleD (d : Dk) (n len : Nat) : Dk × Int :=
  if (cutRest d n len).2 ≠ 0 then cutRest d n len else
  if (syncD (cutRest d n len).1 logN).2 ≠ 0 then syncD (cutRest d n len).1 logN else syncNamesD (syncD (cutRest d n len).1 logN).1
abbrev recL (q b5 b3 b2 p : Nat) (W : SW) (d : Dk) (n : Nat) (s : List UInt8) : List Assn := [FSA q d, blk b5 3 [.int .i64 (n : Nat)], blk b3 9 [.string (str s)], blk b2 31 [pv p], stH p W]
theorem rec1_spec (b5 b3 b2 p : Nat) (W : SW) (d : Dk) (hd : d.Ok) (n : Nat) (s : List UInt8) : Spec Tryz.prog 84 [pv b5, pv b3, pv b2] (recL W.q b5 b3 b2 p W d n s) (fun r L => r = .int .i64 (cutRest d n s.length).2 ∧ L = recL W.q b5 b3 b2 p W (cutRest d n s.length).1 n s) := by
 refine Spec.of 14 Tryz.func84 rfl rfl rfl ?_
 refine swp_seq ?_
 refine swp_region ?_
 refine s_pu (pu_assign rfl) ?_
 refine swl_sub _ (sc0 0 rfl (sc0 1 rfl (sc0 2 rfl .nil))) ?_
 refine swl_nil ?_
 refine then_n ?_
 refine swp_seq ?_
 refine swp_seq ?_
 refine swp_region ?_
 refine s_rd (rd_load rfl rfl) ?_
 refine s_rd (rd_load rfl rfl) ?_
 refine s_pu (pu_strln rfl) ?_
 refine s_pu (pu_eql rfl rfl) ?_
 refine swl_sub _ (sc0 0 rfl (sc0 2 rfl (sc0 7 rfl .nil))) ?_
 refine swl_nil ?_
 refine then_n ?_
 refine swp_cond (b := _) rfl (fun h7 => ?_) (fun h7 => ?_)
 ·skip
  refine swp_seq ?_
  refine swp_region ?_
  refine s_pu (pu_assign rfl) ?_
  refine swl_sub _ (sc0 3 rfl .nil) ?_
  refine swl_nil ?_
  refine then_n ?_
  refine swp_ret ?_
  refine then_r ?_
  have h7' : n = s.length := by have := of_decide_eq_true h7; omega
  have e : cutRest d n s.length = (d, 0) := by unfold cutRest; rw [if_pos h7']
  rw [e]
  exact done_ret (recL W.q b5 b3 b2 p W d n s) (.tmp rfl .nil) ⟨rfl, rfl⟩ sp0
 ·skip
  have h7' : ¬ n = s.length := fun e => (of_decide_eq_false h7) om0
  have e : cutRest d n s.length = cutD d logN (n : Nat) := by unfold cutRest; rw [if_neg h7']
  rw [e]
  refine swp_skip ?_
  refine then_n ?_
  refine swp_seq ?_
  refine swp_draw [0, 3, 4] _ [] (by simp only [List.append_nil]; exact Ent.refl _) kr0 ?_
  refine d_rd 0 rfl (rd_load rfl rfl) rfl kr0 kr0 kr0 ?_
  refine d_pu 1 rfl (pu_nilCheck rfl) kr0 kr0 kr0 ?_
  refine d_pu 2 rfl (pu_fieldAddr0 rfl) kr0 kr0 kr0 ?_
  refine d_rd 3 rfl (rd_load rfl rfl) rfl kr0 kr0 kr0 ?_
  refine d_rd 4 rfl (rd_load rfl rfl) rfl kr0 kr0 kr0 ?_
  refine d_fint 5 rfl kr0 kr0 (ef_fn (cut_spec W.q d hd logN (n : Nat)) rfl rfl sp0) ?_
  rintro v13 L1 ⟨rfl, rfl⟩
  refine swd_app ?_
  refine d_pu 6 rfl (pu_assign rfl) kr0 kr0 kr0 ?_
  refine d_sub _ (sc0 3 rfl .nil) ?_
  refine d_nilf kr0 ?_
  refine then_n ?_
  refine swp_ret ?_
  exact done_ret (recL W.q b5 b3 b2 p W (cutD d logN (n : Nat)).1 n s) (.tmp rfl .nil) ⟨rfl, rfl⟩ sp0
theorem rec2_spec (b5 b3 b2 p : Nat) (W : SW) (d : Dk) (hd : d.Ok) (n : Nat) (s : List UInt8) : Spec Tryz.prog 86 [pv b2] (recL W.q b5 b3 b2 p W d n s) (fun r L => r = .int .i64 (syncD d logN).2 ∧ L = recL W.q b5 b3 b2 p W (syncD d logN).1 n s) := by
 refine Spec.of 7 Tryz.func86 rfl rfl rfl ?_
 refine swp_seq ?_
 refine swp_region ?_
 refine s_pu (pu_assign rfl) ?_
 refine swl_sub _ (sc0 0 rfl .nil) ?_
 refine swl_nil ?_
 refine then_n ?_
 refine swp_seq ?_
 refine swp_region ?_
 refine s_rd (rd_load rfl rfl) ?_
 refine s_pu (pu_nilCheck rfl) ?_
 refine s_pu (pu_fieldAddr0 rfl) ?_
 refine s_rd (rd_load rfl rfl) ?_
 refine s_ef (ef_fn (sync_spec W.q d hd logN) rfl rfl sp0) ?_
 rintro v6 L1 ⟨rfl, rfl⟩
 refine swl_app ?_
 refine s_pu (pu_assign rfl) ?_
 refine swl_sub _ (sc0 1 rfl .nil) ?_
 refine swl_nil ?_
 refine then_n ?_
 refine swp_ret ?_
 exact done_ret (recL W.q b5 b3 b2 p W (syncD d logN).1 n s) (.tmp rfl .nil) ⟨rfl, rfl⟩ sp0
theorem rec3_spec (b5 b3 b2 p : Nat) (W : SW) (d : Dk) (hd : d.Ok) (n : Nat) (s : List UInt8) : Spec Tryz.prog 38 [pv W.q] (recL W.q b5 b3 b2 p W d n s) (fun r L => r = .int .i64 (syncNamesD d).2 ∧ L = recL W.q b5 b3 b2 p W (syncNamesD d).1 n s) :=
  Spec.mono (Spec.fr (syncn_spec W.q d hd) [blk b5 3 [.int .i64 (n : Nat)], blk b3 9 [.string (str s)], blk b2 31 [pv p], stH p W]) (by rintro r L ⟨L', ⟨rfl, rfl⟩, rfl⟩; exact ⟨rfl, rfl⟩)
theorem settle_steps (b5 b3 b2 p : Nat) (W : SW) (d : Dk) (hd : d.Ok) (n : Nat) (s : List UInt8) :
    StepsF [.func (.func 84) #[] #[pv b5, pv b3, pv b2], .func (.func 86) #[] #[pv b2], .func (.func 38) #[pv W.q] #[]] (recL W.q b5 b3 b2 p W d n s) (fun e L => e = (settleD d n s.length).2 ∧ L = recL W.q b5 b3 b2 p W (settleD d n s.length).1 n s) := by
  have hd1 : (cutRest d n s.length).1.Ok := by unfold cutRest; split; exact hd; exact cutD_ok hd _ _
  refine ⟨84, inferInstance, [], [pv b5, pv b3, pv b2], rfl, Spec.mono (rec1_spec b5 b3 b2 p W d hd n s) ?_⟩
  rintro r L ⟨rfl, rfl⟩
  refine ⟨_, rfl, ?_⟩
  by_cases h1 : (cutRest d n s.length).2 = 0
  · refine .inl ⟨h1, 86, inferInstance, [], [pv b2], rfl, Spec.mono (rec2_spec b5 b3 b2 p W _ hd1 n s) ?_⟩
    rintro r L ⟨rfl, rfl⟩
    refine ⟨_, rfl, ?_⟩
    by_cases h2 : (syncD (cutRest d n s.length).1 logN).2 = 0
    · refine .inl ⟨h2, 38, inferInstance, [pv W.q], [], rfl, Spec.mono (rec3_spec b5 b3 b2 p W _ (syncD_ok hd1 _) n s) ?_⟩
      rintro r L ⟨rfl, rfl⟩
      have e : settleD d n s.length = syncNamesD (syncD (cutRest d n s.length).1 logN).1 := by unfold settleD; rw [if_neg (not_not_intro h1), if_neg (not_not_intro h2)]
      refine ⟨_, rfl, ?_⟩
      by_cases h3 : (syncNamesD (syncD (cutRest d n s.length).1 logN).1).2 = 0
      · exact .inl ⟨h3, by rw [e]; exact ⟨h3.symm, rfl⟩⟩
      · exact .inr ⟨h3, by rw [e]; exact ⟨rfl, rfl⟩⟩
    · have e : settleD d n s.length = syncD (cutRest d n s.length).1 logN := by unfold settleD; rw [if_neg (not_not_intro h1), if_pos h2]
      exact .inr ⟨h2, by rw [e]; exact ⟨rfl, rfl⟩⟩
  · have e : settleD d n s.length = cutRest d n s.length := by unfold settleD; rw [if_pos h1]
    exact .inr ⟨h1, by rw [e]; exact ⟨rfl, rfl⟩⟩
/-- the store while its log is read -/
abbrev RecX (μ : PH) (W : SW) (l : List Fm) : Type := {x : SW × PH // Le μ x.2 ∧ x.1.Ok x.2 ∧ x.1.q = W.q ∧ x.1.dead = W.dead ∧ stands W.pl l = some x.1.pl}
abbrev recK (q b5 b3 b2 p : Nat) (d : Dk) (s : List UInt8) (n : Nat) (x : SW × PH) : List Assn := recL q b5 b3 b2 p x.1 d n s ++ [ttA x.1, ccA x.1, ro x.2]
def recC (μ : PH) (W : SW) (b5 b3 b2 p : Nat) (d : Dk) (s : List UInt8) (l : List Fm) : Assn := exA fun x : RecX μ W l => recK W.q b5 b3 b2 p d s (sizeF l) x.1
abbrev FinX (μ : PH) (W : SW) (l : List Fm) : Type := {x : SW × PH // Le μ x.2 ∧ x.1.Ok x.2 ∧ x.1.q = W.q ∧ x.1.dead = W.dead ∧ x.1.pl = (runS W.pl l).1}
def recF (μ : PH) (W : SW) (b5 b3 b2 p : Nat) (d : Dk) (s : List UInt8) : Assn := exA fun x : FinX μ W (scan s) => recK W.q b5 b3 b2 p d s (runS W.pl (scan s)).2 x.1
theorem runS_le : ∀ {s : St2} {l : List Fm}, (runS s l).2 ≤ sizeF l
  | s, [] => Nat.zero_le _
  | s, f :: l => by
    rw [runS]
    cases stand1 s f with
    | none => exact Nat.zero_le _
    | some s' =>
      have := runS_le (s := s') (l := l)
      show f.2.length + 9 + (runS s' l).2 ≤ sizeF ([f] ++ l)
      rw [sizeF_app]
      show _ ≤ f.2.length + 9 + 0 + sizeF l
      omega
theorem StandQ.two {μ μ' : PH} {W W' : SW} {f : Fm} {r : Value} (h : StandQ μ W f r W' μ') : ∃ b : Bool, r = .bool b ∧ (b = false → stand1 W.pl f = none ∧ W'.pl = W.pl) ∧ (b = true → stand1 W.pl f = some W'.pl) := by
  obtain ⟨_, _, _, _, h⟩ := h
  rcases h with ⟨h1, h2, h3⟩ | ⟨s, h1, h2, h3⟩
  · exact ⟨false, h2, fun _ => ⟨h1, h3⟩, fun k => (by cases k)⟩
  · exact ⟨true, h2, fun k => (by cases k), fun _ => by rw [h3]; exact h1⟩
set_option maxHeartbeats 4000000 in
theorem recover_spec (μ : PH) (p : Nat) (W : SW) (hW : W.Ok μ) (d : Dk) (hd : d.Ok) (s : List UInt8) (hs : s.length ≤ 1073741824) : Spec Tryz.prog 39 [pv p, .string (str s)] [FSA W.q d, stH p W, ttA W, ccA W, ro μ]
  (fun r L => ∃ W' μ', Le μ μ' ∧ W'.Ok μ' ∧ W'.q = W.q ∧ W'.dead = W.dead ∧ W'.pl = (runS W.pl (scan s)).1 ∧ r = .int .i64 (settleD d (runS W.pl (scan s)).2 s.length).2 ∧ L = [FSA W.q (settleD d (runS W.pl (scan s)).2 s.length).1, stH p W', ttA W', ccA W', ro μ']) := by
 refine Spec.of 29 Tryz.func39 rfl rfl rfl ?_
 refine swp_seq ?_
 refine swp_region ?_
 refine s_ef (ef_box rfl rfl) ?_
 intro b2
 refine s_ef (ef_box rfl rfl) ?_
 intro b3
 refine s_pu (pu_assign rfl) ?_
 refine swl_sub _ (sc0 2 rfl (sc0 3 rfl .nil)) ?_
 refine swl_nil ?_
 refine then_n ?_
 refine swp_seq ?_
 refine swp_region ?_
 refine s_ef (ef_alloc) ?_
 intro b5
 refine s_ef0 (ef_store rfl rfl rfl) ?_
 refine swl_sub _ (sc0 2 rfl (sc0 3 rfl (sc0 5 rfl .nil))) ?_
 refine swl_nil ?_
 refine then_n ?_
 refine swp_cut (fun env L => Sub env [(2, pv b2), (3, pv b3), (5, pv b5)] ∧ Ent L [recF μ W b5 b3 b2 p d s]) ?_ ?_
 ·skip
  refine swp_seq ?_
  refine swp_region ?_
  refine s_rd (rd_load rfl rfl) ?_
  refine s_ef (ef_fn (each_spec s) rfl rfl sp0) ?_
  rintro v9 L1 ⟨be, rfl, rfl⟩
  refine swl_app ?_
  refine swl_sub _ (sc0 2 rfl (sc0 3 rfl (sc0 5 rfl (sc0 9 rfl .nil)))) ?_
  refine swl_nil ?_
  refine then_n ?_
  refine swp_block ?_
  refine swp_rangeK (each_iter be s hs) (B := recK W.q b5 b3 b2 p d s 0 (W, μ)) (fun pre => recC μ W b5 b3 b2 p d s (pre.map (·.2))) (fun _ => False) (brk 0 (recF μ W b5 b3 b2 p d s)) rfl rfl (fun _ => rfl) ((Split.ent (K := [blk be 9 [.string (str s)], FSA W.q d, blk b5 3 [.int .i64 0], blk b3 9 [.string (str s)], blk b2 31 [pv p], stH p W, ttA W, ccA W, ro μ]) sp0).trans (by rw [List.append_nil]; exact Ent.refl _)) (ent_ex1 (F := fun x : RecX μ W [] => recK W.q b5 b3 b2 p d s 0 x.1) ⟨(W, μ), Le.refl _, hW, rfl, rfl, rfl⟩) ?_ ?_ ?_ ?_
  ·skip
   rintro ln pre x ⟨⟨post, hpost⟩, hx1, hx2, hx3⟩
   refine swp_ex fun ⟨⟨W1, μ1⟩, h1, h2, h3, h4, h5⟩ => ?_
   refine swp_app ?_
   dsimp only at h1 h2 h3 h4 h5 ⊢
   simp only [recK, recL, List.cons_append, List.nil_append]
   refine swp_seq ?_
   refine swp_region ?_
   refine s_pu (pu_assign rfl) ?_
   refine swl_sub _ (sc0 2 rfl (sc0 5 rfl (sc0 6 rfl (sc0 11 rfl .nil)))) ?_
   refine swl_nil ?_
   refine then_n ?_
   refine swp_region ?_
   refine s_ef (ef_alloc) ?_
   intro b7
   refine s_ef0 (ef_storeA rfl rfl rfl rfl) ?_
   refine swl_sub _ (sc0 2 rfl (sc0 5 rfl (sc0 6 rfl (sc0 7 rfl .nil)))) ?_
   refine swl_nil ?_
   refine then_n ?_
   refine swp_block ?_
   refine swp_seq ?_
   refine swp_seq ?_
   refine swp_region ?_
   refine s_rd (rd_load rfl rfl) ?_
   refine s_rd (rd_loadW rfl rfl) ?_
   refine s_ef (ef_fn (stand_spec μ1 p W1 h2 x.2 om0) rfl rfl sp0) ?_
   rintro v14 L1 ⟨W2, μ2, hst, rfl⟩
   obtain ⟨bv, rfl, hb1, hb2⟩ := hst.two
   obtain ⟨g1, g2, g3, g4, _⟩ := hst
   refine swl_app ?_
   refine s_pu (pu_not rfl) ?_
   refine swl_sub _ (sc0 5 rfl (sc0 6 rfl (sc0 7 rfl (sc0 15 rfl .nil)))) ?_
   refine swl_nil ?_
   refine then_n ?_
   refine swp_cond (b := _) rfl (fun h15 => ?_) (fun h15 => ?_)
   ·skip
    refine swp_exit ?_
    refine then_x ?_
    refine block_miss rfl ?_
    refine rnd_x ?_
    have hbv : bv = false := by simpa using h15
    obtain ⟨k1, k2⟩ := hb1 hbv
    have hrun : runS W.pl (scan s) = (W1.pl, sizeF (pre.map (·.2))) := by rw [hpost]; exact runS_stop h5 k1
    rw [brk_hit]
    refine (Split.ent' (K := [FSA W.q d, blk b5 3 [.int .i64 (sizeF (pre.map (·.2)) : Nat)], blk b3 9 [.string (str s)], blk b2 31 [pv p], stH p W2, ttA W2, ccA W2, ro μ2]) sp0).trans ?_
    have e2 : sizeF (pre.map (·.2)) = (runS W.pl (scan s)).2 := by rw [hrun]
    rw [e2]
    exact ent_ex1 (F := fun x : FinX μ W (scan s) => recK W.q b5 b3 b2 p d s (runS W.pl (scan s)).2 x.1) ⟨(W2, μ2), h1.trans g1, g2, g3.trans h3, g4.trans h4, by rw [hrun]; exact k2⟩
   ·skip
    refine swp_skip ?_
    refine then_n ?_
    refine swp_region ?_
    refine s_pu (pu_move rfl) ?_
    refine s_rd (rd_loadW rfl rfl) ?_
    have hsz : x.1 + (x.2.2.length + 9) = sizeF ((pre ++ [x]).map (·.2)) := by
     rw [List.map_append, sizeF_app, ← hx1]
     show _ = x.1 + (x.2.2.length + 9 + 0)
     omega
    refine s_ef (ef_fn (fsize_spec x.2 hx2) rfl rfl sp0) ?_
    rintro v18 L2 ⟨rfl, rfl⟩
    refine swl_app ?_
    refine s_pu (pu_add_as ((sizeF ((pre ++ [x]).map (·.2)) : Nat) : Int) rfl rfl om0 om0 om0) ?_
    refine s_ef0 (ef_store rfl rfl rfl) ?_
    refine swl_sub _ .nil ?_
    refine swl_nil ?_
    refine block_n ?_
    refine rnd_n ?_
    have hbv : bv = true := by simpa using h15
    have k1 := hb2 hbv
    refine (Split.ent' (K := [FSA W.q d, blk b5 3 [.int .i64 (sizeF ((pre ++ [x]).map (·.2)) : Nat)], blk b3 9 [.string (str s)], blk b2 31 [pv p], stH p W2, ttA W2, ccA W2, ro μ2]) sp0).trans ?_
    exact ent_ex1 (F := fun y : RecX μ W ((pre ++ [x]).map (·.2)) => recK W.q b5 b3 b2 p d s (sizeF ((pre ++ [x]).map (·.2))) y.1) ⟨(W2, μ2), h1.trans g1, g2, g3.trans h3, g4.trans h4, by rw [List.map_append]; exact stands_snoc h5 k1⟩
  ·skip
   rintro ys hys
   refine block_n ?_
   refine then_n ⟨⟨rfl, rfl, rfl, trivial⟩, ?_⟩
   rw [hys]
   refine ent_open fun ⟨⟨W1, μ1⟩, h1, h2, h3, h4, h5⟩ => ?_
   have hrun := runS_all h5
   have e2 : sizeF (scan s) = (runS W.pl (scan s)).2 := by rw [hrun]
   rw [e2]
   simp only [recK, recL, List.cons_append, List.nil_append]
   refine (Split.ent' (K := [FSA W.q d, blk b5 3 [.int .i64 ((runS W.pl (scan s)).2 : Nat)], blk b3 9 [.string (str s)], blk b2 31 [pv p], stH p W1, ttA W1, ccA W1, ro μ1]) sp0).trans ?_
   exact ent_ex1 (F := fun x : FinX μ W (scan s) => recK W.q b5 b3 b2 p d s (runS W.pl (scan s)).2 x.1) ⟨(W1, μ1), h1, h2, h3, h4, by rw [hrun]⟩
  ·exact swp_fact (p := False) (fun m h => by obtain ⟨_, _, h, _⟩ := h; exact h) False.elim
  ·intro j
   by_cases hj : j = 0
   ·subst hj
    refine swp_exit ?_
    refine block_hit rfl ?_
    exact then_n ⟨⟨rfl, rfl, rfl, trivial⟩, by rw [brk_hit]; exact Split.ent' sp0⟩
   ·exact swp_fact (p := False) (fun m h => by obtain ⟨_, _, h, _⟩ := h; exact brk_miss _ hj h) False.elim
 rintro env L ⟨hsub, hE⟩
 refine swp_sub _ hsub ?_
 refine swp_ent hE ?_
 clear hsub hE env L
 refine swp_ex fun ⟨⟨W1, μ1⟩, h1, h2, h3, h4, h5⟩ => ?_
 refine swp_app ?_
 dsimp only at h1 h2 h3 h4 h5 ⊢
 simp only [recK, recL, List.cons_append, List.nil_append]
 generalize (runS W.pl (scan s)).2 = n at *
 rw [← h3]
 refine swp_seq ?_
 refine swp_region ?_
 refine s_pu (pu_func (vs := []) (us := [_, _, _]) rfl rfl) ?_
 refine s_pu (pu_func (vs := []) (us := [_]) rfl rfl) ?_
 refine s_rd (rd_load rfl rfl) ?_
 refine s_pu (pu_nilCheck rfl) ?_
 refine s_pu (pu_fieldAddr0 rfl) ?_
 refine s_rd (rd_load rfl rfl) ?_
 refine s_pu (pu_func (vs := [_]) (us := []) rfl rfl) ?_
 refine s_ef (ef_bldS (qs := [(0, _), (1, _), (2, _)]) rfl rfl rfl) ?_
 intro b27
 refine s_ef (ef_fn (first_spec b27 3 [.func (.func 84) #[] #[pv b5, pv b3, pv b2], .func (.func 86) #[] #[pv b2], .func (.func 38) #[pv W1.q] #[]] (recL W1.q b5 b3 b2 p W1 d n s) _ (by show 3 ≤ 1000; decide) (settle_steps b5 b3 b2 p W1 d hd n s)) rfl rfl sp0) ?_
 rintro v28 L1 ⟨e, L2, rfl, ⟨rfl, rfl⟩, rfl⟩
 refine swl_app ?_
 refine s_pu (pu_assign rfl) ?_
 refine swl_sub _ (sc0 4 rfl .nil) ?_
 refine swl_nil ?_
 refine then_n ?_
 refine swp_ret ?_
 exact done_ret [FSA W1.q (settleD d n s.length).1, stH p W1, ttA W1, ccA W1, ro μ1] (.tmp rfl .nil) ⟨W1, μ1, h1, h2, rfl, h4, h5, rfl, rfl⟩ sp0
end SX
namespace SX
open Go Go.Proofs
theorem readD_len {d : Dk} (h : d.Ok) (s : ByteArray) : (readD d s).1.length ≤ 1073741824 := by
  unfold readD
  split
  · exact Nat.zero_le _
  · split
    · exact Nat.zero_le _
    · rename_i k hk
      have := (Dk.fl_ok h k).1
      unfold mostF at this
      show (d.fl k).bytes.length ≤ _
      omega
theorem readD_err {d : Dk} {s : ByteArray} (h : (readD d s).2 ≠ 0) : (readD d s).1 = [] := by
  unfold readD at h ⊢
  split
  · rfl
  · split
    · rfl
    · rename_i h1 _ _ hk
      rw [if_neg h1, hk] at h
      exact absurd rfl h
/-- a new log -/
def freshD (d : Dk) : Dk × Int := if (createD d logN).2 ≠ 0 then createD d logN else syncNamesD (createD d logN).1
/-- the trees and commits of a log -/
def openS (d : Dk) : St2 := (runS ([], []) (scan (readD d logN).1)).1
def openD (d : Dk) : Dk × Int := if (readD d logN).2 = 6 then freshD d else if (readD d logN).2 ≠ 0 then (d, (readD d logN).2) else
  settleD d (runS ([], []) (scan (readD d logN).1)).2 (readD d logN).1.length
theorem open1_spec (b1 q : Nat) (d : Dk) (hd : d.Ok) (hw : Few d) : Spec Tryz.prog 36 [pv b1] [FSA q d, blk b1 27 [pv q]] (fun r L => r = .int .i64 (createD d logN).2 ∧ L = [FSA q (createD d logN).1, blk b1 27 [pv q]]) := by
 refine Spec.of 4 Tryz.func36 rfl rfl rfl ?_
 refine swp_seq ?_
 refine swp_region ?_
 refine s_pu (pu_assign rfl) ?_
 refine swl_sub _ (sc0 0 rfl .nil) ?_
 refine swl_nil ?_
 refine then_n ?_
 refine swp_seq ?_
 refine swp_region ?_
 refine s_rd (rd_load rfl rfl) ?_
 refine s_ef (ef_fn (create_spec q d hd hw logN) rfl rfl sp0) ?_
 rintro v3 L1 ⟨rfl, rfl⟩
 refine swl_app ?_
 refine s_pu (pu_assign rfl) ?_
 refine swl_sub _ (sc0 1 rfl .nil) ?_
 refine swl_nil ?_
 refine then_n ?_
 refine swp_ret ?_
 exact done_ret [FSA q (createD d logN).1, blk b1 27 [pv q]] (.tmp rfl .nil) ⟨rfl, rfl⟩ sp0
theorem fresh_steps (b1 q : Nat) (d : Dk) (hd : d.Ok) (hw : Few d) :
    StepsF [.func (.func 36) #[] #[pv b1], .func (.func 38) #[pv q] #[]] [FSA q d, blk b1 27 [pv q]] (fun e L => e = (freshD d).2 ∧ L = [FSA q (freshD d).1, blk b1 27 [pv q]]) := by
  have hd1 := createD_ok hd logN
  refine ⟨36, inferInstance, [], [pv b1], rfl, Spec.mono (open1_spec b1 q d hd hw) ?_⟩
  rintro r L ⟨rfl, rfl⟩
  refine ⟨_, rfl, ?_⟩
  by_cases h1 : (createD d logN).2 = 0
  · refine .inl ⟨h1, 38, inferInstance, [pv q], [], rfl, Spec.mono (Spec.fr (syncn_spec q _ hd1) [blk b1 27 [pv q]]) ?_⟩
    rintro r L ⟨L', ⟨rfl, rfl⟩, rfl⟩
    have e : freshD d = syncNamesD (createD d logN).1 := by unfold freshD; rw [if_neg (not_not_intro h1)]
    refine ⟨_, rfl, ?_⟩
    by_cases h3 : (syncNamesD (createD d logN).1).2 = 0
    · exact .inl ⟨h3, by rw [e]; exact ⟨h3.symm, rfl⟩⟩
    · exact .inr ⟨h3, by rw [e]; exact ⟨rfl, rfl⟩⟩
  · have e : freshD d = createD d logN := by unfold freshD; rw [if_pos h1]
    exact .inr ⟨h1, by rw [e]; exact ⟨rfl, rfl⟩⟩
/-- what opening answers -/
def OpenQ (μ : PH) (q : Nat) (d : Dk) (e : Int) (W : SW) (μ' : PH) : Prop := Le μ μ' ∧ W.Ok μ' ∧ W.q = q ∧ W.dead = false ∧ e = (openD d).2 ∧ (e = 0 → W.pl = openS d)
abbrev newSW (q : Nat) : SW := ⟨q, .slice none 0 0, .slice none 0 0, [], [], false⟩
theorem newSW_ok (μ : PH) (q : Nat) : (newSW q).Ok μ := ⟨⟨none, 0, rfl⟩, ⟨none, 0, rfl⟩, fun x hx => (by cases hx), fun x hx => (by cases hx), Nat.zero_le _, Nat.zero_le _⟩
set_option maxHeartbeats 4000000 in
theorem open_spec (μ : PH) (q : Nat) (d : Dk) (hd : d.Ok) (hw : Few d) : Spec Tryz.prog 9 [pv q] [FSA q d, ro μ] (fun r L => ∃ p W μ' e, OpenQ μ q d e W μ' ∧ r = .tuple #[if e = 0 then pv p else .pointer none, .int .i64 e] ∧ L = [FSA q (openD d).1, stH p W, ttA W, ccA W, ro μ']) := by
 refine Spec.of 34 Tryz.func9 rfl rfl rfl ?_
 refine swp_seq ?_
 refine swp_region ?_
 refine s_ef (ef_box rfl rfl) ?_
 intro b1
 refine s_pu (pu_assign rfl) ?_
 refine s_pu (pu_assign rfl) ?_
 refine swl_sub _ (sc0 1 rfl .nil) ?_
 refine swl_nil ?_
 refine then_n ?_
 refine swp_seq ?_
 refine swp_seq ?_
 refine swp_region ?_
 refine s_rd (rd_load rfl rfl) ?_
 refine s_pu (pu_ptr_eq_nil rfl rfl) ?_
 refine swl_sub _ (sc0 1 rfl (sc0 8 rfl .nil)) ?_
 refine swl_nil ?_
 refine then_n ?_
 refine swp_cond (b := _) rfl (fun h8 => by cases h8) (fun h8 => ?_)
 refine swp_skip ?_
 refine then_n ?_
 refine swp_seq ?_
 refine swp_region ?_
 refine s_rd (rd_load rfl rfl) ?_
 refine s_pu (pu_bld (qs := [(0, _)]) rfl) ?_
 refine s_ef (ef_box rfl rfl) ?_
 intro b11
 refine s_pu (pu_assign rfl) ?_
 refine swl_sub _ (sc0 1 rfl (sc0 4 rfl .nil)) ?_
 refine swl_ent (own_nil_ent (e := 22) (n := 1)) ?_
 refine swl_ent (own_nil_ent (e := 25) (n := 2)) ?_
 refine swl_ent (L' := [FSA q d, stH b11 (newSW q), ttA (newSW q), ccA (newSW q), blk b1 27 [pv q], ro μ]) ?_ ?_
 ·show Ent [own 25 2 (.slice none 0 0) 0 [], own 22 1 (.slice none 0 0) 0 [], blk b11 83 [pv q, .slice none 0 0, .slice none 0 0, .bool false], blk b1 27 [pv q], FSA q d, ro μ] [FSA q d, blk b11 83 [pv q, .slice none 0 0, .slice none 0 0, .bool false], own 22 1 (.slice none 0 0) 0 [], own 25 2 (.slice none 0 0) 0 [], blk b1 27 [pv q], ro μ]
  exact Split.ent' sp0
 refine swl_nil ?_
 refine then_n ?_
 refine swp_seq ?_
 refine swp_region ?_
 refine s_rd (rd_load rfl rfl) ?_
 refine s_ef (ef_fn (read_spec q d hd logN) rfl rfl sp0) ?_
 rintro v14 L1 ⟨rfl, rfl⟩
 rw [show (⟨(readD d logN).1.toArray⟩ : ByteArray) = str (readD d logN).1 from rfl]
 refine swl_app ?_
 refine s_pu (pu_move rfl) ?_
 refine s_pu (pu_extractL rfl) ?_
 refine s_pu (pu_extractL rfl) ?_
 refine s_pu (pu_assign rfl) ?_
 refine s_pu (pu_assign rfl) ?_
 refine swl_sub _ (sc0 1 rfl (sc0 4 rfl (sc0 5 rfl (sc0 6 rfl .nil)))) ?_
 refine swl_nil ?_
 refine then_n ?_
 refine swp_cut (fun env L => ∃ W μ' e, OpenQ μ q d e W μ' ∧ Sub env [(4, pv b11), (6, .int .i64 e)] ∧ Ent L [FSA q (openD d).1, stH b11 W, ttA W, ccA W, ro μ']) ?_ ?_
 ·skip
  refine swp_seq ?_
  refine swp_region ?_
  refine s_pu (pu_move rfl) ?_
  refine swl_sub _ (sc0 1 rfl (sc0 4 rfl (sc0 5 rfl (sc0 6 rfl (sc0 17 rfl .nil))))) ?_
  refine swl_nil ?_
  refine then_n ?_
  refine swp_block ?_
  refine swp_seq ?_
  refine swp_region ?_
  refine s_pu (pu_eql rfl rfl) ?_
  refine s_pu (pu_assign rfl) ?_
  refine swl_sub _ (sc0 1 rfl (sc0 4 rfl (sc0 5 rfl (sc0 6 rfl (sc0 17 rfl (sc0 18 rfl .nil)))))) ?_
  refine swl_nil ?_
  refine then_n ?_
  refine swp_cond (b := _) rfl (fun h18 => ?_) (fun h18 => ?_)
  ·skip
   refine swp_region ?_
   refine s_pu (pu_func (vs := []) (us := [_]) rfl rfl) ?_
   refine s_rd (rd_load rfl rfl) ?_
   refine s_pu (pu_func (vs := [_]) (us := []) rfl rfl) ?_
   refine s_ef (ef_bldS (qs := [(0, _), (1, _)]) rfl rfl rfl) ?_
   intro b23
   refine s_ef (ef_fn (first_spec b23 2 [.func (.func 36) #[] #[pv b1], .func (.func 38) #[pv q] #[]] [FSA q d, blk b1 27 [pv q]] _ (by show 2 ≤ 1000; decide) (fresh_steps b1 q d hd hw)) rfl rfl sp0) ?_
   rintro v24 L1 ⟨e, L2, rfl, ⟨rfl, rfl⟩, rfl⟩
   refine swl_app ?_
   refine s_pu (pu_assign rfl) ?_
   refine swl_sub _ (sc0 4 rfl (sc0 6 rfl .nil)) ?_
   refine swl_nil ?_
   refine block_n ?_
   have h18' : (readD d logN).2 = 6 := by simpa using h18
   have he : openD d = freshD d := by unfold openD; rw [if_pos h18']
   have hs : openS d = ([], []) := by unfold openS; rw [readD_err (by rw [h18']; decide)]; rfl
   refine then_n ⟨newSW q, μ, _, ⟨Le.refl _, newSW_ok μ q, rfl, rfl, by rw [he], fun _ => by rw [hs]; rfl⟩, ⟨rfl, rfl, trivial⟩, ?_⟩
   rw [he]
   exact Split.ent' sp0
  ·skip
   refine swp_seq ?_
   refine swp_region ?_
   refine s_pu (pu_eql rfl rfl) ?_
   refine s_pu (pu_assign rfl) ?_
   refine swl_sub _ (sc0 4 rfl (sc0 5 rfl (sc0 6 rfl (sc0 25 rfl .nil)))) ?_
   refine swl_nil ?_
   refine then_n ?_
   refine swp_cond (b := _) rfl (fun h25 => ?_) (fun h25 => ?_)
   ·skip
    refine swp_region ?_
    refine s_pu (pu_move rfl) ?_
    refine s_pu (pu_move rfl) ?_
    refine s_ef (ef_fn (recover_spec μ b11 (newSW q) (newSW_ok μ q) d hd (readD d logN).1 (readD_len hd logN)) rfl rfl sp0) ?_
    rintro v29 L1 ⟨W', μ', g1, g2, g3, g4, g5, rfl, rfl⟩
    refine swl_app ?_
    refine s_pu (pu_assign rfl) ?_
    refine swl_sub _ (sc0 4 rfl (sc0 6 rfl .nil)) ?_
    refine swl_nil ?_
    refine block_n ?_
    have h18' : (readD d logN).2 ≠ 6 := by simpa using h18
    have h25' : (readD d logN).2 = 0 := by simpa using h25
    have he : openD d = settleD d (runS ([], []) (scan (readD d logN).1)).2 (readD d logN).1.length := by unfold openD; rw [if_neg h18', if_neg (not_not_intro h25')]
    refine then_n ⟨W', μ', _, ⟨g1, g2, g3, g4, by rw [he]; rfl, fun _ => g5⟩, ⟨rfl, rfl, trivial⟩, ?_⟩
    rw [he]
    show Ent [FSA q (settleD d (runS ([], []) (scan (readD d logN).1)).2 (readD d logN).1.length).1, stH b11 W', ttA W', ccA W', ro μ', blk b1 27 [pv q]] _
    exact Split.ent' sp0
   ·skip
    refine swp_skip ?_
    refine block_n ?_
    have h18' : (readD d logN).2 ≠ 6 := by simpa using h18
    have h25' : (readD d logN).2 ≠ 0 := by simpa using h25
    have he : openD d = (d, (readD d logN).2) := by unfold openD; rw [if_neg h18', if_pos h25']
    refine then_n ⟨newSW q, μ, _, ⟨Le.refl _, newSW_ok μ q, rfl, rfl, by rw [he], fun k => absurd k h25'⟩, ⟨rfl, rfl, trivial⟩, ?_⟩
    rw [he]
    exact Split.ent' sp0
 rintro env L ⟨W, μ', e, hq, hsub, hE⟩
 refine swp_sub _ hsub ?_
 refine swp_ent hE ?_
 clear hsub hE env L
 refine swp_seq ?_
 refine swp_seq ?_
 refine swp_region ?_
 refine s_pu (pu_move rfl) ?_
 refine s_pu (pu_neq rfl rfl) ?_
 refine swl_sub _ (sc0 4 rfl (sc0 6 rfl (sc0 31 rfl .nil))) ?_
 refine swl_nil ?_
 refine then_n ?_
 refine swp_cond (b := _) rfl (fun h31 => ?_) (fun h31 => ?_)
 ·skip
  refine swp_seq ?_
  refine swp_region ?_
  refine s_pu (pu_move rfl) ?_
  refine s_pu (pu_assign rfl) ?_
  refine s_pu (pu_assign rfl) ?_
  refine swl_sub _ (sc0 2 rfl (sc0 3 rfl .nil)) ?_
  refine swl_nil ?_
  refine then_n ?_
  refine swp_ret ?_
  refine then_r ?_
  have h31' : e ≠ 0 := by simpa using h31
  exact done_ret [FSA q (openD d).1, stH b11 W, ttA W, ccA W, ro μ'] (.tmp rfl (.tmp rfl .nil)) ⟨b11, W, μ', e, hq, by rw [if_neg h31']; rfl, rfl⟩ sp0
 ·skip
  refine swp_skip ?_
  refine then_n ?_
  refine swp_seq ?_
  refine swp_region ?_
  refine s_pu (pu_move rfl) ?_
  refine s_pu (pu_assign rfl) ?_
  refine s_pu (pu_assign rfl) ?_
  refine swl_sub _ (sc0 2 rfl (sc0 3 rfl .nil)) ?_
  refine swl_nil ?_
  refine then_n ?_
  refine swp_ret ?_
  have h31' : e = 0 := by simpa using h31
  subst h31'
  exact done_ret [FSA q (openD d).1, stH b11 W, ttA W, ccA W, ro μ'] (.tmp rfl (.tmp rfl .nil)) ⟨b11, W, μ', 0, hq, by rw [if_pos rfl]; rfl, rfl⟩ sp0
end SX
namespace SX
open Go Go.Proofs
theorem cloneT_spec (μ : PH) (v : Value) (t : List En) (hv : Row μ v 2 t.length (ens t)) (hl : t.length ≤ 1048576) : Spec Tryz.prog 47 [v] [ro μ] (fun r L => ∃ A c, r = .slice A t.length c ∧ L = [own 47 2 (.slice A t.length c) t.length (ens t), ro μ]) := by
 obtain ⟨A, cap, rfl⟩ := hv.sl
 refine Spec.of 8 Tryz.func47 rfl rfl rfl ?_
 refine swp_seq ?_
 refine swp_region ?_
 refine s_pu (pu_assign rfl) ?_
 refine swl_sub _ (sc0 0 rfl .nil) ?_
 refine swl_nil ?_
 refine then_n ?_
 refine swp_seq ?_
 refine swp_seq ?_
 refine swp_region ?_
 refine s_pu (pu_move rfl) ?_
 refine s_pu (pu_sl_eq_nil rfl rfl) ?_
 refine swl_sub _ (sc0 0 rfl (sc0 4 rfl .nil)) ?_
 refine swl_nil ?_
 refine then_n ?_
 refine swp_cond (b := _) rfl (fun h4 => ?_) (fun h4 => ?_)
 ·skip
  refine swp_seq ?_
  refine swp_region ?_
  refine s_pu (pu_assign rfl) ?_
  refine swl_sub _ (sc0 2 rfl .nil) ?_
  refine swl_nil ?_
  refine then_n ?_
  refine swp_ret ?_
  refine then_r ?_
  have hA : A = none := by cases A <;> simp_all
  subst hA
  have h0 : t = [] := by
   cases t with
   | nil => rfl
   | cons x l => obtain ⟨b, o, c, h, _⟩ := hv.pos (by simp); cases h
  subst h0
  exact done_retE [own 47 2 (.slice none 0 0) 0 [], ro μ] (.tmp rfl .nil) ⟨none, 0, rfl, rfl⟩ own_nil_ent
 ·skip
  refine swp_skip ?_
  refine then_n ?_
  refine swp_seq ?_
  refine swp_region ?_
  refine s_ef (ef_bldS (qs := []) rfl rfl rfl) ?_
  intro b5
  refine s_pu (pu_move rfl) ?_
  refine swl_ent (own_empty (n := 2)) ?_
  refine s_ef (ef_append_ro hv rfl rfl sp0 (ens_one _) (by simp only [maxLen]; omega) om0) ?_
  rintro v7 -
  rw [Nat.zero_add, List.nil_append]
  refine swl_fact (fun m h => own_form h) fun ⟨A7, c7, hv7⟩ => ?_
  subst hv7
  refine s_pu (pu_assign rfl) ?_
  refine swl_sub _ (sc0 2 rfl .nil) ?_
  refine swl_nil ?_
  refine then_n ?_
  refine swp_ret ?_
  exact done_ret [own 47 2 (.slice A7 t.length c7) t.length (ens t), ro μ] (.tmp rfl .nil) ⟨A7, c7, rfl, rfl⟩ sp0
theorem cloneI_spec (μ : PH) (v : Value) (xs : List Int) (hv : Row μ v 1 xs.length (xs.flatMap (icsk .i64))) (hl : xs.length ≤ 1048576) : Spec Tryz.prog 50 [v] [ro μ] (fun r L => ∃ A c, r = .slice A xs.length c ∧ L = [own 3 1 (.slice A xs.length c) xs.length (xs.flatMap (icsk .i64)), ro μ]) := by
 obtain ⟨A, cap, rfl⟩ := hv.sl
 refine Spec.of 8 Tryz.func50 rfl rfl rfl ?_
 refine swp_seq ?_
 refine swp_region ?_
 refine s_pu (pu_assign rfl) ?_
 refine swl_sub _ (sc0 0 rfl .nil) ?_
 refine swl_nil ?_
 refine then_n ?_
 refine swp_seq ?_
 refine swp_seq ?_
 refine swp_region ?_
 refine s_pu (pu_move rfl) ?_
 refine s_pu (pu_sl_eq_nil rfl rfl) ?_
 refine swl_sub _ (sc0 0 rfl (sc0 4 rfl .nil)) ?_
 refine swl_nil ?_
 refine then_n ?_
 refine swp_cond (b := _) rfl (fun h4 => ?_) (fun h4 => ?_)
 ·skip
  refine swp_seq ?_
  refine swp_region ?_
  refine s_pu (pu_assign rfl) ?_
  refine swl_sub _ (sc0 2 rfl .nil) ?_
  refine swl_nil ?_
  refine then_n ?_
  refine swp_ret ?_
  refine then_r ?_
  have hA : A = none := by cases A <;> simp_all
  subst hA
  have h0 : xs = [] := by
   cases xs with
   | nil => rfl
   | cons x l => obtain ⟨b, o, c, h, _⟩ := hv.pos (by simp); cases h
  subst h0
  exact done_retE [own 3 1 (.slice none 0 0) 0 [], ro μ] (.tmp rfl .nil) ⟨none, 0, rfl, rfl⟩ own_nil_ent
 ·skip
  refine swp_skip ?_
  refine then_n ?_
  refine swp_seq ?_
  refine swp_region ?_
  refine s_ef (ef_bldS (qs := []) rfl rfl rfl) ?_
  intro b5
  refine s_pu (pu_move rfl) ?_
  refine swl_ent (own_empty (n := 1)) ?_
  refine s_ef (ef_append_ro hv rfl rfl sp0 (icsk_one _) (by simp only [maxLen]; omega) om0) ?_
  rintro v7 -
  rw [Nat.zero_add, List.nil_append]
  refine swl_fact (fun m h => own_form h) fun ⟨A7, c7, hv7⟩ => ?_
  subst hv7
  refine s_pu (pu_assign rfl) ?_
  refine swl_sub _ (sc0 2 rfl .nil) ?_
  refine swl_nil ?_
  refine then_n ?_
  refine swp_ret ?_
  exact done_ret [own 3 1 (.slice A7 xs.length c7) xs.length (xs.flatMap (icsk .i64)), ro μ] (.tmp rfl .nil) ⟨A7, c7, rfl, rfl⟩ sp0
/-- a record, on the disk -/
def writeD (d : Dk) (f : Fm) : Dk × Int := if (appendD d logN (encFm f)).2 ≠ 0 then appendD d logN (encFm f) else syncD (appendD d logN (encFm f)).1 logN
theorem append_l (q : Nat) (d : Dk) (hd : d.Ok) (s : ByteArray) (l : List UInt8) (hl : l.length ≤ 1048576) : Spec Tryz.prog 63 [pv q, .string s, .string (str l)] [FSA q d] (fun r L => r = .int .i64 (appendD d s l).2 ∧ L = [FSA q (appendD d s l).1]) := append_spec q d hd s (str l) hl
abbrev wriL (b3 b7 p : Nat) (W : SW) (d : Dk) (f : Fm) : List Assn := [FSA W.q d, blk b3 31 [pv p], blk b7 9 [.string (str (encFm f))], stH p W]
theorem wri1_spec (b3 b7 p : Nat) (W : SW) (d : Dk) (hd : d.Ok) (f : Fm) (hf : f.2.length ≤ 1048567) : Spec Tryz.prog 98 [pv b3, pv b7] (wriL b3 b7 p W d f) (fun r L => r = .int .i64 (appendD d logN (encFm f)).2 ∧ L = wriL b3 b7 p W (appendD d logN (encFm f)).1 f) := by
 refine Spec.of 9 Tryz.func98 rfl rfl rfl ?_
 refine swp_seq ?_
 refine swp_region ?_
 refine s_pu (pu_assign rfl) ?_
 refine swl_sub _ (sc0 0 rfl (sc0 1 rfl .nil)) ?_
 refine swl_nil ?_
 refine then_n ?_
 refine swp_seq ?_
 refine swp_draw [0, 3, 4] _ [] (by simp only [List.append_nil]; exact Ent.refl _) kr0 ?_
 refine d_rd 0 rfl (rd_load rfl rfl) rfl kr0 kr0 kr0 ?_
 refine d_pu 1 rfl (pu_nilCheck rfl) kr0 kr0 kr0 ?_
 refine d_pu 2 rfl (pu_fieldAddr0 rfl) kr0 kr0 kr0 ?_
 refine d_rd 3 rfl (rd_load rfl rfl) rfl kr0 kr0 kr0 ?_
 refine d_rd 4 rfl (rd_load rfl rfl) rfl kr0 kr0 kr0 ?_
 refine d_fint 5 rfl kr0 kr0 (ef_fn (append_l W.q d hd logN (encFm f) (by rw [encFm_len]; omega)) rfl rfl sp0) ?_
 rintro v8 L1 ⟨rfl, rfl⟩
 refine swd_app ?_
 refine d_pu 6 rfl (pu_assign rfl) kr0 kr0 kr0 ?_
 refine d_sub _ (sc0 2 rfl .nil) ?_
 refine d_nilf kr0 ?_
 refine then_n ?_
 refine swp_ret ?_
 exact done_ret (wriL b3 b7 p W (appendD d logN (encFm f)).1 f) (.tmp rfl .nil) ⟨rfl, rfl⟩ sp0
theorem wri2_spec (b3 b7 p : Nat) (W : SW) (d : Dk) (hd : d.Ok) (f : Fm) : Spec Tryz.prog 99 [pv b3] (wriL b3 b7 p W d f) (fun r L => r = .int .i64 (syncD d logN).2 ∧ L = wriL b3 b7 p W (syncD d logN).1 f) := by
 refine Spec.of 7 Tryz.func99 rfl rfl rfl ?_
 refine swp_seq ?_
 refine swp_region ?_
 refine s_pu (pu_assign rfl) ?_
 refine swl_sub _ (sc0 0 rfl .nil) ?_
 refine swl_nil ?_
 refine then_n ?_
 refine swp_seq ?_
 refine swp_region ?_
 refine s_rd (rd_load rfl rfl) ?_
 refine s_pu (pu_nilCheck rfl) ?_
 refine s_pu (pu_fieldAddr0 rfl) ?_
 refine s_rd (rd_load rfl rfl) ?_
 refine s_ef (ef_fn (sync_spec W.q d hd logN) rfl rfl sp0) ?_
 rintro v6 L1 ⟨rfl, rfl⟩
 refine swl_app ?_
 refine s_pu (pu_assign rfl) ?_
 refine swl_sub _ (sc0 1 rfl .nil) ?_
 refine swl_nil ?_
 refine then_n ?_
 refine swp_ret ?_
 exact done_ret (wriL b3 b7 p W (syncD d logN).1 f) (.tmp rfl .nil) ⟨rfl, rfl⟩ sp0
theorem write_steps (b3 b7 p : Nat) (W : SW) (d : Dk) (hd : d.Ok) (f : Fm) (hf : f.2.length ≤ 1048567) :
    StepsF [.func (.func 98) #[] #[pv b3, pv b7], .func (.func 99) #[] #[pv b3]] (wriL b3 b7 p W d f) (fun e L => e = (writeD d f).2 ∧ L = wriL b3 b7 p W (writeD d f).1 f) := by
  have hd1 := appendD_ok hd logN (encFm f)
  refine ⟨98, inferInstance, [], [pv b3, pv b7], rfl, Spec.mono (wri1_spec b3 b7 p W d hd f hf) ?_⟩
  rintro r L ⟨rfl, rfl⟩
  refine ⟨_, rfl, ?_⟩
  by_cases h1 : (appendD d logN (encFm f)).2 = 0
  · refine .inl ⟨h1, 99, inferInstance, [], [pv b3], rfl, Spec.mono (wri2_spec b3 b7 p W _ hd1 f) ?_⟩
    rintro r L ⟨rfl, rfl⟩
    have e : writeD d f = syncD (appendD d logN (encFm f)).1 logN := by unfold writeD; rw [if_neg (not_not_intro h1)]
    refine ⟨_, rfl, ?_⟩
    by_cases h3 : (syncD (appendD d logN (encFm f)).1 logN).2 = 0
    · exact .inl ⟨h3, by rw [e]; exact ⟨h3.symm, rfl⟩⟩
    · exact .inr ⟨h3, by rw [e]; exact ⟨rfl, rfl⟩⟩
  · have e : writeD d f = appendD d logN (encFm f) := by unfold writeD; rw [if_pos h1]
    exact .inr ⟨h1, by rw [e]; exact ⟨rfl, rfl⟩⟩
theorem writeD_ok {d : Dk} (hd : d.Ok) (f : Fm) : (writeD d f).1.Ok := by
  unfold writeD
  split
  · exact appendD_ok hd _ _
  · exact syncD_ok (appendD_ok hd _ _) _
set_option maxHeartbeats 2000000 in
theorem write_spec (p : Nat) (W : SW) (d : Dk) (hd : d.Ok) (f : Fm) (h1 : 0 < f.1) (h2 : f.1 < 256) (hf : f.2.length ≤ 1048567) : Spec Tryz.prog 46 [pv p, .int .i64 (f.1 : Nat), .string (str f.2)] [FSA W.q d, stH p W] (fun r L => r = .int .i64 (writeD d f).2 ∧ L = [FSA W.q (writeD d f).1, stH p { W with dead := decide ((writeD d f).2 = 8) }]) := by
 refine Spec.of 28 Tryz.func46 rfl rfl rfl ?_
 refine swp_seq ?_
 refine swp_region ?_
 refine s_ef (ef_box rfl rfl) ?_
 intro b3
 refine s_pu (pu_assign rfl) ?_
 refine swl_sub _ (sc0 1 rfl (sc0 2 rfl (sc0 3 rfl .nil))) ?_
 refine swl_nil ?_
 refine then_n ?_
 refine swp_seq ?_
 refine swp_region ?_
 refine s_pu (pu_move rfl) ?_
 refine s_pu (pu_move rfl) ?_
 refine s_pu (pu_bld (qs := [(0, _), (1, _)]) rfl) ?_
 refine s_ef (ef_fn (fenc_spec f h1 h2 om0) rfl rfl sp0) ?_
 rintro v13 L1 ⟨rfl, rfl⟩
 refine swl_app ?_
 refine s_pu (pu_move rfl) ?_
 refine s_pu (pu_extractL rfl) ?_
 refine s_pu (pu_extractL rfl) ?_
 refine s_ef (ef_alloc) ?_
 intro b7
 refine s_ef0 (ef_store rfl rfl rfl) ?_
 refine s_pu (pu_assign rfl) ?_
 refine swl_sub _ (sc0 3 rfl (sc0 7 rfl (sc0 8 rfl .nil))) ?_
 refine swl_nil ?_
 refine then_n ?_
 refine swp_seq ?_
 refine swp_seq ?_
 refine swp_region ?_
 refine s_pu (pu_move rfl) ?_
 refine s_pu (pu_eql rfl rfl) ?_
 refine swl_sub _ (sc0 3 rfl (sc0 7 rfl (sc0 8 rfl (sc0 17 rfl .nil)))) ?_
 refine swl_nil ?_
 refine then_n ?_
 refine swp_cond (b := _) rfl (fun h17 => ?_) (fun h17 => by cases h17)
 refine swp_region ?_
 refine s_pu (pu_func (vs := []) (us := [_, _]) rfl rfl) ?_
 refine s_pu (pu_func (vs := []) (us := [_]) rfl rfl) ?_
 refine s_ef (ef_bldS (qs := [(0, _), (1, _)]) rfl rfl rfl) ?_
 intro b20
 refine s_ef (ef_fn (first_spec b20 2 [.func (.func 98) #[] #[pv b3, pv b7], .func (.func 99) #[] #[pv b3]] (wriL b3 b7 p W d f) _ (by show 2 ≤ 1000; decide) (write_steps b3 b7 p W d hd f hf)) rfl rfl sp0) ?_
 rintro v21 L1 ⟨e, L2, rfl, ⟨rfl, rfl⟩, rfl⟩
 refine swl_app ?_
 refine s_pu (pu_assign rfl) ?_
 refine swl_sub _ (sc0 3 rfl (sc0 8 rfl .nil)) ?_
 refine swl_nil ?_
 refine then_n ?_
 refine swp_seq ?_
 refine swp_region ?_
 refine s_rd (rd_load rfl rfl) ?_
 refine s_pu (pu_move rfl) ?_
 refine s_pu (pu_eql rfl rfl) ?_
 refine s_pu (pu_nilCheck rfl) ?_
 refine s_pu (pu_fieldAddr0 rfl) ?_
 refine s_ef0 (ef_store rfl rfl rfl) ?_
 refine swl_sub _ (sc0 8 rfl .nil) ?_
 refine swl_nil ?_
 refine then_n ?_
 refine swp_seq ?_
 refine swp_region ?_
 refine s_pu (pu_move rfl) ?_
 refine s_pu (pu_assign rfl) ?_
 refine swl_sub _ (sc0 6 rfl .nil) ?_
 refine swl_nil ?_
 refine then_n ?_
 refine swp_ret ?_
 exact done_ret [FSA W.q (writeD d f).1, stH p { W with dead := decide ((writeD d f).2 = 8) }] (.tmp rfl .nil) ⟨rfl, rfl⟩ sp0
theorem live_spec (p : Nat) (W : SW) : Spec Tryz.prog 44 [pv p] [stH p W] (fun r L => r = .int .i64 (if W.dead = true then 8 else 0) ∧ L = [stH p W]) := by
 refine Spec.of 11 Tryz.func44 rfl rfl rfl ?_
 refine swp_seq ?_
 refine swp_region ?_
 refine s_pu (pu_assign rfl) ?_
 refine swl_sub _ (sc0 0 rfl .nil) ?_
 refine swl_nil ?_
 refine then_n ?_
 refine swp_seq ?_
 refine swp_block ?_
 refine swp_seq ?_
 refine swp_region ?_
 refine s_pu (pu_move rfl) ?_
 refine s_pu (pu_ptr_eq_nil rfl rfl) ?_
 refine s_pu (pu_assign rfl) ?_
 refine swl_sub _ (sc0 0 rfl (sc0 3 rfl .nil)) ?_
 refine swl_nil ?_
 refine then_n ?_
 refine swp_cond (b := _) rfl (fun h3 => by cases h3) (fun h3 => ?_)
 refine swp_seq ?_
 refine swp_region ?_
 refine s_pu (pu_move rfl) ?_
 refine s_pu (pu_nilCheck rfl) ?_
 refine s_pu (pu_fieldAddr0 rfl) ?_
 refine s_rd (rd_load rfl rfl) ?_
 refine s_pu (pu_assign rfl) ?_
 refine swl_sub _ (sc0 6 rfl .nil) ?_
 refine swl_nil ?_
 refine then_n ?_
 refine swp_cond (b := _) rfl (fun h6 => ?_) (fun h6 => ?_)
 ·skip
  refine swp_seq ?_
  refine swp_region ?_
  refine s_pu (pu_assign rfl) ?_
  refine swl_sub _ (sc0 2 rfl .nil) ?_
  refine swl_nil ?_
  refine then_n ?_
  refine swp_ret ?_
  refine block_r ?_
  refine then_r ?_
  exact done_ret [stH p W] (.tmp rfl .nil) ⟨by rw [if_pos h6]; rfl, rfl⟩ sp0
 ·skip
  refine swp_skip ?_
  refine block_n ?_
  refine then_n ?_
  refine swp_seq ?_
  refine swp_region ?_
  refine s_pu (pu_assign rfl) ?_
  refine swl_sub _ (sc0 2 rfl .nil) ?_
  refine swl_nil ?_
  refine then_n ?_
  refine swp_ret ?_
  exact done_ret [stH p W] (.tmp rfl .nil) ⟨by rw [if_neg (by rw [h6]; decide)]; rfl, rfl⟩ sp0
end SX
namespace SX
open Go Go.Proofs
/-- a store and its disk -/
structure PSt where
  d : Dk
  s : St2
  dead : Bool
def addR (x : PSt) (e0 : Int) (n : Nat) (f : Fm) (s' : St2) : PSt × Int × Int :=
  if x.dead = true then (x, 0, 8) else if e0 ≠ 0 then (x, 0, e0) else if 65536 ≤ n then (x, 0, 7) else
  if (writeD x.d f).2 ≠ 0 then (⟨(writeD x.d f).1, x.s, decide ((writeD x.d f).2 = 8)⟩, 0, (writeD x.d f).2) else (⟨(writeD x.d f).1, s', false⟩, (n : Nat), 0)
def addT (x : PSt) (t : List En) : PSt × Int × Int := addR x (encErr t) x.s.1.length (1, encT t) (x.s.1 ++ [t], x.s.2)
def addC (x : PSt) (c : Cm) : PSt × Int × Int := addR x (if checkC c ≠ 0 then checkC c else if knownS x.s.1.length x.s.2.length c = false then 9 else 0) x.s.2.length (2, encC' c) (x.s.1, x.s.2 ++ [c])
section
variable {x : PSt} {e0 : Int} {n : Nat} {f : Fm} {s' : St2}
theorem addR_dead (h : x.dead = true) : addR x e0 n f s' = (x, 0, 8) := by unfold addR; rw [if_pos h]
theorem addR_err (h : x.dead = false) (h2 : e0 ≠ 0) : addR x e0 n f s' = (x, 0, e0) := by unfold addR; rw [if_neg (by rw [h]; decide), if_pos h2]
theorem addR_full (h : x.dead = false) (h2 : e0 = 0) (h3 : 65536 ≤ n) : addR x e0 n f s' = (x, 0, 7) := by unfold addR; rw [if_neg (by rw [h]; decide), if_neg (not_not_intro h2), if_pos h3]
theorem addR_wr (h : x.dead = false) (h2 : e0 = 0) (h3 : n < 65536) (h4 : (writeD x.d f).2 ≠ 0) : addR x e0 n f s' = ((⟨(writeD x.d f).1, x.s, decide ((writeD x.d f).2 = 8)⟩ : PSt), (0 : Int), (writeD x.d f).2) := by unfold addR; rw [if_neg (by rw [h]; decide), if_neg (not_not_intro h2), if_neg om0, if_pos h4]
theorem addR_ok (h : x.dead = false) (h2 : e0 = 0) (h3 : n < 65536) (h4 : (writeD x.d f).2 = 0) : addR x e0 n f s' = ((⟨(writeD x.d f).1, s', false⟩ : PSt), ((n : Nat) : Int), (0 : Int)) := by unfold addR; rw [if_neg (by rw [h]; decide), if_neg (not_not_intro h2), if_neg om0, if_neg (not_not_intro h4)]
end
/-- what a call that adds leaves -/
def AddQ (μ : PH) (W : SW) (y : PSt × Int × Int) (r : Value) (W' : SW) (μ' : PH) : Prop := Le μ μ' ∧ W'.Ok μ' ∧ W'.q = W.q ∧ W'.pl = y.1.s ∧ W'.dead = y.1.dead ∧ r = .tuple #[.int .i64 y.2.1, .int .i64 y.2.2]
theorem encErr_ok {t : List En} (h : encErr t = 0) : t.length ≤ 1024 ∧ checkE t = 0 := by
  unfold encErr at h
  split at h
  · cases h
  · exact ⟨by omega, h⟩
theorem encT_len {t : List En} (h : encErr t = 0) : (encT t).length ≤ 1048567 := by
  obtain ⟨h1, h2⟩ := encErr_ok h
  have := encEs_len [] t fun e he => (check_paths h2 e he).1
  unfold encT
  rw [List.length_append, numB_len]
  omega
theorem encC_len {c : Cm} (h : checkC c = 0) : (encC' c).length ≤ 1048567 := by
  obtain ⟨h1, _⟩ := checkC_ok h
  unfold encC'
  simp only [List.length_append, numB_len, encPs_len]
  omega
theorem SW.Ok.dead {μ : PH} {W : SW} (h : W.Ok μ) (b : Bool) : SW.Ok μ { W with dead := b } := ⟨h.tf, h.cf, h.tr, h.cr, h.tl, h.cl⟩
set_option maxHeartbeats 4000000 in
theorem addtree_spec (μ : PH) (p : Nat) (W : SW) (hW : W.Ok μ) (d : Dk) (hd : d.Ok) (v : Value) (t : List En) (hv : Row μ v 2 t.length (ens t)) (hu : U32s t) : Spec Tryz.prog 12 [pv p, v] [FSA W.q d, stH p W, ttA W, ccA W, ro μ]
  (fun r L => ∃ W' μ', AddQ μ W (addT ⟨d, W.pl, W.dead⟩ t) r W' μ' ∧ L = [FSA W'.q (addT ⟨d, W.pl, W.dead⟩ t).1.d, stH p W', ttA W', ccA W', ro μ']) := by
 have hW0 := hW
 obtain ⟨⟨A1, c1, e1⟩, ⟨A2, c2, e2⟩, _, _, hT, hC⟩ := hW
 obtain ⟨q, tv, cv, T, C, dead⟩ := W
 dsimp only at e1 e2 hT hC
 subst e1 e2
 have hlen : (SW.pl ⟨q, .slice A1 T.length c1, .slice A2 C.length c2, T, C, dead⟩).1.length = T.length := List.length_map _
 generalize hy : addT ⟨d, SW.pl ⟨q, .slice A1 T.length c1, .slice A2 C.length c2, T, C, dead⟩, dead⟩ t = y
 refine Spec.of 54 Tryz.func12 rfl rfl rfl ?_
 refine swp_seq ?_
 refine swp_region ?_
 refine s_pu (pu_assign rfl) ?_
 refine s_pu (pu_assign rfl) ?_
 refine swl_sub _ (sc0 0 rfl (sc0 1 rfl .nil)) ?_
 refine swl_nil ?_
 refine then_n ?_
 refine swp_seq ?_
 refine swp_seq ?_
 refine swp_region ?_
 refine s_pu (pu_move rfl) ?_
 refine s_ef (ef_fn (live_spec p ⟨q, .slice A1 T.length c1, .slice A2 C.length c2, T, C, dead⟩) rfl rfl sp0) ?_
 rintro v10 L1 ⟨rfl, rfl⟩
 refine swl_app ?_
 refine s_pu (pu_assign rfl) ?_
 refine swl_sub _ (sc0 0 rfl (sc0 1 rfl (sc0 6 rfl .nil))) ?_
 refine swl_nil ?_
 refine then_n ?_
 refine swp_seq ?_
 refine swp_region ?_
 refine s_pu (pu_move rfl) ?_
 refine s_pu (pu_neq rfl rfl) ?_
 refine swl_sub _ (sc0 0 rfl (sc0 1 rfl (sc0 6 rfl (sc0 12 rfl .nil)))) ?_
 refine swl_nil ?_
 refine then_n ?_
 refine swp_cond (b := _) rfl (fun h12 => ?_) (fun h12 => ?_)
 ·skip
  refine swp_seq ?_
  refine swp_region ?_
  refine s_pu (pu_move rfl) ?_
  refine s_pu (pu_assign rfl) ?_
  refine s_pu (pu_assign rfl) ?_
  refine swl_sub _ (sc0 4 rfl (sc0 5 rfl .nil)) ?_
  refine swl_nil ?_
  refine then_n ?_
  refine swp_ret ?_
  refine then_r ?_
  have hdd : dead = true := by
   cases dead with
   | true => rfl
   | false => simp at h12
  have ha : (⟨d, SW.pl ⟨q, .slice A1 T.length c1, .slice A2 C.length c2, T, C, dead⟩, dead⟩, 0, 8) = y := by rw [← hy]; exact (addR_dead (x := ⟨d, SW.pl ⟨q, .slice A1 T.length c1, .slice A2 C.length c2, T, C, dead⟩, dead⟩) hdd).symm
  subst ha
  exact done_ret [FSA q d, stH p ⟨q, .slice A1 T.length c1, .slice A2 C.length c2, T, C, dead⟩, ttA ⟨q, .slice A1 T.length c1, .slice A2 C.length c2, T, C, dead⟩, ccA ⟨q, .slice A1 T.length c1, .slice A2 C.length c2, T, C, dead⟩, ro μ] (.tmp rfl (.tmp rfl .nil)) ⟨⟨q, .slice A1 T.length c1, .slice A2 C.length c2, T, C, dead⟩, μ, ⟨Le.refl _, hW0, rfl, rfl, rfl, by rw [if_pos hdd]; rfl⟩, rfl⟩ sp0
 ·skip
  have hdd : dead = false := by
   cases dead with
   | true => simp at h12
   | false => rfl
  refine swp_skip ?_
  refine then_n ?_
  refine swp_seq ?_
  refine swp_region ?_
  refine s_pu (pu_move rfl) ?_
  refine s_ef (ef_fn (tenc_spec μ v t hv hu) rfl rfl sp0) ?_
  rintro v16 L1 ⟨rfl, rfl⟩
  refine swl_app ?_
  refine s_pu (pu_move rfl) ?_
  refine s_pu (pu_extractL rfl) ?_
  refine s_pu (pu_extractL rfl) ?_
  refine s_pu (pu_assign rfl) ?_
  refine s_pu (pu_assign rfl) ?_
  refine swl_sub _ (sc0 0 rfl (sc0 1 rfl (sc0 7 rfl (sc0 8 rfl .nil)))) ?_
  refine swl_nil ?_
  refine then_n ?_
  refine swp_seq ?_
  refine swp_seq ?_
  refine swp_region ?_
  refine s_pu (pu_move rfl) ?_
  refine s_pu (pu_eql rfl rfl) ?_
  refine s_pu (pu_move rfl) ?_
  refine s_split 21 rfl (fun h21 => ?_) (fun h21 => ?_)
  ·skip
   have h21' : encErr t = 0 := of_decide_eq_true h21
   obtain ⟨hl1, hl2⟩ := encErr_ok h21'
   have hev : encV t = encT t := by unfold encV; rw [if_pos h21']
   refine s_on rfl rfl ?_
   refine s_pu (pu_move rfl) ?_
   refine s_on rfl rfl ?_
   refine s_pu (pu_nilCheck rfl) ?_
   refine s_on rfl rfl ?_
   refine s_pu (pu_fieldAddr0 rfl) ?_
   refine s_on rfl rfl ?_
   refine s_rd (rd_load rfl rfl) ?_
   refine s_on rfl rfl ?_
   refine s_pu (pu_len rfl) ?_
   refine s_on rfl rfl ?_
   refine s_pu (pu_geq rfl rfl) ?_
   refine s_pu (pu_pick_t rfl rfl) ?_
   refine swl_sub _ (sc0 0 rfl (sc0 1 rfl (sc0 7 rfl (sc0 8 rfl (sc0 28 rfl .nil))))) ?_
   refine swl_nil ?_
   refine then_n ?_
   refine swp_cond (b := _) rfl (fun h28 => ?_) (fun h28 => ?_)
   ·skip
    have h28' : 65536 ≤ T.length := by have := of_decide_eq_true h28; omega
    refine swp_region ?_
    refine s_pu (pu_assign rfl) ?_
    refine swl_sub _ (sc0 0 rfl (sc0 1 rfl (sc0 7 rfl (sc0 8 rfl .nil)))) ?_
    refine swl_nil ?_
    refine then_n ?_
    refine swp_seq ?_
    refine swp_seq ?_
    refine swp_region ?_
    refine s_pu (pu_move rfl) ?_
    refine s_pu (pu_eql rfl rfl) ?_
    refine swl_sub _ (sc0 0 rfl (sc0 1 rfl (sc0 7 rfl (sc0 8 rfl (sc0 30 rfl .nil))))) ?_
    refine swl_nil ?_
    refine then_n ?_
    refine swp_cond (b := _) rfl (fun h30 => by cases h30) (fun h30 => ?_)
    refine swp_skip ?_
    refine then_n ?_
    refine swp_seq ?_
    refine swp_seq ?_
    refine swp_region ?_
    refine s_pu (pu_move rfl) ?_
    refine s_pu (pu_neq rfl rfl) ?_
    refine swl_sub _ (sc0 0 rfl (sc0 1 rfl (sc0 8 rfl (sc0 35 rfl .nil)))) ?_
    refine swl_nil ?_
    refine then_n ?_
    refine swp_cond (b := _) rfl (fun h35 => ?_) (fun h35 => by cases h35)
    refine swp_seq ?_
    refine swp_region ?_
    refine s_pu (pu_move rfl) ?_
    refine s_pu (pu_assign rfl) ?_
    refine s_pu (pu_assign rfl) ?_
    refine swl_sub _ (sc0 4 rfl (sc0 5 rfl .nil)) ?_
    refine swl_nil ?_
    refine then_n ?_
    refine swp_ret ?_
    refine then_r ?_
    have ha : (⟨d, SW.pl ⟨q, .slice A1 T.length c1, .slice A2 C.length c2, T, C, dead⟩, dead⟩, 0, 7) = y := by rw [← hy]; exact (addR_full (x := ⟨d, SW.pl ⟨q, .slice A1 T.length c1, .slice A2 C.length c2, T, C, dead⟩, dead⟩) hdd h21' (by first | (show (SW.pl ⟨q, .slice A1 T.length c1, .slice A2 C.length c2, T, C, dead⟩).1.length < 65536; rw [hlen]; exact h28') | (show 65536 ≤ (SW.pl ⟨q, .slice A1 T.length c1, .slice A2 C.length c2, T, C, dead⟩).1.length; rw [hlen]; exact h28'))).symm
    subst ha
    exact done_ret [FSA q d, stH p ⟨q, .slice A1 T.length c1, .slice A2 C.length c2, T, C, dead⟩, ttA ⟨q, .slice A1 T.length c1, .slice A2 C.length c2, T, C, dead⟩, ccA ⟨q, .slice A1 T.length c1, .slice A2 C.length c2, T, C, dead⟩, ro μ] (.tmp rfl (.tmp rfl .nil)) ⟨⟨q, .slice A1 T.length c1, .slice A2 C.length c2, T, C, dead⟩, μ, ⟨Le.refl _, hW0, rfl, rfl, rfl, rfl⟩, rfl⟩ sp0
   ·skip
    have h28' : T.length < 65536 := by have := of_decide_eq_false h28; omega
    refine swp_skip ?_
    refine then_n ?_
    refine swp_seq ?_
    refine swp_seq ?_
    refine swp_region ?_
    refine s_pu (pu_move rfl) ?_
    refine s_pu (pu_eql rfl rfl) ?_
    refine swl_sub _ (sc0 0 rfl (sc0 1 rfl (sc0 7 rfl (sc0 8 rfl (sc0 30 rfl .nil))))) ?_
    refine swl_nil ?_
    refine then_n ?_
    refine swp_cond (b := _) rfl (fun h30 => ?_) (fun h30 => by rw [h21'] at h30; cases h30)
    refine swp_region ?_
    refine s_pu (pu_move rfl) ?_
    refine s_pu (pu_move rfl) ?_
    refine s_ef (ef_fn (write_spec p ⟨q, .slice A1 T.length c1, .slice A2 C.length c2, T, C, dead⟩ d hd (1, encV t) (by show 0 < 1; decide) (by show 1 < 256; decide) (by rw [hev]; exact encT_len h21')) rfl rfl sp0) ?_
    rintro v33 L1 ⟨rfl, rfl⟩
    rw [hev]
    refine swl_app ?_
    dsimp only
    refine s_pu (pu_assign rfl) ?_
    refine swl_sub _ (sc0 0 rfl (sc0 1 rfl (sc0 8 rfl .nil))) ?_
    refine swl_nil ?_
    refine then_n ?_
    refine swp_seq ?_
    refine swp_seq ?_
    refine swp_region ?_
    refine s_pu (pu_move rfl) ?_
    refine s_pu (pu_neq rfl rfl) ?_
    refine swl_sub _ (sc0 0 rfl (sc0 1 rfl (sc0 8 rfl (sc0 35 rfl .nil)))) ?_
    refine swl_nil ?_
    refine then_n ?_
    refine swp_cond (b := _) rfl (fun h35 => ?_) (fun h35 => ?_)
    ·skip
     refine swp_seq ?_
     refine swp_region ?_
     refine s_pu (pu_move rfl) ?_
     refine s_pu (pu_assign rfl) ?_
     refine s_pu (pu_assign rfl) ?_
     refine swl_sub _ (sc0 4 rfl (sc0 5 rfl .nil)) ?_
     refine swl_nil ?_
     refine then_n ?_
     refine swp_ret ?_
     refine then_r ?_
     have h35' : (writeD d (1, encT t)).2 ≠ 0 := by simpa using h35
     have ha : (⟨(writeD d (1, encT t)).1, SW.pl ⟨q, .slice A1 T.length c1, .slice A2 C.length c2, T, C, dead⟩, decide ((writeD d (1, encT t)).2 = 8)⟩, 0, (writeD d (1, encT t)).2) = y := by rw [← hy]; exact (addR_wr (x := ⟨d, SW.pl ⟨q, .slice A1 T.length c1, .slice A2 C.length c2, T, C, dead⟩, dead⟩) hdd h21' (by first | (show (SW.pl ⟨q, .slice A1 T.length c1, .slice A2 C.length c2, T, C, dead⟩).1.length < 65536; rw [hlen]; exact h28') | (show 65536 ≤ (SW.pl ⟨q, .slice A1 T.length c1, .slice A2 C.length c2, T, C, dead⟩).1.length; rw [hlen]; exact h28')) h35').symm
     subst ha
     exact done_ret [FSA q (writeD d (1, encT t)).1, stH p ⟨q, .slice A1 T.length c1, .slice A2 C.length c2, T, C, decide ((writeD d (1, encT t)).2 = 8)⟩, ttA ⟨q, .slice A1 T.length c1, .slice A2 C.length c2, T, C, dead⟩, ccA ⟨q, .slice A1 T.length c1, .slice A2 C.length c2, T, C, dead⟩, ro μ] (.tmp rfl (.tmp rfl .nil)) ⟨⟨q, .slice A1 T.length c1, .slice A2 C.length c2, T, C, decide ((writeD d (1, encT t)).2 = 8)⟩, μ, ⟨Le.refl _, SW.Ok.dead hW0 _, rfl, rfl, rfl, rfl⟩, rfl⟩ sp0
    ·skip
     have h35' : (writeD d (1, encT t)).2 = 0 := by simpa using h35
     have ha : (⟨(writeD d (1, encT t)).1, ((SW.pl ⟨q, .slice A1 T.length c1, .slice A2 C.length c2, T, C, dead⟩).1 ++ [t], (SW.pl ⟨q, .slice A1 T.length c1, .slice A2 C.length c2, T, C, dead⟩).2), false⟩, ((SW.pl ⟨q, .slice A1 T.length c1, .slice A2 C.length c2, T, C, dead⟩).1.length : Int), 0) = y := by rw [← hy]; exact (addR_ok (x := ⟨d, SW.pl ⟨q, .slice A1 T.length c1, .slice A2 C.length c2, T, C, dead⟩, dead⟩) hdd h21' (by first | (show (SW.pl ⟨q, .slice A1 T.length c1, .slice A2 C.length c2, T, C, dead⟩).1.length < 65536; rw [hlen]; exact h28') | (show 65536 ≤ (SW.pl ⟨q, .slice A1 T.length c1, .slice A2 C.length c2, T, C, dead⟩).1.length; rw [hlen]; exact h28')) h35').symm
     have hd8 : decide ((writeD d (1, encT t)).2 = 8) = false := by rw [h35']; rfl
     rw [hd8]
     subst ha
     refine swp_skip ?_
     refine then_n ?_
     refine swp_seq ?_
     refine swp_draw [4] ([stH p ⟨q, .slice A1 T.length c1, .slice A2 C.length c2, T, C, false⟩]) ([FSA q (writeD d (1, encT t)).1, ro μ, ttA ⟨q, .slice A1 T.length c1, .slice A2 C.length c2, T, C, dead⟩, ccA ⟨q, .slice A1 T.length c1, .slice A2 C.length c2, T, C, dead⟩]) (Split.ent sp0) kr0 ?_
     refine d_pu 0 rfl (pu_move rfl) kr0 kr0 kr0 ?_
     refine d_pu 1 rfl (pu_move rfl) kr0 kr0 kr0 ?_
     refine d_pu 2 rfl (pu_nilCheck rfl) kr0 kr0 kr0 ?_
     refine d_pu 3 rfl (pu_fieldAddr0 rfl) kr0 kr0 kr0 ?_
     refine d_rd 4 rfl (rd_load rfl rfl) rfl kr0 kr0 kr0 ?_
     refine d_pu 5 rfl (pu_move rfl) kr0 kr0 kr0 ?_
     refine d_eft 6 rfl kr0 (ef_fn (cloneT_spec μ v t hv om0) rfl rfl sp0) ?_
     rintro v43 L1 ⟨A3, c3, rfl, rfl⟩
     refine ⟨_, ent_appC (Split.ent sp0), ?_⟩
     refine d_eft 7 rfl kr0 (ef_bldS (qs := [(0, _)]) rfl rfl rfl) ?_
     intro b44
     refine ⟨_, Split.ent sp0, ?_⟩
     refine d_fint 8 rfl kr0 kr0 (ef_append_lit (l := T.length) (m := 1) rfl rfl sp0 (by simp only [maxLen]; omega) om0) ?_
     rintro v45 -
     refine swd_factf (fun m h => own_form h) fun ⟨A45, c45, hv45⟩ => ?_
     subst hv45
     refine d_pu 9 rfl (pu_nilCheck rfl) kr0 kr0 kr0 ?_
     refine d_pu 10 rfl (pu_fieldAddr0 rfl) kr0 kr0 kr0 ?_
     refine d_fin0f 11 rfl kr0 kr0 (ef_store rfl rfl rfl) ?_
     refine d_sub _ (sc0 0 rfl .nil) ?_
     refine d_nilf kr0 ?_
     refine then_n ?_
     refine swp_seq ?_
     refine swp_share_own (μ := μ) (v := .slice A3 t.length c3) (e := 47) (n := 2) sp0 fun μ' hle hrow => ?_
     refine swp_region ?_
     refine s_pu (pu_move rfl) ?_
     refine s_pu (pu_nilCheck rfl) ?_
     refine s_pu (pu_fieldAddr0 rfl) ?_
     refine s_rd (rd_load rfl rfl) ?_
     refine s_pu (pu_len rfl) ?_
     refine s_pu (pu_sub_as ((T.length : Nat) : Int) rfl rfl om0 om0 om0) ?_
     refine s_pu (pu_assign rfl) ?_
     refine s_pu (pu_assign rfl) ?_
     refine swl_sub _ (sc0 4 rfl (sc0 5 rfl .nil)) ?_
     refine swl_nil ?_
     refine then_n ?_
     refine swp_ret ?_
     refine done_ret [FSA q (writeD d (1, encT t)).1, stH p ⟨q, .slice A45 (T.length + 1) c45, .slice A2 C.length c2, T ++ [(.slice A3 t.length c3, t)], C, false⟩, own 22 1 (.slice A45 (T.length + 1) c45) (T.length + 1) (T.flatMap tcs ++ [.slice A3 t.length c3]), ccA ⟨q, .slice A1 T.length c1, .slice A2 C.length c2, T, C, dead⟩, ro μ'] (.tmp rfl (.tmp rfl .nil)) ⟨⟨q, .slice A45 (T.length + 1) c45, .slice A2 C.length c2, T ++ [(.slice A3 t.length c3, t)], C, false⟩, μ', ⟨hle, SW.Ok.dead (Ok.addT hW0 hle hrow h28') false, rfl, ?_, rfl, ?_⟩, ?_⟩ sp0
     ·unfold SW.pl; rw [List.map_append]; rfl
     ·rw [hlen]; rfl
     ·simp only [ttA, List.length_append, List.length_singleton, List.flatMap_append]; rfl
  ·skip
   have h21' : encErr t ≠ 0 := of_decide_eq_false h21
   refine s_off rfl rfl rfl ?_
   refine s_off rfl rfl rfl ?_
   refine s_off rfl rfl rfl ?_
   refine s_off rfl rfl rfl ?_
   refine s_off rfl rfl rfl ?_
   refine s_off rfl rfl rfl ?_
   refine s_pu (pu_pick_f rfl rfl) ?_
   refine swl_sub _ (sc0 0 rfl (sc0 1 rfl (sc0 7 rfl (sc0 8 rfl (sc0 28 rfl .nil))))) ?_
   refine swl_nil ?_
   refine then_n ?_
   refine swp_cond (b := _) rfl (fun h28 => by cases h28) (fun h28 => ?_)
   refine swp_skip ?_
   refine then_n ?_
   refine swp_seq ?_
   refine swp_seq ?_
   refine swp_region ?_
   refine s_pu (pu_move rfl) ?_
   refine s_pu (pu_eql rfl rfl) ?_
   refine swl_sub _ (sc0 0 rfl (sc0 1 rfl (sc0 7 rfl (sc0 8 rfl (sc0 30 rfl .nil))))) ?_
   refine swl_nil ?_
   refine then_n ?_
   refine swp_cond (b := _) rfl (fun h30 => by exact absurd (of_decide_eq_true h30) h21') (fun h30 => ?_)
   refine swp_skip ?_
   refine then_n ?_
   refine swp_seq ?_
   refine swp_seq ?_
   refine swp_region ?_
   refine s_pu (pu_move rfl) ?_
   refine s_pu (pu_neq rfl rfl) ?_
   refine swl_sub _ (sc0 0 rfl (sc0 1 rfl (sc0 8 rfl (sc0 35 rfl .nil)))) ?_
   refine swl_nil ?_
   refine then_n ?_
   refine swp_cond (b := _) rfl (fun h35 => ?_) (fun h35 => by rw [decide_eq_false h21'] at h35; cases h35)
   refine swp_seq ?_
   refine swp_region ?_
   refine s_pu (pu_move rfl) ?_
   refine s_pu (pu_assign rfl) ?_
   refine s_pu (pu_assign rfl) ?_
   refine swl_sub _ (sc0 4 rfl (sc0 5 rfl .nil)) ?_
   refine swl_nil ?_
   refine then_n ?_
   refine swp_ret ?_
   refine then_r ?_
   have ha : (⟨d, SW.pl ⟨q, .slice A1 T.length c1, .slice A2 C.length c2, T, C, dead⟩, dead⟩, 0, encErr t) = y := by rw [← hy]; exact (addR_err (x := ⟨d, SW.pl ⟨q, .slice A1 T.length c1, .slice A2 C.length c2, T, C, dead⟩, dead⟩) hdd h21').symm
   subst ha
   exact done_ret [FSA q d, stH p ⟨q, .slice A1 T.length c1, .slice A2 C.length c2, T, C, dead⟩, ttA ⟨q, .slice A1 T.length c1, .slice A2 C.length c2, T, C, dead⟩, ccA ⟨q, .slice A1 T.length c1, .slice A2 C.length c2, T, C, dead⟩, ro μ] (.tmp rfl (.tmp rfl .nil)) ⟨⟨q, .slice A1 T.length c1, .slice A2 C.length c2, T, C, dead⟩, μ, ⟨Le.refl _, hW0, rfl, rfl, rfl, rfl⟩, rfl⟩ sp0
end SX
namespace SX
open Go Go.Proofs
theorem comV_ok {c : Cm} (h : checkC c = 0) : comV c = encC' c := by unfold comV; rw [if_pos h]
set_option maxHeartbeats 4000000 in
theorem addcommit_spec (μ : PH) (p : Nat) (W : SW) (hW : W.Ok μ) (d : Dk) (hd : d.Ok) (v : Value) (c : Cm) (hv : Row μ v 1 c.1.length (c.1.flatMap (icsk .i64))) : Spec Tryz.prog 13 [pv p, cmV v c.2] [FSA W.q d, stH p W, ttA W, ccA W, ro μ]
  (fun r L => ∃ W' μ', AddQ μ W (addC ⟨d, W.pl, W.dead⟩ c) r W' μ' ∧ L = [FSA W'.q (addC ⟨d, W.pl, W.dead⟩ c).1.d, stH p W', ttA W', ccA W', ro μ']) := by
 have hW0 := hW
 obtain ⟨⟨A1, c1, e1⟩, ⟨A2, c2, e2⟩, _, _, hT, hC⟩ := hW
 obtain ⟨A5, c5, rfl⟩ := hv.sl
 obtain ⟨q, tv, cv, T, C, dead⟩ := W
 dsimp only at e1 e2 hT hC
 subst e1 e2
 have hlen : (SW.pl ⟨q, .slice A1 T.length c1, .slice A2 C.length c2, T, C, dead⟩).1.length = T.length := List.length_map _
 have hlen2 : (SW.pl ⟨q, .slice A1 T.length c1, .slice A2 C.length c2, T, C, dead⟩).2.length = C.length := List.length_map _
 generalize hy : addC ⟨d, SW.pl ⟨q, .slice A1 T.length c1, .slice A2 C.length c2, T, C, dead⟩, dead⟩ c = y
 unfold addC at hy
 dsimp only at hy
 rw [hlen, hlen2] at hy
 refine Spec.of 61 Tryz.func13 rfl rfl rfl ?_
 refine swp_seq ?_
 refine swp_region ?_
 refine s_ef (ef_box rfl rfl) ?_
 intro b3
 refine s_pu (pu_assign rfl) ?_
 refine s_pu (pu_assign rfl) ?_
 refine swl_sub _ (sc0 0 rfl (sc0 3 rfl .nil)) ?_
 refine swl_nil ?_
 refine then_n ?_
 refine swp_seq ?_
 refine swp_seq ?_
 refine swp_region ?_
 refine s_pu (pu_move rfl) ?_
 refine s_ef (ef_fn (live_spec p ⟨q, .slice A1 T.length c1, .slice A2 C.length c2, T, C, dead⟩) rfl rfl sp0) ?_
 rintro v10 L1 ⟨rfl, rfl⟩
 refine swl_app ?_
 refine s_pu (pu_assign rfl) ?_
 refine swl_sub _ (sc0 0 rfl (sc0 3 rfl (sc0 6 rfl .nil))) ?_
 refine swl_nil ?_
 refine then_n ?_
 refine swp_seq ?_
 refine swp_region ?_
 refine s_pu (pu_move rfl) ?_
 refine s_pu (pu_neq rfl rfl) ?_
 refine swl_sub _ (sc0 0 rfl (sc0 3 rfl (sc0 6 rfl (sc0 12 rfl .nil)))) ?_
 refine swl_nil ?_
 refine then_n ?_
 refine swp_cond (b := _) rfl (fun h12 => ?_) (fun h12 => ?_)
 ·skip
  refine swp_seq ?_
  refine swp_region ?_
  refine s_pu (pu_move rfl) ?_
  refine s_pu (pu_assign rfl) ?_
  refine s_pu (pu_assign rfl) ?_
  refine swl_sub _ (sc0 4 rfl (sc0 5 rfl .nil)) ?_
  refine swl_nil ?_
  refine then_n ?_
  refine swp_ret ?_
  refine then_r ?_
  have hdd : dead = true := by
   cases dead with
   | true => rfl
   | false => simp at h12
  have ha : (⟨d, SW.pl ⟨q, .slice A1 T.length c1, .slice A2 C.length c2, T, C, dead⟩, dead⟩, 0, 8) = y := by rw [← hy]; exact (addR_dead (x := ⟨d, SW.pl ⟨q, .slice A1 T.length c1, .slice A2 C.length c2, T, C, dead⟩, dead⟩) hdd).symm
  subst ha
  exact done_ret [FSA q d, stH p ⟨q, .slice A1 T.length c1, .slice A2 C.length c2, T, C, dead⟩, ttA ⟨q, .slice A1 T.length c1, .slice A2 C.length c2, T, C, dead⟩, ccA ⟨q, .slice A1 T.length c1, .slice A2 C.length c2, T, C, dead⟩, ro μ] (.tmp rfl (.tmp rfl .nil)) ⟨⟨q, .slice A1 T.length c1, .slice A2 C.length c2, T, C, dead⟩, μ, ⟨Le.refl _, hW0, rfl, rfl, rfl, by rw [if_pos hdd]; rfl⟩, rfl⟩ sp0
 ·skip
  have hdd : dead = false := by
   cases dead with
   | true => simp at h12
   | false => rfl
  refine swp_skip ?_
  refine then_n ?_
  refine swp_seq ?_
  refine swp_region ?_
  refine s_rd (rd_loadW rfl rfl) ?_
  refine s_ef (ef_fn (cenc_spec μ (.slice A5 c.1.length c5) c hv) rfl rfl sp0) ?_
  rintro v16 L1 ⟨rfl, rfl⟩
  refine swl_app ?_
  refine s_pu (pu_move rfl) ?_
  refine s_pu (pu_extractL rfl) ?_
  refine s_pu (pu_extractL rfl) ?_
  refine s_pu (pu_assign rfl) ?_
  refine s_pu (pu_assign rfl) ?_
  refine swl_sub _ (sc0 0 rfl (sc0 3 rfl (sc0 7 rfl (sc0 8 rfl .nil)))) ?_
  refine swl_nil ?_
  refine then_n ?_
  refine swp_seq ?_
  refine swp_block ?_
  refine swp_seq ?_
  refine swp_region ?_
  refine s_pu (pu_move rfl) ?_
  refine s_pu (pu_neq rfl rfl) ?_
  refine s_pu (pu_assign rfl) ?_
  refine swl_sub _ (sc0 0 rfl (sc0 3 rfl (sc0 7 rfl (sc0 8 rfl (sc0 22 rfl .nil))))) ?_
  refine swl_nil ?_
  refine then_n ?_
  refine swp_cond (b := _) rfl (fun h22 => ?_) (fun h22 => ?_)
  ·skip
   have h22' : checkC c ≠ 0 := by simpa using h22
   rw [if_pos h22'] at hy
   refine swp_skip ?_
   refine block_n ?_
   refine then_n ?_
   refine swp_seq ?_
   refine swp_seq ?_
   refine swp_region ?_
   refine s_pu (pu_move rfl) ?_
   refine s_pu (pu_neq rfl rfl) ?_
   refine swl_sub _ (sc0 0 rfl (sc0 3 rfl (sc0 8 rfl (sc0 38 rfl .nil)))) ?_
   refine swl_nil ?_
   refine then_n ?_
   refine swp_cond (b := _) rfl (fun h38 => ?_) (fun h38 => by rw [decide_eq_false h22'] at h38; cases h38)
   refine swp_seq ?_
   refine swp_region ?_
   refine s_pu (pu_move rfl) ?_
   refine s_pu (pu_assign rfl) ?_
   refine s_pu (pu_assign rfl) ?_
   refine swl_sub _ (sc0 4 rfl (sc0 5 rfl .nil)) ?_
   refine swl_nil ?_
   refine then_n ?_
   refine swp_ret ?_
   refine then_r ?_
   have ha : (⟨d, SW.pl ⟨q, .slice A1 T.length c1, .slice A2 C.length c2, T, C, dead⟩, dead⟩, 0, checkC c) = y := by rw [← hy]; exact (addR_err (x := ⟨d, SW.pl ⟨q, .slice A1 T.length c1, .slice A2 C.length c2, T, C, dead⟩, dead⟩) hdd h22').symm
   subst ha
   exact done_ret [FSA q d, stH p ⟨q, .slice A1 T.length c1, .slice A2 C.length c2, T, C, dead⟩, ttA ⟨q, .slice A1 T.length c1, .slice A2 C.length c2, T, C, dead⟩, ccA ⟨q, .slice A1 T.length c1, .slice A2 C.length c2, T, C, dead⟩, ro μ] (.tmp rfl (.tmp rfl .nil)) ⟨⟨q, .slice A1 T.length c1, .slice A2 C.length c2, T, C, dead⟩, μ, ⟨Le.refl _, hW0, rfl, rfl, rfl, rfl⟩, rfl⟩ sp0
  ·skip
   have h22' : checkC c = 0 := by simpa using h22
   rw [if_neg (not_not_intro h22')] at hy
   refine swp_seq ?_
   refine swp_region ?_
   refine s_pu (pu_move rfl) ?_
   refine s_rd (rd_loadW rfl rfl) ?_
   refine s_ef (ef_fn (known_spec μ p ⟨q, .slice A1 T.length c1, .slice A2 C.length c2, T, C, dead⟩ hW0 (.slice A5 c.1.length c5) c hv) rfl rfl sp0) ?_
   rintro v28 L1 ⟨rfl, rfl⟩
   refine swl_app ?_
   refine s_pu (pu_not rfl) ?_
   refine s_pu (pu_assign rfl) ?_
   refine swl_sub _ (sc0 0 rfl (sc0 3 rfl (sc0 7 rfl (sc0 25 rfl .nil)))) ?_
   refine swl_nil ?_
   refine then_n ?_
   refine swp_cond (b := _) rfl (fun h25 => ?_) (fun h25 => ?_)
   ·skip
    have h25' : knownS T.length C.length c = false := by simpa using h25
    rw [if_pos h25'] at hy
    refine swp_region ?_
    refine s_pu (pu_assign rfl) ?_
    refine swl_sub _ (sc0 0 rfl (sc0 3 rfl (sc0 8 rfl .nil))) ?_
    refine swl_nil ?_
    refine block_n ?_
    refine then_n ?_
    refine swp_seq ?_
    refine swp_seq ?_
    refine swp_region ?_
    refine s_pu (pu_move rfl) ?_
    refine s_pu (pu_neq rfl rfl) ?_
    refine swl_sub _ (sc0 0 rfl (sc0 3 rfl (sc0 8 rfl (sc0 38 rfl .nil)))) ?_
    refine swl_nil ?_
    refine then_n ?_
    refine swp_cond (b := _) rfl (fun h38 => ?_) (fun h38 => by cases h38)
    refine swp_seq ?_
    refine swp_region ?_
    refine s_pu (pu_move rfl) ?_
    refine s_pu (pu_assign rfl) ?_
    refine s_pu (pu_assign rfl) ?_
    refine swl_sub _ (sc0 4 rfl (sc0 5 rfl .nil)) ?_
    refine swl_nil ?_
    refine then_n ?_
    refine swp_ret ?_
    refine then_r ?_
    have ha : (⟨d, SW.pl ⟨q, .slice A1 T.length c1, .slice A2 C.length c2, T, C, dead⟩, dead⟩, 0, 9) = y := by rw [← hy]; exact (addR_err (x := ⟨d, SW.pl ⟨q, .slice A1 T.length c1, .slice A2 C.length c2, T, C, dead⟩, dead⟩) hdd (by decide)).symm
    subst ha
    exact done_ret [FSA q d, stH p ⟨q, .slice A1 T.length c1, .slice A2 C.length c2, T, C, dead⟩, ttA ⟨q, .slice A1 T.length c1, .slice A2 C.length c2, T, C, dead⟩, ccA ⟨q, .slice A1 T.length c1, .slice A2 C.length c2, T, C, dead⟩, ro μ] (.tmp rfl (.tmp rfl .nil)) ⟨⟨q, .slice A1 T.length c1, .slice A2 C.length c2, T, C, dead⟩, μ, ⟨Le.refl _, hW0, rfl, rfl, rfl, rfl⟩, rfl⟩ sp0
   ·skip
    have h25' : knownS T.length C.length c = true := by simpa using h25
    rw [if_neg (by rw [h25']; decide)] at hy
    refine swp_seq ?_
    refine swp_region ?_
    refine s_pu (pu_move rfl) ?_
    refine s_pu (pu_nilCheck rfl) ?_
    refine s_pu (pu_fieldAddr0 rfl) ?_
    refine s_rd (rd_load rfl rfl) ?_
    refine s_pu (pu_len rfl) ?_
    refine s_pu (pu_geq rfl rfl) ?_
    refine s_pu (pu_assign rfl) ?_
    refine swl_sub _ (sc0 0 rfl (sc0 3 rfl (sc0 7 rfl (sc0 30 rfl .nil)))) ?_
    refine swl_nil ?_
    refine then_n ?_
    refine swp_cond (b := _) rfl (fun h30 => ?_) (fun h30 => ?_)
    ·skip
     have h30' : 65536 ≤ C.length := by have := of_decide_eq_true h30; omega
     refine swp_region ?_
     refine s_pu (pu_assign rfl) ?_
     refine swl_sub _ (sc0 0 rfl (sc0 3 rfl (sc0 8 rfl .nil))) ?_
     refine swl_nil ?_
     refine block_n ?_
     refine then_n ?_
     refine swp_seq ?_
     refine swp_seq ?_
     refine swp_region ?_
     refine s_pu (pu_move rfl) ?_
     refine s_pu (pu_neq rfl rfl) ?_
     refine swl_sub _ (sc0 0 rfl (sc0 3 rfl (sc0 8 rfl (sc0 38 rfl .nil)))) ?_
     refine swl_nil ?_
     refine then_n ?_
     refine swp_cond (b := _) rfl (fun h38 => ?_) (fun h38 => by cases h38)
     refine swp_seq ?_
     refine swp_region ?_
     refine s_pu (pu_move rfl) ?_
     refine s_pu (pu_assign rfl) ?_
     refine s_pu (pu_assign rfl) ?_
     refine swl_sub _ (sc0 4 rfl (sc0 5 rfl .nil)) ?_
     refine swl_nil ?_
     refine then_n ?_
     refine swp_ret ?_
     refine then_r ?_
     have ha : (⟨d, SW.pl ⟨q, .slice A1 T.length c1, .slice A2 C.length c2, T, C, dead⟩, dead⟩, 0, 7) = y := by rw [← hy]; exact (addR_full (x := ⟨d, SW.pl ⟨q, .slice A1 T.length c1, .slice A2 C.length c2, T, C, dead⟩, dead⟩) hdd rfl h30').symm
     subst ha
     exact done_ret [FSA q d, stH p ⟨q, .slice A1 T.length c1, .slice A2 C.length c2, T, C, dead⟩, ttA ⟨q, .slice A1 T.length c1, .slice A2 C.length c2, T, C, dead⟩, ccA ⟨q, .slice A1 T.length c1, .slice A2 C.length c2, T, C, dead⟩, ro μ] (.tmp rfl (.tmp rfl .nil)) ⟨⟨q, .slice A1 T.length c1, .slice A2 C.length c2, T, C, dead⟩, μ, ⟨Le.refl _, hW0, rfl, rfl, rfl, rfl⟩, rfl⟩ sp0
    ·skip
     have h30' : C.length < 65536 := by have := of_decide_eq_false h30; omega
     have hbl := (checkC_ok h22').1
     refine swp_region ?_
     refine s_pu (pu_move rfl) ?_
     refine s_pu (pu_move rfl) ?_
     refine s_ef (ef_fn (write_spec p ⟨q, .slice A1 T.length c1, .slice A2 C.length c2, T, C, dead⟩ d hd (2, comV c) (by show 0 < 2; decide) (by show 2 < 256; decide) (by rw [comV_ok h22']; exact encC_len h22')) rfl rfl sp0) ?_
     rintro v21 L1 ⟨rfl, rfl⟩
     rw [comV_ok h22']
     refine swl_app ?_
     dsimp only
     refine s_pu (pu_assign rfl) ?_
     refine swl_sub _ (sc0 0 rfl (sc0 3 rfl (sc0 8 rfl .nil))) ?_
     refine swl_nil ?_
     refine block_n ?_
     refine then_n ?_
     refine swp_seq ?_
     refine swp_seq ?_
     refine swp_region ?_
     refine s_pu (pu_move rfl) ?_
     refine s_pu (pu_neq rfl rfl) ?_
     refine swl_sub _ (sc0 0 rfl (sc0 3 rfl (sc0 8 rfl (sc0 38 rfl .nil)))) ?_
     refine swl_nil ?_
     refine then_n ?_
     refine swp_cond (b := _) rfl (fun h38 => ?_) (fun h38 => ?_)
     ·skip
      refine swp_seq ?_
      refine swp_region ?_
      refine s_pu (pu_move rfl) ?_
      refine s_pu (pu_assign rfl) ?_
      refine s_pu (pu_assign rfl) ?_
      refine swl_sub _ (sc0 4 rfl (sc0 5 rfl .nil)) ?_
      refine swl_nil ?_
      refine then_n ?_
      refine swp_ret ?_
      refine then_r ?_
      have h38' : (writeD d (2, encC' c)).2 ≠ 0 := by simpa using h38
      have ha : (⟨(writeD d (2, encC' c)).1, SW.pl ⟨q, .slice A1 T.length c1, .slice A2 C.length c2, T, C, dead⟩, decide ((writeD d (2, encC' c)).2 = 8)⟩, 0, (writeD d (2, encC' c)).2) = y := by rw [← hy]; exact (addR_wr (x := ⟨d, SW.pl ⟨q, .slice A1 T.length c1, .slice A2 C.length c2, T, C, dead⟩, dead⟩) hdd rfl h30' h38').symm
      subst ha
      exact done_ret [FSA q (writeD d (2, encC' c)).1, stH p ⟨q, .slice A1 T.length c1, .slice A2 C.length c2, T, C, decide ((writeD d (2, encC' c)).2 = 8)⟩, ttA ⟨q, .slice A1 T.length c1, .slice A2 C.length c2, T, C, dead⟩, ccA ⟨q, .slice A1 T.length c1, .slice A2 C.length c2, T, C, dead⟩, ro μ] (.tmp rfl (.tmp rfl .nil)) ⟨⟨q, .slice A1 T.length c1, .slice A2 C.length c2, T, C, decide ((writeD d (2, encC' c)).2 = 8)⟩, μ, ⟨Le.refl _, SW.Ok.dead hW0 _, rfl, rfl, rfl, rfl⟩, rfl⟩ sp0
     ·skip
      have h38' : (writeD d (2, encC' c)).2 = 0 := by simpa using h38
      have ha : (⟨(writeD d (2, encC' c)).1, ((SW.pl ⟨q, .slice A1 T.length c1, .slice A2 C.length c2, T, C, dead⟩).1, (SW.pl ⟨q, .slice A1 T.length c1, .slice A2 C.length c2, T, C, dead⟩).2 ++ [c]), false⟩, ((C.length : Nat) : Int), 0) = y := by rw [← hy]; exact (addR_ok (x := ⟨d, SW.pl ⟨q, .slice A1 T.length c1, .slice A2 C.length c2, T, C, dead⟩, dead⟩) hdd rfl h30' h38').symm
      have hd8 : decide ((writeD d (2, encC' c)).2 = 8) = false := by rw [h38']; rfl
      rw [hd8]
      subst ha
      refine swp_skip ?_
      refine then_n ?_
      refine swp_seq ?_
      refine swp_draw [4, 6, 9] ([stH p ⟨q, .slice A1 T.length c1, .slice A2 C.length c2, T, C, false⟩, blk b3 25 [.slice A5 c.1.length c5, .int .i64 c.2]]) ([FSA q (writeD d (2, encC' c)).1, ro μ, ttA ⟨q, .slice A1 T.length c1, .slice A2 C.length c2, T, C, dead⟩, ccA ⟨q, .slice A1 T.length c1, .slice A2 C.length c2, T, C, dead⟩]) (Split.ent sp0) kr0 ?_
      refine d_pu 0 rfl (pu_move rfl) kr0 kr0 kr0 ?_
      refine d_pu 1 rfl (pu_move rfl) kr0 kr0 kr0 ?_
      refine d_pu 2 rfl (pu_nilCheck rfl) kr0 kr0 kr0 ?_
      refine d_pu 3 rfl (pu_fieldAddr0 rfl) kr0 kr0 kr0 ?_
      refine d_rd 4 rfl (rd_load rfl rfl) rfl kr0 kr0 kr0 ?_
      refine d_pu 5 rfl (pu_fieldAddr0 rfl) kr0 kr0 kr0 ?_
      refine d_rd 6 rfl (rd_load rfl rfl) rfl kr0 kr0 kr0 ?_
      refine d_pu 8 rfl (pu_fieldAddr0 rfl) kr0 kr0 kr0 ?_
      refine d_rd 9 rfl (rd_load rfl rfl) rfl kr0 kr0 kr0 ?_
      refine d_eft 7 rfl kr0 (ef_fn (cloneI_spec μ (.slice A5 c.1.length c5) c.1 hv om0) rfl rfl sp0) ?_
      rintro v47 L1 ⟨A3, c3, rfl, rfl⟩
      refine ⟨_, ent_appC (Split.ent sp0), ?_⟩
      refine d_pu 10 rfl (pu_bld (qs := [(0, _), (1, _)]) rfl) kr0 kr0 kr0 ?_
      refine d_eft 11 rfl kr0 (ef_bldS (qs := [(0, _)]) rfl rfl rfl) ?_
      intro b51
      refine ⟨_, Split.ent sp0, ?_⟩
      refine d_fint 12 rfl kr0 kr0 (ef_append_lit (l := C.length) (m := 1) rfl rfl sp0 (by simp only [maxLen]; omega) om0) ?_
      rintro v52 -
      refine swd_factf (fun m h => own_form h) fun ⟨A45, c45, hv45⟩ => ?_
      subst hv45
      refine d_pu 13 rfl (pu_nilCheck rfl) kr0 kr0 kr0 ?_
      refine d_pu 14 rfl (pu_fieldAddr0 rfl) kr0 kr0 kr0 ?_
      refine d_fin0f 15 rfl kr0 kr0 (ef_store rfl rfl rfl) ?_
      refine d_sub _ (sc0 0 rfl .nil) ?_
      refine d_nilf kr0 ?_
      refine then_n ?_
      refine swp_seq ?_
      refine swp_share_own (μ := μ) (v := .slice A3 c.1.length c3) (e := 3) (n := 1) sp0 fun μ' hle hrow => ?_
      refine swp_region ?_
      refine s_pu (pu_move rfl) ?_
      refine s_pu (pu_nilCheck rfl) ?_
      refine s_pu (pu_fieldAddr0 rfl) ?_
      refine s_rd (rd_load rfl rfl) ?_
      refine s_pu (pu_len rfl) ?_
      refine s_pu (pu_sub_as ((C.length : Nat) : Int) rfl rfl om0 om0 om0) ?_
      refine s_pu (pu_assign rfl) ?_
      refine s_pu (pu_assign rfl) ?_
      refine swl_sub _ (sc0 4 rfl (sc0 5 rfl .nil)) ?_
      refine swl_nil ?_
      refine then_n ?_
      refine swp_ret ?_
      refine done_ret [FSA q (writeD d (2, encC' c)).1, stH p ⟨q, .slice A1 T.length c1, .slice A45 (C.length + 1) c45, T, C ++ [(.slice A3 c.1.length c3, c)], false⟩, ttA ⟨q, .slice A1 T.length c1, .slice A2 C.length c2, T, C, dead⟩, own 25 2 (.slice A45 (C.length + 1) c45) (C.length + 1) (C.flatMap ccs ++ [.slice A3 c.1.length c3, .int .i64 c.2]), ro μ'] (.tmp rfl (.tmp rfl .nil)) ⟨⟨q, .slice A1 T.length c1, .slice A45 (C.length + 1) c45, T, C ++ [(.slice A3 c.1.length c3, c)], false⟩, μ', ⟨hle, SW.Ok.dead (Ok.addC hW0 hle hrow h30') false, rfl, ?_, rfl, rfl⟩, ?_⟩ sp0
      ·unfold SW.pl; rw [List.map_append]; rfl
      ·simp only [ccA, List.length_append, List.length_singleton, List.flatMap_append]; rfl
end SX
namespace SX
open Go Go.Proofs
def treeAt (ts : List (List En)) (n : Int) : List En × Int := if 0 ≤ n then match ts[n.toNat]? with | some t => (t, 0) | none => ([], 9) else ([], 9)
def comAt (cs : List Cm) (n : Int) : Cm × Int := if 0 ≤ n then match cs[n.toNat]? with | some c => (c, 0) | none => (([], 0), 9) else (([], 0), 9)
theorem treeAt_no {ts : List (List En)} {n : Int} (h : n < 0 ∨ (ts.length : Int) ≤ n) : treeAt ts n = ([], 9) := by
  unfold treeAt
  split
  · rw [List.getElem?_eq_none om0]
  · rfl
theorem comAt_no {cs : List Cm} {n : Int} (h : n < 0 ∨ (cs.length : Int) ≤ n) : comAt cs n = (([], 0), 9) := by
  unfold comAt
  split
  · rw [List.getElem?_eq_none om0]
  · rfl
theorem treeAt_at {ts : List (List En)} {k : Nat} {t : List En} (h : ts[k]? = some t) : treeAt ts (k : Nat) = (t, 0) := by
  unfold treeAt
  rw [if_pos (Int.natCast_nonneg k), Int.toNat_natCast, h]
theorem comAt_at {cs : List Cm} {k : Nat} {c : Cm} (h : cs[k]? = some c) : comAt cs (k : Nat) = (c, 0) := by
  unfold comAt
  rw [if_pos (Int.natCast_nonneg k), Int.toNat_natCast, h]
theorem trees_spec (p : Nat) (W : SW) (μ : PH) (hW : W.Ok μ) : Spec Tryz.prog 20 [pv p] [stH p W] (fun r L => r = .int .i64 (W.T.length : Nat) ∧ L = [stH p W]) := by
 obtain ⟨⟨A1, c1, e1⟩, ⟨A2, c2, e2⟩, _, _, hT, hC⟩ := hW
 obtain ⟨q, tv, cv, T, C, dead⟩ := W
 dsimp only at e1 e2 hT hC
 subst e1 e2
 refine Spec.of 10 Tryz.func20 rfl rfl rfl ?_
 refine swp_seq ?_
 refine swp_region ?_
 refine s_pu (pu_assign rfl) ?_
 refine swl_sub _ (sc0 0 rfl .nil) ?_
 refine swl_nil ?_
 refine then_n ?_
 refine swp_seq ?_
 refine swp_seq ?_
 refine swp_region ?_
 refine s_pu (pu_move rfl) ?_
 refine s_pu (pu_ptr_eq_nil rfl rfl) ?_
 refine swl_sub _ (sc0 0 rfl (sc0 4 rfl .nil)) ?_
 refine swl_nil ?_
 refine then_n ?_
 refine swp_cond (b := _) rfl (fun h4 => by cases h4) (fun h4 => ?_)
 refine swp_skip ?_
 refine then_n ?_
 refine swp_seq ?_
 refine swp_region ?_
 refine s_pu (pu_move rfl) ?_
 refine s_pu (pu_nilCheck rfl) ?_
 refine s_pu (pu_fieldAddr0 rfl) ?_
 refine s_rd (rd_load rfl rfl) ?_
 refine s_pu (pu_len rfl) ?_
 refine s_pu (pu_assign rfl) ?_
 refine swl_sub _ (sc0 2 rfl .nil) ?_
 refine swl_nil ?_
 refine then_n ?_
 refine swp_ret ?_
 exact done_ret [stH p ⟨q, .slice A1 T.length c1, .slice A2 C.length c2, T, C, dead⟩] (.tmp rfl .nil) ⟨rfl, rfl⟩ sp0
theorem coms_spec (p : Nat) (W : SW) (μ : PH) (hW : W.Ok μ) : Spec Tryz.prog 22 [pv p] [stH p W] (fun r L => r = .int .i64 (W.C.length : Nat) ∧ L = [stH p W]) := by
 obtain ⟨⟨A1, c1, e1⟩, ⟨A2, c2, e2⟩, _, _, hT, hC⟩ := hW
 obtain ⟨q, tv, cv, T, C, dead⟩ := W
 dsimp only at e1 e2 hT hC
 subst e1 e2
 refine Spec.of 10 Tryz.func22 rfl rfl rfl ?_
 refine swp_seq ?_
 refine swp_region ?_
 refine s_pu (pu_assign rfl) ?_
 refine swl_sub _ (sc0 0 rfl .nil) ?_
 refine swl_nil ?_
 refine then_n ?_
 refine swp_seq ?_
 refine swp_seq ?_
 refine swp_region ?_
 refine s_pu (pu_move rfl) ?_
 refine s_pu (pu_ptr_eq_nil rfl rfl) ?_
 refine swl_sub _ (sc0 0 rfl (sc0 4 rfl .nil)) ?_
 refine swl_nil ?_
 refine then_n ?_
 refine swp_cond (b := _) rfl (fun h4 => by cases h4) (fun h4 => ?_)
 refine swp_skip ?_
 refine then_n ?_
 refine swp_seq ?_
 refine swp_region ?_
 refine s_pu (pu_move rfl) ?_
 refine s_pu (pu_nilCheck rfl) ?_
 refine s_pu (pu_fieldAddr0 rfl) ?_
 refine s_rd (rd_load rfl rfl) ?_
 refine s_pu (pu_len rfl) ?_
 refine s_pu (pu_assign rfl) ?_
 refine swl_sub _ (sc0 2 rfl .nil) ?_
 refine swl_nil ?_
 refine then_n ?_
 refine swp_ret ?_
 exact done_ret [stH p ⟨q, .slice A1 T.length c1, .slice A2 C.length c2, T, C, dead⟩] (.tmp rfl .nil) ⟨rfl, rfl⟩ sp0
theorem dead_spec (p : Nat) (W : SW) : Spec Tryz.prog 26 [pv p] [stH p W] (fun r L => r = .bool W.dead ∧ L = [stH p W]) := by
 refine Spec.of 11 Tryz.func26 rfl rfl rfl ?_
 refine swp_seq ?_
 refine swp_region ?_
 refine s_pu (pu_assign rfl) ?_
 refine swl_sub _ (sc0 0 rfl .nil) ?_
 refine swl_nil ?_
 refine then_n ?_
 refine swp_seq ?_
 refine swp_region ?_
 refine s_pu (pu_move rfl) ?_
 refine s_pu (pu_ptr_ne_nil rfl rfl) ?_
 refine s_pu (pu_move rfl) ?_
 refine s_split 5 rfl (fun h5 => ?_) (fun h5 => by cases h5)
 refine s_on rfl rfl ?_
 refine s_pu (pu_move rfl) ?_
 refine s_on rfl rfl ?_
 refine s_pu (pu_nilCheck rfl) ?_
 refine s_on rfl rfl ?_
 refine s_pu (pu_fieldAddr0 rfl) ?_
 refine s_on rfl rfl ?_
 refine s_rd (rd_load rfl rfl) ?_
 refine s_pu (pu_pick_t rfl rfl) ?_
 refine s_pu (pu_assign rfl) ?_
 refine swl_sub _ (sc0 2 rfl .nil) ?_
 refine swl_nil ?_
 refine then_n ?_
 refine swp_ret ?_
 exact done_ret [stH p W] (.tmp rfl .nil) ⟨rfl, rfl⟩ sp0
theorem tcs_get {T : List (Value × List En)} {k : Nat} {x : Value × List En} (h : T[k]? = some x) : (T.flatMap tcs)[k * 1]? = some x.1 := by
  have := flat_get (f := tcs) (k := 1) (fun x => (rfl : (tcs x).length = 1)) T [] k x h 0 x.1 rfl
  rwa [List.append_nil, Nat.add_zero] at this
theorem ccs_get {C : List (Value × Cm)} {k : Nat} {x : Value × Cm} (h : C[k]? = some x) : (C.flatMap ccs)[k * 2]? = some x.1 ∧ (C.flatMap ccs)[k * 2 + 1]? = some (.int .i64 x.2.2) := by
  have h0 := flat_get (f := ccs) (k := 2) (fun x => (rfl : (ccs x).length = 2)) C [] k x h 0 x.1 rfl
  have h1 := flat_get (f := ccs) (k := 2) (fun x => (rfl : (ccs x).length = 2)) C [] k x h 1 (.int .i64 x.2.2) rfl
  rw [List.append_nil] at h0 h1
  exact ⟨h0, h1⟩
set_option maxHeartbeats 2000000 in
theorem tree_spec (p : Nat) (W : SW) (μ : PH) (hW : W.Ok μ) (hlt : ∀ x ∈ W.T, x.2.length ≤ 1048576) (n : Int) : Spec Tryz.prog 21 [pv p, .int .i64 n] [stH p W, ttA W, ro μ] (fun r L => ∃ A c, r = .tuple #[.slice A (treeAt W.pl.1 n).1.length c, .int .i64 (treeAt W.pl.1 n).2] ∧ L = [own 47 2 (.slice A (treeAt W.pl.1 n).1.length c) (treeAt W.pl.1 n).1.length (ens (treeAt W.pl.1 n).1), stH p W, ttA W, ro μ]) := by
 have hW0 := hW
 obtain ⟨⟨A1, c1, e1⟩, ⟨A2, c2, e2⟩, htr, hcr, hT, hC⟩ := hW
 obtain ⟨q, tv, cv, T, C, dead⟩ := W
 dsimp only at e1 e2 htr hcr hT hC hlt
 subst e1 e2
 have hlen : (SW.pl ⟨q, .slice A1 T.length c1, .slice A2 C.length c2, T, C, dead⟩).1.length = T.length := List.length_map _
 refine Spec.of 29 Tryz.func21 rfl rfl rfl ?_
 refine swp_seq ?_
 refine swp_region ?_
 refine s_pu (pu_assign rfl) ?_
 refine s_pu (pu_assign rfl) ?_
 refine swl_sub _ (sc0 0 rfl (sc0 1 rfl .nil)) ?_
 refine swl_nil ?_
 refine then_n ?_
 refine swp_seq ?_
 refine swp_block ?_
 refine swp_seq ?_
 refine swp_region ?_
 refine s_pu (pu_move rfl) ?_
 refine s_pu (pu_ptr_eq_nil rfl rfl) ?_
 refine s_pu (pu_assign rfl) ?_
 refine swl_sub _ (sc0 0 rfl (sc0 1 rfl (sc0 6 rfl .nil))) ?_
 refine swl_nil ?_
 refine then_n ?_
 refine swp_cond (b := _) rfl (fun h6 => by cases h6) (fun h6 => ?_)
 refine swp_seq ?_
 refine swp_region ?_
 refine s_pu (pu_move rfl) ?_
 refine s_pu (pu_lss rfl rfl) ?_
 refine s_pu (pu_move rfl) ?_
 refine s_split 12 rfl (fun h12 => ?_) (fun h12 => ?_)
 ·skip
  have h12' : n < 0 := of_decide_eq_true h12
  rw [treeAt_no (.inl h12')]
  refine s_off rfl rfl rfl ?_
  refine s_off rfl rfl rfl ?_
  refine s_off rfl rfl rfl ?_
  refine s_off rfl rfl rfl ?_
  refine s_off rfl rfl rfl ?_
  refine s_off rfl rfl rfl ?_
  refine s_off rfl rfl rfl ?_
  refine s_pu (pu_pick_t rfl rfl) ?_
  refine s_pu (pu_assign rfl) ?_
  refine swl_sub _ (sc0 0 rfl (sc0 1 rfl (sc0 9 rfl .nil))) ?_
  refine swl_nil ?_
  refine then_n ?_
  refine swp_cond (b := _) rfl (fun h9 => ?_) (fun h9 => by cases h9)
  refine swp_seq ?_
  refine swp_region ?_
  refine s_pu (pu_assign rfl) ?_
  refine s_pu (pu_assign rfl) ?_
  refine swl_sub _ (sc0 4 rfl (sc0 5 rfl .nil)) ?_
  refine swl_nil ?_
  refine then_n ?_
  refine swp_ret ?_
  refine block_r ?_
  refine then_r ?_
  exact done_retE [own 47 2 (.slice none 0 0) 0 [], stH p ⟨q, .slice A1 T.length c1, .slice A2 C.length c2, T, C, dead⟩, ttA ⟨q, .slice A1 T.length c1, .slice A2 C.length c2, T, C, dead⟩, ro μ] (.tmp rfl (.tmp rfl .nil)) ⟨none, 0, rfl, rfl⟩ own_nil_ent
 ·skip
  have h12' : 0 ≤ n := by have := of_decide_eq_false h12; omega
  refine s_on rfl rfl ?_
  refine s_pu (pu_move rfl) ?_
  refine s_on rfl rfl ?_
  refine s_pu (pu_move rfl) ?_
  refine s_on rfl rfl ?_
  refine s_pu (pu_nilCheck rfl) ?_
  refine s_on rfl rfl ?_
  refine s_pu (pu_fieldAddr0 rfl) ?_
  refine s_on rfl rfl ?_
  refine s_rd (rd_load rfl rfl) ?_
  refine s_on rfl rfl ?_
  refine s_pu (pu_len rfl) ?_
  refine s_on rfl rfl ?_
  refine s_pu (pu_geq rfl rfl) ?_
  refine s_pu (pu_pick_f rfl rfl) ?_
  refine s_pu (pu_assign rfl) ?_
  refine swl_sub _ (sc0 0 rfl (sc0 1 rfl (sc0 9 rfl .nil))) ?_
  refine swl_nil ?_
  refine then_n ?_
  refine swp_cond (b := _) rfl (fun h9 => ?_) (fun h9 => ?_)
  ·skip
   refine swp_seq ?_
   refine swp_region ?_
   refine s_pu (pu_assign rfl) ?_
   refine s_pu (pu_assign rfl) ?_
   refine swl_sub _ (sc0 4 rfl (sc0 5 rfl .nil)) ?_
   refine swl_nil ?_
   refine then_n ?_
   refine swp_ret ?_
   refine block_r ?_
   refine then_r ?_
   have h9' : (T.length : Int) ≤ n := of_decide_eq_true h9
   rw [treeAt_no (.inr (by rw [hlen]; exact h9'))]
   exact done_retE [own 47 2 (.slice none 0 0) 0 [], stH p ⟨q, .slice A1 T.length c1, .slice A2 C.length c2, T, C, dead⟩, ttA ⟨q, .slice A1 T.length c1, .slice A2 C.length c2, T, C, dead⟩, ro μ] (.tmp rfl (.tmp rfl .nil)) ⟨none, 0, rfl, rfl⟩ own_nil_ent
  ·skip
   have h9' : ¬ (T.length : Int) ≤ n := of_decide_eq_false h9
   obtain ⟨k, rfl⟩ : ∃ k : Nat, n = (k : Int) := ⟨n.toNat, by omega⟩
   have hk : k < T.length := by omega
   obtain ⟨x, hx⟩ : ∃ x, T[k]? = some x := ⟨_, List.getElem?_eq_getElem hk⟩
   have hxt : (SW.pl ⟨q, .slice A1 T.length c1, .slice A2 C.length c2, T, C, dead⟩).1[k]? = some x.2 := by show (T.map (·.2))[k]? = _; rw [List.getElem?_map, hx]; rfl
   rw [treeAt_at hxt]
   have hxm := List.mem_of_getElem? hx
   have hxr := htr x hxm
   refine swp_fact (fun m h => own_shape (e := 22) (n := 1) (v := .slice A1 T.length c1) (l := T.length) (xs := T.flatMap tcs) tk0 h) fun hs => ?_
   obtain ⟨b, rfl⟩ : ∃ b, A1 = some ⟨b, 0, none⟩ := by
    rcases hs with ⟨_, h⟩ | ⟨b, cap, h, _⟩
    ·omega
    ·injection h with h1; exact ⟨b, h1⟩
   refine swp_skip ?_
   refine block_n ?_
   refine then_n ?_
   refine swp_seq ?_
   refine swp_region ?_
   refine s_pu (pu_move rfl) ?_
   refine s_pu (pu_nilCheck rfl) ?_
   refine s_pu (pu_fieldAddr0 rfl) ?_
   refine s_rd (rd_load rfl rfl) ?_
   refine s_pu (pu_move rfl) ?_
   refine s_pu (pu_indexAddr (0 + k * 1) rfl rfl om0 om0 (by rw [Int.toNat_natCast])) ?_
   refine s_rd (rd_of_ld rfl (by rw [Nat.zero_add]; exact ld_ownN (e := 22) (n := 1) tk0 (tcs_get hx))) ?_
   refine s_ef (ef_fn (cloneT_spec μ x.1 x.2 hxr (hlt x hxm)) rfl rfl sp0) ?_
   rintro v28 L1 ⟨A3, c3, rfl, rfl⟩
   refine swl_app ?_
   refine s_pu (pu_assign rfl) ?_
   refine s_pu (pu_assign rfl) ?_
   refine swl_sub _ (sc0 4 rfl (sc0 5 rfl .nil)) ?_
   refine swl_nil ?_
   refine then_n ?_
   refine swp_ret ?_
   exact done_ret [own 47 2 (.slice A3 x.2.length c3) x.2.length (ens x.2), stH p ⟨q, .slice (some ⟨b, 0, none⟩) T.length c1, .slice A2 C.length c2, T, C, dead⟩, ttA ⟨q, .slice (some ⟨b, 0, none⟩) T.length c1, .slice A2 C.length c2, T, C, dead⟩, ro μ] (.tmp rfl (.tmp rfl .nil)) ⟨A3, c3, rfl, rfl⟩ sp0
end SX
namespace SX
open Go Go.Proofs
theorem ccs_row {C : List (Value × Cm)} {k : Nat} {x : Value × Cm} (h : C[k]? = some x) : ∀ j v, [x.1, .int .i64 x.2.2][j]? = some v → (C.flatMap ccs)[0 + k * 2 + j]? = some v := fun j v hv => by
  obtain ⟨h0, h1⟩ := ccs_get h
  rw [Nat.zero_add]
  match j, hv with
  | 0, hv => cases hv; exact h0
  | 1, hv => cases hv; exact h1
  | j + 2, hv => cases hv
set_option maxHeartbeats 2000000 in
theorem commit_spec (p : Nat) (W : SW) (μ : PH) (hW : W.Ok μ) (hlt : ∀ x ∈ W.C, x.2.1.length ≤ 1048576) (n : Int) : Spec Tryz.prog 23 [pv p, .int .i64 n] [stH p W, ccA W, ro μ] (fun r L => ∃ A c, r = .tuple #[cmV (.slice A (comAt W.pl.2 n).1.1.length c) (comAt W.pl.2 n).1.2, .int .i64 (comAt W.pl.2 n).2] ∧ L = [own 3 1 (.slice A (comAt W.pl.2 n).1.1.length c) (comAt W.pl.2 n).1.1.length ((comAt W.pl.2 n).1.1.flatMap (icsk .i64)), stH p W, ccA W, ro μ]) := by
 have hW0 := hW
 obtain ⟨⟨A1, c1, e1⟩, ⟨A2, c2, e2⟩, htr, hcr, hT, hC⟩ := hW
 obtain ⟨q, tv, cv, T, C, dead⟩ := W
 dsimp only at e1 e2 htr hcr hT hC hlt
 subst e1 e2
 have hlen : (SW.pl ⟨q, .slice A1 T.length c1, .slice A2 C.length c2, T, C, dead⟩).2.length = C.length := List.length_map _
 refine Spec.of 37 Tryz.func23 rfl rfl rfl ?_
 refine swp_seq ?_
 refine swp_region ?_
 refine s_ef (ef_alloc) ?_
 intro b4
 refine s_pu (pu_assign rfl) ?_
 refine swl_sub _ (sc0 0 rfl (sc0 1 rfl (sc0 4 rfl .nil))) ?_
 refine swl_nil ?_
 refine then_n ?_
 refine swp_seq ?_
 refine swp_block ?_
 refine swp_seq ?_
 refine swp_region ?_
 refine s_pu (pu_move rfl) ?_
 refine s_pu (pu_ptr_eq_nil rfl rfl) ?_
 refine s_pu (pu_assign rfl) ?_
 refine swl_sub _ (sc0 0 rfl (sc0 1 rfl (sc0 4 rfl (sc0 7 rfl .nil)))) ?_
 refine swl_nil ?_
 refine then_n ?_
 refine swp_cond (b := _) rfl (fun h7 => by cases h7) (fun h7 => ?_)
 refine swp_seq ?_
 refine swp_region ?_
 refine s_pu (pu_move rfl) ?_
 refine s_pu (pu_lss rfl rfl) ?_
 refine s_pu (pu_move rfl) ?_
 refine s_split 14 rfl (fun h14 => ?_) (fun h14 => ?_)
 ·skip
  have h12' : n < 0 := of_decide_eq_true h14
  rw [comAt_no (.inl h12')]
  refine s_off rfl rfl rfl ?_
  refine s_off rfl rfl rfl ?_
  refine s_off rfl rfl rfl ?_
  refine s_off rfl rfl rfl ?_
  refine s_off rfl rfl rfl ?_
  refine s_off rfl rfl rfl ?_
  refine s_off rfl rfl rfl ?_
  refine s_pu (pu_pick_t rfl rfl) ?_
  refine s_pu (pu_assign rfl) ?_
  refine swl_sub _ (sc0 0 rfl (sc0 1 rfl (sc0 4 rfl (sc0 11 rfl .nil)))) ?_
  refine swl_nil ?_
  refine then_n ?_
  refine swp_cond (b := _) rfl (fun h11 => ?_) (fun h11 => by cases h11)
  refine swp_seq ?_
  refine swp_region ?_
  refine s_pu (pu_bld (qs := []) rfl) ?_
  refine s_ef0 (ef_storeA rfl rfl rfl rfl) ?_
  refine s_pu (pu_assign rfl) ?_
  refine swl_sub _ (sc0 4 rfl (sc0 5 rfl .nil)) ?_
  refine swl_nil ?_
  refine then_n ?_
  refine swp_ret ?_
  refine block_r ?_
  refine then_r ?_
  exact done_retE [own 3 1 (.slice none 0 0) 0 [], stH p ⟨q, .slice A1 T.length c1, .slice A2 C.length c2, T, C, dead⟩, ccA ⟨q, .slice A1 T.length c1, .slice A2 C.length c2, T, C, dead⟩, ro μ] (.cell rfl (ld_whole rfl) (.tmp rfl .nil)) ⟨none, 0, rfl, rfl⟩ ((Split.ent' (K := [stH p ⟨q, .slice A1 T.length c1, .slice A2 C.length c2, T, C, dead⟩, ccA ⟨q, .slice A1 T.length c1, .slice A2 C.length c2, T, C, dead⟩, ro μ]) sp0).trans own_nil_ent)
 ·skip
  have h12' : 0 ≤ n := by have := of_decide_eq_false h14; omega
  refine s_on rfl rfl ?_
  refine s_pu (pu_move rfl) ?_
  refine s_on rfl rfl ?_
  refine s_pu (pu_move rfl) ?_
  refine s_on rfl rfl ?_
  refine s_pu (pu_nilCheck rfl) ?_
  refine s_on rfl rfl ?_
  refine s_pu (pu_fieldAddr0 rfl) ?_
  refine s_on rfl rfl ?_
  refine s_rd (rd_load rfl rfl) ?_
  refine s_on rfl rfl ?_
  refine s_pu (pu_len rfl) ?_
  refine s_on rfl rfl ?_
  refine s_pu (pu_geq rfl rfl) ?_
  refine s_pu (pu_pick_f rfl rfl) ?_
  refine s_pu (pu_assign rfl) ?_
  refine swl_sub _ (sc0 0 rfl (sc0 1 rfl (sc0 4 rfl (sc0 11 rfl .nil)))) ?_
  refine swl_nil ?_
  refine then_n ?_
  refine swp_cond (b := _) rfl (fun h11 => ?_) (fun h11 => ?_)
  ·skip
   refine swp_seq ?_
   refine swp_region ?_
   refine s_pu (pu_bld (qs := []) rfl) ?_
   refine s_ef0 (ef_storeA rfl rfl rfl rfl) ?_
   refine s_pu (pu_assign rfl) ?_
   refine swl_sub _ (sc0 4 rfl (sc0 5 rfl .nil)) ?_
   refine swl_nil ?_
   refine then_n ?_
   refine swp_ret ?_
   refine block_r ?_
   refine then_r ?_
   have h9' : (C.length : Int) ≤ n := of_decide_eq_true h11
   rw [comAt_no (.inr (by rw [hlen]; exact h9'))]
   exact done_retE [own 3 1 (.slice none 0 0) 0 [], stH p ⟨q, .slice A1 T.length c1, .slice A2 C.length c2, T, C, dead⟩, ccA ⟨q, .slice A1 T.length c1, .slice A2 C.length c2, T, C, dead⟩, ro μ] (.cell rfl (ld_whole rfl) (.tmp rfl .nil)) ⟨none, 0, rfl, rfl⟩ ((Split.ent' (K := [stH p ⟨q, .slice A1 T.length c1, .slice A2 C.length c2, T, C, dead⟩, ccA ⟨q, .slice A1 T.length c1, .slice A2 C.length c2, T, C, dead⟩, ro μ]) sp0).trans own_nil_ent)
  ·skip
   have h9' : ¬ (C.length : Int) ≤ n := of_decide_eq_false h11
   obtain ⟨k, rfl⟩ : ∃ k : Nat, n = (k : Int) := ⟨n.toNat, by omega⟩
   have hk : k < C.length := by omega
   obtain ⟨x, hx⟩ : ∃ x, C[k]? = some x := ⟨_, List.getElem?_eq_getElem hk⟩
   have hxt : (SW.pl ⟨q, .slice A1 T.length c1, .slice A2 C.length c2, T, C, dead⟩).2[k]? = some x.2 := by show (C.map (·.2))[k]? = _; rw [List.getElem?_map, hx]; rfl
   rw [comAt_at hxt]
   have hxm := List.mem_of_getElem? hx
   have hxr := hcr x hxm
   obtain ⟨A6, c6, hx1⟩ := hxr.sl
   have hrow := ccs_row hx
   rw [hx1] at hrow hxr
   refine swp_fact (fun m h => own_shape (e := 25) (n := 2) (v := .slice A2 C.length c2) (l := C.length) (xs := C.flatMap ccs) tk0 h) fun hs => ?_
   obtain ⟨b, rfl⟩ : ∃ b, A2 = some ⟨b, 0, none⟩ := by
    rcases hs with ⟨_, h⟩ | ⟨b, cap, h, _⟩
    ·omega
    ·injection h with h1; exact ⟨b, h1⟩
   refine swp_skip ?_
   refine block_n ?_
   refine then_n ?_
   refine swp_seq ?_
   refine swp_region ?_
   refine s_pu (pu_move rfl) ?_
   refine s_pu (pu_nilCheck rfl) ?_
   refine s_pu (pu_fieldAddr0 rfl) ?_
   refine s_rd (rd_load rfl rfl) ?_
   refine s_pu (pu_move rfl) ?_
   refine s_pu (pu_indexAddr (0 + k * 2) rfl rfl om0 om0 (by rw [Int.toNat_natCast])) ?_
   refine s_rd (rd_of_ld rfl (ld_ownA (e := 25) (n := 2) (vs := [.slice A6 x.2.1.length c6, .int .i64 x.2.2]) tk0 rfl hrow)) ?_
   refine s_ef (ef_alloc) ?_
   intro b6
   refine s_ef0 (ef_storeA rfl rfl rfl rfl) ?_
   refine swl_sub _ (sc0 4 rfl (sc0 6 rfl .nil)) ?_
   refine swl_nil ?_
   refine then_n ?_
   refine swp_seq ?_
   refine swp_draw [1, 4] ([blk b6 25 [.slice A6 x.2.1.length c6, .int .i64 x.2.2]]) ([blk b4 25 [.slice none 0 0, .int .i64 0], stH p ⟨q, .slice A1 T.length c1, .slice (some ⟨b, 0, none⟩) C.length c2, T, C, dead⟩, ccA ⟨q, .slice A1 T.length c1, .slice (some ⟨b, 0, none⟩) C.length c2, T, C, dead⟩, ro μ]) (Split.ent sp0) kr0 ?_
   refine d_pu 0 rfl (pu_fieldAddr0 rfl) kr0 kr0 kr0 ?_
   refine d_rd 1 rfl (rd_load rfl rfl) rfl kr0 kr0 kr0 ?_
   refine d_pu 3 rfl (pu_fieldAddr0 rfl) kr0 kr0 kr0 ?_
   refine d_rd 4 rfl (rd_load rfl rfl) rfl kr0 kr0 kr0 ?_
   refine d_eft 2 rfl kr0 (ef_fn (cloneI_spec μ (.slice A6 x.2.1.length c6) x.2.1 hxr (hlt x hxm)) rfl rfl sp0) ?_
   rintro v33 L1 ⟨A3, c3, rfl, rfl⟩
   refine ⟨_, ent_appC (Split.ent sp0), ?_⟩
   refine d_pu 5 rfl (pu_bld (qs := [(0, _), (1, _)]) rfl) kr0 kr0 kr0 ?_
   refine d_fin0t 6 rfl kr0 kr0 (ef_storeA rfl rfl rfl rfl) ?_
   refine d_pu 7 rfl (pu_assign rfl) kr0 kr0 kr0 ?_
   refine d_sub _ (sc0 4 rfl (sc0 5 rfl .nil)) ?_
   refine d_nilf kr0 ?_
   refine then_n ?_
   refine swp_ret ?_
   exact done_ret [own 3 1 (.slice A3 x.2.1.length c3) x.2.1.length (x.2.1.flatMap (icsk .i64)), stH p ⟨q, .slice A1 T.length c1, .slice (some ⟨b, 0, none⟩) C.length c2, T, C, dead⟩, ccA ⟨q, .slice A1 T.length c1, .slice (some ⟨b, 0, none⟩) C.length c2, T, C, dead⟩, ro μ] (.cell rfl (ld_whole rfl) (.tmp rfl .nil)) ⟨A3, c3, rfl, rfl⟩ sp0
/-- commits' parents -/
abbrev parS (s : St2) : List (List Int) := s.2.map (·.1)
set_option maxHeartbeats 2000000 in
theorem graph_spec (p : Nat) (W : SW) (μ : PH) (hW : W.Ok μ) (hlt : ∀ x ∈ W.C, x.2.1.length ≤ 1048576) : Spec Tryz.prog 19 [pv p] [stH p W, ccA W, ro μ] (fun r L => ∃ μ' G, Le μ μ' ∧ Graph μ' r G ∧ nums G = parS W.pl ∧ L = [stH p W, ccA W, ro μ']) := by
 have hW0 := hW
 obtain ⟨⟨A1, c1, e1⟩, ⟨A2, c2, e2⟩, htr, hcr, hT, hC⟩ := hW
 obtain ⟨q, tv, cv, T, C, dead⟩ := W
 dsimp only at e1 e2 htr hcr hT hC hlt
 subst e1 e2
 refine Spec.of 24 Tryz.func19 rfl rfl rfl ?_
 refine swp_seq ?_
 refine swp_region ?_
 refine s_pu (pu_assign rfl) ?_
 refine swl_sub _ (sc0 0 rfl .nil) ?_
 refine swl_nil ?_
 refine then_n ?_
 refine swp_seq ?_
 refine swp_region ?_
 refine s_pu (pu_assign rfl) ?_
 refine swl_sub _ (sc0 0 rfl (sc0 3 rfl .nil)) ?_
 refine swl_nil ?_
 refine then_n ?_
 refine swp_seq ?_
 refine swp_seq ?_
 refine swp_region ?_
 refine s_pu (pu_move rfl) ?_
 refine s_ef (ef_fn (coms_spec p ⟨q, .slice A1 T.length c1, .slice A2 C.length c2, T, C, dead⟩ μ hW0) rfl rfl sp0) ?_
 rintro v6 L1 ⟨rfl, rfl⟩
 refine swl_app ?_
 refine s_pu (pu_move rfl) ?_
 refine swl_sub _ (sc0 0 rfl (sc0 3 rfl (sc0 6 rfl (sc0 7 rfl .nil)))) ?_
 refine swl_nil ?_
 refine then_n ?_
 refine swp_block ?_
 refine swp_ent (own_nil_ent (e := 23) (n := 1)) ?_
 refine swp_loop (ι := Nat × Value × List (Value × List Int) × PH) (fun k env L => Sub env [(0, pv p), (3, k.2.1), (6, .int .i64 (C.length : Nat)), (7, .int .i64 (k.1 : Nat))] ∧ Ent L [own 23 1 k.2.1 k.1 (k.2.2.1.flatMap gcs), stH p ⟨q, .slice A1 T.length c1, .slice A2 C.length c2, T, C, dead⟩, ccA ⟨q, .slice A1 T.length c1, .slice A2 C.length c2, T, C, dead⟩, ro k.2.2.2] ∧ k.1 ≤ C.length ∧ Le μ k.2.2.2 ∧ nums k.2.2.1 = ((C.take k.1).map (·.2)).map (·.1) ∧ (∀ x ∈ k.2.2.1, Row k.2.2.2 x.1 1 x.2.length (x.2.flatMap (icsk .i64)))) (fun k => C.length - k.1) (0, .slice none 0 0, [], μ) ⟨⟨rfl, rfl, rfl, rfl, trivial⟩, by show Ent _ [own 23 1 (.slice none 0 0) 0 [], stH p ⟨q, .slice A1 T.length c1, .slice A2 C.length c2, T, C, dead⟩, ccA ⟨q, .slice A1 T.length c1, .slice A2 C.length c2, T, C, dead⟩, ro μ]; exact Split.ent' sp0, Nat.zero_le _, Le.refl _, rfl, fun x hx => (by cases hx)⟩ ?_
 rintro ⟨k, v3, Gk, μk⟩ env L ⟨hsub, hE, hk, hle, hnk, hrk⟩
 dsimp only at hsub hE hk hle hnk hrk ⊢
 refine swp_sub _ hsub ?_
 refine swp_ent hE ?_
 clear hsub hE env L
 refine swp_seq ?_
 refine swp_region ?_
 refine s_pu (pu_lss rfl rfl) ?_
 refine swl_sub _ (sc0 0 rfl (sc0 3 rfl (sc0 6 rfl (sc0 7 rfl (sc0 8 rfl .nil))))) ?_
 refine swl_nil ?_
 refine then_n ?_
 refine swp_seq ?_
 refine swp_cond (b := _) rfl (fun h8 => ?_) (fun h8 => ?_)
 ·skip
  have h8' : k < C.length := by have := of_decide_eq_true h8; omega
  obtain ⟨x, hx⟩ : ∃ x, C[k]? = some x := ⟨_, List.getElem?_eq_getElem h8'⟩
  have hxm := List.mem_of_getElem? hx
  have hxr := hcr x hxm
  have hx0 := (ccs_get hx).1
  refine swp_fact (fun m h => own_shape (e := 25) (n := 2) (v := .slice A2 C.length c2) (l := C.length) (xs := C.flatMap ccs) tk0 h) fun hs => ?_
  obtain ⟨b, hA2⟩ : ∃ b, A2 = some ⟨b, 0, none⟩ := by
   rcases hs with ⟨_, h⟩ | ⟨b, cap, h, _⟩
   ·omega
   ·injection h with h1; exact ⟨b, h1⟩
  rw [hA2]
  refine swp_skip ?_
  refine then_n ?_
  refine swp_seq ?_
  refine swp_block ?_
  refine swp_seq ?_
  refine swp_region ?_
  refine s_pu (pu_move rfl) ?_
  refine s_pu (pu_assign rfl) ?_
  refine swl_sub _ (sc0 0 rfl (sc0 3 rfl (sc0 4 rfl (sc0 6 rfl (sc0 7 rfl .nil))))) ?_
  refine swl_nil ?_
  refine then_n ?_
  refine swp_region ?_
  refine s_pu (pu_move rfl) ?_
  refine s_pu (pu_move rfl) ?_
  refine s_pu (pu_nilCheck rfl) ?_
  refine s_pu (pu_fieldAddr0 rfl) ?_
  refine s_rd (rd_load rfl rfl) ?_
  refine s_pu (pu_move rfl) ?_
  refine s_pu (pu_indexAddr (0 + k * 2) rfl rfl om0 om0 (by rw [Int.toNat_natCast])) ?_
  refine s_pu (pu_fieldAddr rfl) ?_
  refine s_rd (rd_of_ld rfl (by rw [Nat.zero_add]; exact ld_ownN (e := 25) (n := 2) tk0 hx0)) ?_
  refine s_ef (ef_fn (cloneI_spec μk x.1 x.2.1 (hxr.le hle) (hlt x hxm)) rfl rfl sp0) ?_
  rintro v19 L1 ⟨A3, c3, rfl, rfl⟩
  refine swl_app ?_
  refine s_ef (ef_bldS (qs := [(0, _)]) rfl rfl rfl) ?_
  intro b20
  refine s_ef (ef_append_lit (l := k) (m := 1) rfl rfl sp0 (by simp only [maxLen]; omega) om0) ?_
  rintro v21 -
  skip
  refine s_pu (pu_assign rfl) ?_
  refine swl_sub _ (sc0 0 rfl (sc0 3 rfl (sc0 6 rfl (sc0 7 rfl .nil)))) ?_
  rw [← hA2]
  refine swl_share_own (μ := μk) (v := .slice A3 x.2.1.length c3) (e := 3) (n := 1) sp0 fun μ' hle' hrow' => ?_
  refine swl_nil ?_
  refine block_n ?_
  refine then_n ?_
  refine swp_region ?_
  refine s_pu (pu_add_as ((k + 1 : Nat) : Int) rfl rfl om0 om0 om0) ?_
  refine s_pu (pu_move rfl) ?_
  refine swl_sub _ (sc0 0 rfl (sc0 3 rfl (sc0 6 rfl (sc0 7 rfl .nil)))) ?_
  refine swl_nil ?_
  refine then_n ⟨(k + 1, v21, Gk ++ [(.slice A3 x.2.1.length c3, x.2.1)], μ'), ⟨⟨rfl, rfl, rfl, rfl, trivial⟩, ?_, h8', hle.trans hle', ?_, fun y hy => ?_⟩, by show C.length - (k + 1) < C.length - k; omega⟩
  ·show Ent _ [own 23 1 v21 (k + 1) ((Gk ++ [(Value.slice A3 x.2.1.length c3, x.2.1)]).flatMap gcs), stH p ⟨q, .slice A1 T.length c1, .slice A2 C.length c2, T, C, dead⟩, ccA ⟨q, .slice A1 T.length c1, .slice A2 C.length c2, T, C, dead⟩, ro μ']
   rw [show (Gk ++ [(Value.slice A3 x.2.1.length c3, x.2.1)]).flatMap gcs = Gk.flatMap gcs ++ [Value.slice A3 x.2.1.length c3] by rw [List.flatMap_append]; rfl]
   exact Split.ent' sp0
  ·show List.map (·.2) (Gk ++ [((_ : Value), x.2.1)]) = ((C.take (k + 1)).map (·.2)).map (·.1)
   rw [List.map_append, List.take_add_one, hx, List.map_append, List.map_append, ← hnk]; rfl
  ·rcases List.mem_append.1 hy with hy | hy
   ·exact (hrk y hy).le hle'
   ·obtain rfl : y = (Value.slice A3 x.2.1.length c3, x.2.1) := by simpa using hy
    exact hrow'
 ·skip
  have h8' := of_decide_eq_false h8
  obtain rfl : k = C.length := by omega
  rw [List.take_length] at hnk
  refine swp_exit ?_
  refine then_x ?_
  refine then_x ?_
  refine block_hit rfl ?_
  refine then_n ?_
  refine swp_seq ?_
  refine swp_share_own (μ := μk) (v := v3) (e := 23) (n := 1) sp0 fun μ' hle' hrow' => ?_
  refine swp_region ?_
  refine s_pu (pu_move rfl) ?_
  refine s_pu (pu_assign rfl) ?_
  refine swl_sub _ (sc0 2 rfl .nil) ?_
  refine swl_nil ?_
  refine then_n ?_
  refine swp_ret ?_
  have hGl : C.length = Gk.length := by
   have := congrArg List.length hnk
   simp only [nums, List.length_map] at this
   exact this.symm
  rw [hGl] at hrow'
  exact done_ret [stH p ⟨q, .slice A1 T.length c1, .slice A2 C.length c2, T, C, dead⟩, ccA ⟨q, .slice A1 T.length c1, .slice A2 C.length c2, T, C, dead⟩, ro μ'] (.tmp rfl .nil) ⟨μ', Gk, hle.trans hle', ⟨hrow', fun x hx => (hrk x hx).le hle'⟩, hnk, rfl⟩ sp0
end SX
namespace SX
open Go Go.Proofs
theorem knownS_eq (nT nC : Nat) (c : Cm) : knownS nT nC c = (decide (c.2 < (nT : Int)) && !(c.1.any fun p => decide ((nC : Int) ≤ p))) := rfl
set_option maxHeartbeats 2000000 in
theorem rknown_spec (μ : PH) (p : Nat) (W : SW) (hW : W.Ok μ) (pvv : Value) (c : Cm) (h : Row μ pvv 1 c.1.length (c.1.flatMap (icsk .i64))) : Spec Tryz.prog 54 [pv p, cmV pvv c.2] [rsH p W, ro μ] (fun r L => r = .bool (knownS W.T.length W.C.length c) ∧ L = [rsH p W, ro μ]) := by
 have hsm := h.small
 obtain ⟨⟨A1, c1, e1⟩, ⟨A2, c2, e2⟩, _, _, _, _⟩ := hW
 obtain ⟨q, tv, cv, T, C, dead⟩ := W
 dsimp only at e1 e2
 subst e1 e2
 refine Spec.of 32 Tryz.func54 rfl rfl rfl ?_
 refine swp_seq ?_
 refine swp_region ?_
 refine s_ef (ef_box rfl rfl) ?_
 intro b3
 refine s_pu (pu_assign rfl) ?_
 refine swl_sub _ (sc0 0 rfl (sc0 3 rfl .nil)) ?_
 refine swl_nil ?_
 refine then_n ?_
 refine swp_seq ?_
 refine swp_seq ?_
 refine swp_region ?_
 refine s_pu (pu_assign rfl) ?_
 refine swl_sub _ (sc0 0 rfl (sc0 3 rfl (sc0 5 rfl .nil))) ?_
 refine swl_nil ?_
 refine then_n ?_
 refine swp_block ?_
 refine swp_loop (ι := Nat) (fun i env L => Sub env [(0, pv p), (3, pv b3), (5, .int .i64 (i : Nat))] ∧ Ent L [blk b3 25 [pvv, .int .i64 c.2], rsH p ⟨q, .slice A1 T.length c1, .slice A2 C.length c2, T, C, dead⟩, ro μ] ∧ i ≤ c.1.length ∧ ∀ y ∈ c.1.take i, decide ((C.length : Int) ≤ y) = false) (fun i => c.1.length - i) 0 ⟨⟨rfl, rfl, rfl, trivial⟩, Split.ent' sp0, Nat.zero_le _, fun y hy => by simp at hy⟩ ?_
 rintro i env L ⟨hsub, hE, hi, hno⟩
 refine swp_sub _ hsub ?_
 refine swp_ent hE ?_
 clear hsub hE env L
 refine swp_seq ?_
 refine swp_seq ?_
 refine swp_region ?_
 refine s_pu (pu_move rfl) ?_
 refine s_pu (pu_fieldAddr0 rfl) ?_
 refine s_rd (rd_load rfl rfl) ?_
 refine s_pu (pu_len_row h rfl) ?_
 refine s_pu (pu_lss rfl rfl) ?_
 refine swl_sub _ (sc0 0 rfl (sc0 3 rfl (sc0 5 rfl (sc0 10 rfl .nil)))) ?_
 refine swl_nil ?_
 refine then_n ?_
 refine swp_cond (b := _) rfl (fun h10 => ?_) (fun h10 => ?_)
 ·skip
  have h10' : i < c.1.length := by have := of_decide_eq_true h10; omega
  obtain ⟨x, hx⟩ : ∃ x, c.1[i]? = some x := ⟨_, List.getElem?_eq_getElem h10'⟩
  obtain ⟨gb, off, cap, hv, hc⟩ := int_at h hx
  refine swp_skip ?_
  refine then_n ?_
  refine swp_seq ?_
  refine swp_block ?_
  refine swp_seq ?_
  refine swp_draw [1, 4, 8] _ [] (by simp only [List.append_nil]; exact Ent.refl _) kr0 ?_
  refine d_pu 0 rfl (pu_fieldAddr0 rfl) kr0 kr0 kr0 ?_
  refine d_rd 1 rfl (rd_load rfl rfl) rfl kr0 kr0 kr0 ?_
  refine d_pu 2 rfl (pu_move rfl) kr0 kr0 kr0 ?_
  refine d_pu 3 rfl (pu_indexAddr (off + i * 1) (congrArg some hv) rfl om0 om0 (by rw [Int.toNat_natCast])) kr0 kr0 kr0 ?_
  refine d_rd 4 rfl (rd_ro rfl hc) rfl kr0 kr0 kr0 ?_
  refine d_pu 5 rfl (pu_move rfl) kr0 kr0 kr0 ?_
  refine d_pu 6 rfl (pu_nilCheck rfl) kr0 kr0 kr0 ?_
  refine d_pu 7 rfl (pu_fieldAddr0 rfl) kr0 kr0 kr0 ?_
  refine d_rd 8 rfl (rd_load rfl rfl) rfl kr0 kr0 kr0 ?_
  refine d_pu 9 rfl (pu_len rfl) kr0 kr0 kr0 ?_
  refine d_pu 10 rfl (pu_geq rfl rfl) kr0 kr0 kr0 ?_
  refine d_sub _ (sc0 0 rfl (sc0 3 rfl (sc0 5 rfl (sc0 23 rfl .nil)))) ?_
  refine d_nilt kr0 ?_
  refine then_n ?_
  refine swp_cond (b := _) rfl (fun h23 => ?_) (fun h23 => ?_)
  ·skip
   refine swp_seq ?_
   refine swp_region ?_
   refine s_pu (pu_assign rfl) ?_
   refine swl_sub _ (sc0 4 rfl .nil) ?_
   refine swl_nil ?_
   refine then_n ?_
   refine swp_ret ?_
   refine block_r ?_
   refine then_r ?_
   refine then_r ?_
   refine block_r ?_
   refine then_r ?_
   have hk : knownS T.length C.length c = false := by
    rw [knownS_eq, List.any_eq_true.2 ⟨x, List.mem_of_getElem? hx, h23⟩, Bool.not_true, Bool.and_false]
   exact done_ret [rsH p ⟨q, .slice A1 T.length c1, .slice A2 C.length c2, T, C, dead⟩, ro μ] (.tmp rfl .nil) ⟨congrArg Value.bool hk.symm, rfl⟩ sp0
  ·skip
   refine swp_skip ?_
   refine block_n ?_
   refine then_n ?_
   refine swp_region ?_
   refine s_pu (pu_move rfl) ?_
   refine s_pu (pu_add_as ((i + 1 : Nat) : Int) rfl rfl om0 om0 om0) ?_
   refine s_pu (pu_assign rfl) ?_
   refine swl_sub _ (sc0 0 rfl (sc0 3 rfl (sc0 5 rfl .nil))) ?_
   refine swl_nil ?_
   refine then_n ⟨i + 1, ⟨⟨rfl, rfl, rfl, trivial⟩, Split.ent' sp0, h10', fun y hy => ?_⟩, by omega⟩
   rw [List.take_add_one, hx] at hy
   rcases List.mem_append.1 hy with hy | hy
   ·exact hno y hy
   ·obtain rfl : y = x := by simpa using hy
    exact h23
 ·skip
  have h10' := of_decide_eq_false h10
  obtain rfl : i = c.1.length := by omega
  rw [List.take_length] at hno
  refine swp_exit ?_
  refine then_x ?_
  refine then_x ?_
  refine block_hit rfl ?_
  refine then_n ?_
  refine swp_seq ?_
  refine swp_draw [1, 5] _ [] (by simp only [List.append_nil]; exact Ent.refl _) kr0 ?_
  refine d_pu 0 rfl (pu_fieldAddr0 rfl) kr0 kr0 kr0 ?_
  refine d_rd 1 rfl (rd_load rfl rfl) rfl kr0 kr0 kr0 ?_
  refine d_pu 2 rfl (pu_move rfl) kr0 kr0 kr0 ?_
  refine d_pu 3 rfl (pu_nilCheck rfl) kr0 kr0 kr0 ?_
  refine d_pu 4 rfl (pu_fieldAddr0 rfl) kr0 kr0 kr0 ?_
  refine d_rd 5 rfl (rd_load rfl rfl) rfl kr0 kr0 kr0 ?_
  refine d_pu 6 rfl (pu_len rfl) kr0 kr0 kr0 ?_
  refine d_pu 7 rfl (pu_lss rfl rfl) kr0 kr0 kr0 ?_
  refine d_pu 8 rfl (pu_assign rfl) kr0 kr0 kr0 ?_
  refine d_sub _ (sc0 4 rfl .nil) ?_
  refine d_nilt kr0 ?_
  refine then_n ?_
  refine swp_ret ?_
  have ha : (c.1.any fun p => decide ((C.length : Int) ≤ p)) = false := by
   rw [List.any_eq_false]
   exact fun y hy => by rw [hno y hy]; decide
  have hk : knownS T.length C.length c = decide (c.2 < (T.length : Int)) := by
   rw [knownS_eq, ha, Bool.not_false, Bool.and_true]
  exact done_ret [rsH p ⟨q, .slice A1 T.length c1, .slice A2 C.length c2, T, C, dead⟩, ro μ] (.tmp rfl .nil) ⟨congrArg Value.bool hk.symm, rfl⟩ sp0
set_option maxHeartbeats 4000000 in
theorem rstand_spec (μ : PH) (p : Nat) (W : SW) (hW : W.Ok μ) (f : Fm) (hf : f.2.length ≤ 1073741824) : Spec Tryz.prog 114 [pv p, fmV f] [rsH p W, ttA W, ccA W, ro μ] (fun r L => ∃ W' μ', StandQ μ W f r W' μ' ∧ L = [rsH p W', ttA W', ccA W', ro μ']) := by
 have hW0 := hW
 obtain ⟨⟨A1, c1, e1⟩, ⟨A2, c2, e2⟩, _, _, hT, hC⟩ := hW
 obtain ⟨q, tv, cv, T, C, dead⟩ := W
 dsimp only at e1 e2 hT hC
 subst e1 e2
 have hno : ∀ {r : Value}, stand1 (SW.pl ⟨q, .slice A1 T.length c1, .slice A2 C.length c2, T, C, dead⟩) f = none → r = .bool false → ∀ {μ'}, Le μ μ' → StandQ μ ⟨q, .slice A1 T.length c1, .slice A2 C.length c2, T, C, dead⟩ f r ⟨q, .slice A1 T.length c1, .slice A2 C.length c2, T, C, dead⟩ μ' := fun h1 h2 μ' h3 => ⟨h3, hW0.le h3, rfl, rfl, .inl ⟨h1, h2, rfl⟩⟩
 refine Spec.of 73 Tryz.func114 rfl rfl rfl ?_
 refine swp_seq ?_
 refine swp_region ?_
 refine s_ef (ef_box rfl rfl) ?_
 intro b3
 refine s_pu (pu_assign rfl) ?_
 refine swl_sub _ (sc0 0 rfl (sc0 3 rfl .nil)) ?_
 refine swl_nil ?_
 refine then_n ?_
 refine swp_seq ?_
 refine swp_seq ?_
 refine swp_region ?_
 refine s_pu (pu_fieldAddr0 rfl) ?_
 refine s_rd (rd_load rfl rfl) ?_
 refine swl_sub _ (sc0 0 rfl (sc0 3 rfl (sc0 10 rfl .nil))) ?_
 refine swl_nil ?_
 refine then_n ?_
 refine swp_block ?_
 refine swp_seq ?_
 refine swp_region ?_
 refine s_pu (pu_eql rfl rfl) ?_
 refine s_pu (pu_assign rfl) ?_
 refine swl_sub _ (sc0 0 rfl (sc0 3 rfl (sc0 10 rfl (sc0 11 rfl .nil)))) ?_
 refine swl_nil ?_
 refine then_n ?_
 refine swp_cond (b := _) rfl (fun h11 => ?_) (fun h11 => ?_)
 ·skip
  have h11' : f.1 = 1 := by have := of_decide_eq_true h11; omega
  refine swp_seq ?_
  refine swp_region ?_
  refine s_pu (pu_fieldAddr0 rfl) ?_
  refine s_rd (rd_load rfl rfl) ?_
  refine s_ef (ef_fn (rdec_spec2 f.2 hf) rfl rfl sp0) ?_
  rintro v16 L1 ⟨tv, e, t, rfl, hq, rfl⟩
  refine swl_app ?_
  refine swl_share_own (v := tv) (μ := μ) sp0 fun μ' hle hrow => ?_
  obtain ⟨A3, c3, rfl⟩ := hrow.sl
  refine s_pu (pu_move rfl) ?_
  refine s_pu (pu_extractL rfl) ?_
  refine s_pu (pu_extractL rfl) ?_
  refine s_pu (pu_assign rfl) ?_
  refine s_pu (pu_assign rfl) ?_
  refine swl_sub _ (sc0 0 rfl (sc0 5 rfl (sc0 6 rfl .nil))) ?_
  refine swl_nil ?_
  refine then_n ?_
  refine swp_seq ?_
  refine swp_seq ?_
  refine swp_region ?_
  refine s_pu (pu_move rfl) ?_
  refine s_pu (pu_neq rfl rfl) ?_
  refine s_pu (pu_move rfl) ?_
  refine s_split 21 rfl (fun h21 => ?_) (fun h21 => ?_)
  ·skip
   have h21' : e ≠ 0 := by simpa using h21
   have hd : decT f.2 = none := by
    rcases hq with ⟨h, _⟩ | ⟨_, h, _⟩
    ·exact absurd h h21'
    ·exact h
   refine s_off rfl rfl rfl ?_
   refine s_off rfl rfl rfl ?_
   refine s_off rfl rfl rfl ?_
   refine s_off rfl rfl rfl ?_
   refine s_off rfl rfl rfl ?_
   refine s_off rfl rfl rfl ?_
   refine s_pu (pu_pick_t rfl rfl) ?_
   refine swl_sub _ (sc0 0 rfl (sc0 5 rfl (sc0 28 rfl .nil))) ?_
   refine swl_nil ?_
   refine then_n ?_
   refine swp_cond (b := _) rfl (fun h28 => ?_) (fun h28 => by cases h28)
   refine swp_seq ?_
   refine swp_region ?_
   refine s_pu (pu_assign rfl) ?_
   refine swl_sub _ (sc0 4 rfl .nil) ?_
   refine swl_nil ?_
   refine then_n ?_
   refine swp_ret ?_
   refine then_r ?_
   refine block_r ?_
   refine then_r ?_
   exact done_ret [rsH p ⟨q, _, _, T, C, dead⟩, ttA ⟨q, _, _, T, C, dead⟩, ccA ⟨q, _, _, T, C, dead⟩, ro μ'] (.tmp rfl .nil) ⟨_, μ', hno (stand1_tn h11' hd) rfl hle, rfl⟩ sp0
  ·skip
   have h21' : e = 0 := by simpa using h21
   have hd : decT f.2 = some t := by
    rcases hq with ⟨_, h⟩ | ⟨h, _⟩
    ·exact h
    ·exact absurd h21' h
   have hs := stand1_tt (s := SW.pl ⟨q, .slice A1 T.length c1, .slice A2 C.length c2, T, C, dead⟩) h11' hd
   rw [show (SW.pl ⟨q, .slice A1 T.length c1, .slice A2 C.length c2, T, C, dead⟩).1.length = T.length from List.length_map _] at hs
   refine s_on rfl rfl ?_
   refine s_pu (pu_move rfl) ?_
   refine s_on rfl rfl ?_
   refine s_pu (pu_nilCheck rfl) ?_
   refine s_on rfl rfl ?_
   refine s_pu (pu_fieldAddr0 rfl) ?_
   refine s_on rfl rfl ?_
   refine s_rd (rd_load rfl rfl) ?_
   refine s_on rfl rfl ?_
   refine s_pu (pu_len rfl) ?_
   refine s_on rfl rfl ?_
   refine s_pu (pu_geq rfl rfl) ?_
   refine s_pu (pu_pick_f rfl rfl) ?_
   refine swl_sub _ (sc0 0 rfl (sc0 5 rfl (sc0 28 rfl .nil))) ?_
   refine swl_nil ?_
   refine then_n ?_
   refine swp_cond (b := _) rfl (fun h28 => ?_) (fun h28 => ?_)
   ·skip
    refine swp_seq ?_
    refine swp_region ?_
    refine s_pu (pu_assign rfl) ?_
    refine swl_sub _ (sc0 4 rfl .nil) ?_
    refine swl_nil ?_
    refine then_n ?_
    refine swp_ret ?_
    refine then_r ?_
    refine block_r ?_
    refine then_r ?_
    have h28' : 65536 ≤ T.length := by have := of_decide_eq_true h28; omega
    rw [if_pos h28'] at hs
    exact done_ret [rsH p ⟨q, _, _, T, C, dead⟩, ttA ⟨q, _, _, T, C, dead⟩, ccA ⟨q, _, _, T, C, dead⟩, ro μ'] (.tmp rfl .nil) ⟨_, μ', hno hs rfl hle, rfl⟩ sp0
   ·skip
    have h28' : T.length < 65536 := by have := of_decide_eq_false h28; omega
    rw [if_neg om0] at hs
    refine swp_skip ?_
    refine then_n ?_
    refine swp_seq ?_
    refine swp_region ?_
    refine s_pu (pu_move rfl) ?_
    refine s_pu (pu_move rfl) ?_
    refine s_pu (pu_nilCheck rfl) ?_
    refine s_pu (pu_fieldAddr0 rfl) ?_
    refine s_rd (rd_load rfl rfl) ?_
    refine s_pu (pu_move rfl) ?_
    refine s_ef (ef_bldS (qs := [(0, _)]) rfl rfl rfl) ?_
    intro b35
    refine s_ef (ef_append_lit (l := T.length) (m := 1) rfl rfl sp0 (by simp only [maxLen]; omega) om0) ?_
    rintro v36 -
    refine swl_fact (fun m h => own_form h) fun ⟨A36, c36, hv36⟩ => ?_
    subst hv36
    refine s_pu (pu_nilCheck rfl) ?_
    refine s_pu (pu_fieldAddr0 rfl) ?_
    refine s_ef0 (ef_store rfl rfl rfl) ?_
    refine swl_sub _ .nil ?_
    refine swl_nil ?_
    refine then_n ?_
    refine swp_seq ?_
    refine swp_region ?_
    refine s_pu (pu_assign rfl) ?_
    refine swl_sub _ (sc0 4 rfl .nil) ?_
    refine swl_nil ?_
    refine then_n ?_
    refine swp_ret ?_
    refine block_r ?_
    refine then_r ?_
    refine done_ret [rsH p ⟨q, .slice A36 (T.length + 1) c36, .slice A2 C.length c2, T ++ [(.slice A3 t.length c3, t)], C, dead⟩, own 22 1 (.slice A36 (T.length + 1) c36) (T.length + 1) (T.flatMap tcs ++ [.slice A3 t.length c3]), ccA ⟨q, .slice A36 (T.length + 1) c36, .slice A2 C.length c2, T, C, dead⟩, ro μ'] (.tmp rfl .nil) ⟨⟨q, .slice A36 (T.length + 1) c36, .slice A2 C.length c2, T ++ [(.slice A3 t.length c3, t)], C, dead⟩, μ', ⟨hle, Ok.addT hW0 hle hrow h28', rfl, rfl, .inr ⟨_, hs, rfl, ?_⟩⟩, ?_⟩ sp0
    ·unfold SW.pl; rw [List.map_append]; rfl
    ·simp only [ttA, List.length_append, List.length_singleton, List.flatMap_append]; rfl
 ·skip
  refine swp_seq ?_
  refine swp_region ?_
  refine s_pu (pu_eql rfl rfl) ?_
  refine s_pu (pu_assign rfl) ?_
  refine swl_sub _ (sc0 0 rfl (sc0 3 rfl (sc0 39 rfl .nil))) ?_
  refine swl_nil ?_
  refine then_n ?_
  refine swp_cond (b := _) rfl (fun h39 => ?_) (fun h39 => ?_)
  ·skip
   have h39' : f.1 = 2 := by have := of_decide_eq_true h39; omega
   refine swp_seq ?_
   refine swp_region ?_
   refine s_pu (pu_fieldAddr0 rfl) ?_
   refine s_rd (rd_load rfl rfl) ?_
   refine s_ef (ef_fn (rcdec_spec μ f.2 hf) rfl rfl sp0) ?_
   rintro v44 L1 ⟨cv, e, μ', rfl, rfl, hle, hq⟩
   obtain ⟨c, A3, c3, rfl, hrow, hq⟩ := hq.two
   refine swl_app ?_
   refine s_pu (pu_move rfl) ?_
   refine s_pu (pu_extractL rfl) ?_
   refine s_pu (pu_extractL rfl) ?_
   refine s_ef (ef_alloc) ?_
   intro b7
   refine s_ef0 (ef_storeA rfl rfl rfl rfl) ?_
   refine s_pu (pu_assign rfl) ?_
   refine swl_sub _ (sc0 0 rfl (sc0 7 rfl (sc0 8 rfl .nil))) ?_
   refine swl_nil ?_
   refine then_n ?_
   refine swp_seq ?_
   refine swp_seq ?_
   refine swp_region ?_
   refine s_pu (pu_move rfl) ?_
   refine s_pu (pu_neq rfl rfl) ?_
   refine s_pu (pu_move rfl) ?_
   refine s_split 49 rfl (fun h49 => ?_) (fun h49 => ?_)
   ·skip
    have h49' : e ≠ 0 := by simpa using h49
    have hd : decC f.2 = none := by
     rcases hq with ⟨h, _⟩ | ⟨_, h⟩
     ·exact absurd h h49'
     ·exact h
    refine s_off rfl rfl rfl ?_
    refine s_off rfl rfl rfl ?_
    refine s_off rfl rfl rfl ?_
    refine s_off rfl rfl rfl ?_
    refine s_pu (pu_pick_t rfl rfl) ?_
    refine s_pu (pu_move rfl) ?_
    refine s_split 55 rfl (fun h55 => ?_) (fun h55 => by cases h55)
    refine s_off rfl rfl rfl ?_
    refine s_off rfl rfl rfl ?_
    refine s_off rfl rfl rfl ?_
    refine s_off rfl rfl rfl ?_
    refine s_off rfl rfl rfl ?_
    refine s_off rfl rfl rfl ?_
    refine s_pu (pu_pick_t rfl rfl) ?_
    refine swl_sub _ (sc0 0 rfl (sc0 7 rfl (sc0 62 rfl .nil))) ?_
    refine swl_nil ?_
    refine then_n ?_
    refine swp_cond (b := _) rfl (fun h62 => ?_) (fun h62 => by cases h62)
    refine swp_seq ?_
    refine swp_region ?_
    refine s_pu (pu_assign rfl) ?_
    refine swl_sub _ (sc0 4 rfl .nil) ?_
    refine swl_nil ?_
    refine then_n ?_
    refine swp_ret ?_
    refine then_r ?_
    refine block_r ?_
    refine then_r ?_
    exact done_ret [rsH p ⟨q, .slice A1 T.length c1, .slice A2 C.length c2, T, C, dead⟩, ttA ⟨q, .slice A1 T.length c1, .slice A2 C.length c2, T, C, dead⟩, ccA ⟨q, .slice A1 T.length c1, .slice A2 C.length c2, T, C, dead⟩, ro μ'] (.tmp rfl .nil) ⟨_, μ', hno (stand1_cn h39' hd) rfl hle, rfl⟩ sp0
   ·skip
    have h49' : e = 0 := by simpa using h49
    have hd : decC f.2 = some c := by
     rcases hq with ⟨_, h⟩ | ⟨h, _⟩
     ·exact h
     ·exact absurd h49' h
    have hs := stand1_cc (s := SW.pl ⟨q, .slice A1 T.length c1, .slice A2 C.length c2, T, C, dead⟩) h39' hd
    rw [show (SW.pl ⟨q, .slice A1 T.length c1, .slice A2 C.length c2, T, C, dead⟩).1.length = T.length from List.length_map _, show (SW.pl ⟨q, .slice A1 T.length c1, .slice A2 C.length c2, T, C, dead⟩).2.length = C.length from List.length_map _] at hs
    refine s_on rfl rfl ?_
    refine s_pu (pu_move rfl) ?_
    refine s_on rfl rfl ?_
    refine s_rd (rd_loadW rfl rfl) ?_
    refine s_on rfl rfl ?_
    refine s_ef (ef_fn (rknown_spec μ' p ⟨q, .slice A1 T.length c1, .slice A2 C.length c2, T, C, dead⟩ (hW0.le hle) (.slice A3 c.1.length c3) c hrow) rfl rfl sp0) ?_
    rintro v52 L1 ⟨rfl, rfl⟩
    refine swl_app ?_
    refine s_on rfl rfl ?_
    refine s_pu (pu_not rfl) ?_
    refine s_pu (pu_pick_f rfl rfl) ?_
    refine s_pu (pu_move rfl) ?_
    refine s_split 55 rfl (fun h55 => ?_) (fun h55 => ?_)
    ·skip
     have h55' : knownS T.length C.length c = false := by simpa using h55
     rw [if_pos (.inl h55')] at hs
     refine s_off rfl rfl rfl ?_
     refine s_off rfl rfl rfl ?_
     refine s_off rfl rfl rfl ?_
     refine s_off rfl rfl rfl ?_
     refine s_off rfl rfl rfl ?_
     refine s_off rfl rfl rfl ?_
     refine s_pu (pu_pick_t rfl rfl) ?_
     refine swl_sub _ (sc0 0 rfl (sc0 7 rfl (sc0 62 rfl .nil))) ?_
     refine swl_nil ?_
     refine then_n ?_
     refine swp_cond (b := _) rfl (fun h62 => ?_) (fun h62 => by cases h62)
     refine swp_seq ?_
     refine swp_region ?_
     refine s_pu (pu_assign rfl) ?_
     refine swl_sub _ (sc0 4 rfl .nil) ?_
     refine swl_nil ?_
     refine then_n ?_
     refine swp_ret ?_
     refine then_r ?_
     refine block_r ?_
     refine then_r ?_
     exact done_ret [rsH p ⟨q, .slice A1 T.length c1, .slice A2 C.length c2, T, C, dead⟩, ttA ⟨q, .slice A1 T.length c1, .slice A2 C.length c2, T, C, dead⟩, ccA ⟨q, .slice A1 T.length c1, .slice A2 C.length c2, T, C, dead⟩, ro μ'] (.tmp rfl .nil) ⟨_, μ', hno hs rfl hle, rfl⟩ sp0
    ·skip
     have h55' : knownS T.length C.length c = true := by simpa using h55
     refine s_on rfl rfl ?_
     refine s_pu (pu_move rfl) ?_
     refine s_on rfl rfl ?_
     refine s_pu (pu_nilCheck rfl) ?_
     refine s_on rfl rfl ?_
     refine s_pu (pu_fieldAddr0 rfl) ?_
     refine s_on rfl rfl ?_
     refine s_rd (rd_load rfl rfl) ?_
     refine s_on rfl rfl ?_
     refine s_pu (pu_len rfl) ?_
     refine s_on rfl rfl ?_
     refine s_pu (pu_geq rfl rfl) ?_
     refine s_pu (pu_pick_f rfl rfl) ?_
     refine swl_sub _ (sc0 0 rfl (sc0 7 rfl (sc0 62 rfl .nil))) ?_
     refine swl_nil ?_
     refine then_n ?_
     refine swp_cond (b := _) rfl (fun h62 => ?_) (fun h62 => ?_)
     ·skip
      refine swp_seq ?_
      refine swp_region ?_
      refine s_pu (pu_assign rfl) ?_
      refine swl_sub _ (sc0 4 rfl .nil) ?_
      refine swl_nil ?_
      refine then_n ?_
      refine swp_ret ?_
      refine then_r ?_
      refine block_r ?_
      refine then_r ?_
      have h62' : 65536 ≤ C.length := by have := of_decide_eq_true h62; omega
      rw [if_pos (.inr h62')] at hs
      exact done_ret [rsH p ⟨q, .slice A1 T.length c1, .slice A2 C.length c2, T, C, dead⟩, ttA ⟨q, .slice A1 T.length c1, .slice A2 C.length c2, T, C, dead⟩, ccA ⟨q, .slice A1 T.length c1, .slice A2 C.length c2, T, C, dead⟩, ro μ'] (.tmp rfl .nil) ⟨_, μ', hno hs rfl hle, rfl⟩ sp0
     ·skip
      have h62' : C.length < 65536 := by have := of_decide_eq_false h62; omega
      rw [if_neg (by rintro (k | k); rw [h55'] at k; cases k; omega)] at hs
      refine swp_skip ?_
      refine then_n ?_
      refine swp_seq ?_
      refine swp_draw [4, 5] _ [] (by simp only [List.append_nil]; exact Ent.refl _) kr0 ?_
      refine d_pu 0 rfl (pu_move rfl) kr0 kr0 kr0 ?_
      refine d_pu 1 rfl (pu_move rfl) kr0 kr0 kr0 ?_
      refine d_pu 2 rfl (pu_nilCheck rfl) kr0 kr0 kr0 ?_
      refine d_pu 3 rfl (pu_fieldAddr0 rfl) kr0 kr0 kr0 ?_
      refine d_rd 4 rfl (rd_load rfl rfl) rfl kr0 kr0 kr0 ?_
      refine d_rd 5 rfl (rd_loadW rfl rfl) rfl kr0 kr0 kr0 ?_
      refine d_eft 6 rfl kr0 (ef_bldS (qs := [(0, _)]) rfl rfl rfl) ?_
      intro b69
      refine ⟨_, Split.ent sp0, ?_⟩
      refine d_fint 7 rfl kr0 kr0 (ef_append_lit (l := C.length) (m := 1) rfl rfl sp0 (by simp only [maxLen]; omega) om0) ?_
      rintro v70 -
      refine swd_factf (fun m h => own_form h) fun ⟨A70, c70, hv70⟩ => ?_
      subst hv70
      refine d_pu 8 rfl (pu_nilCheck rfl) kr0 kr0 kr0 ?_
      refine d_pu 9 rfl (pu_fieldAddr0 rfl) kr0 kr0 kr0 ?_
      refine d_fin0f 10 rfl kr0 kr0 (ef_store rfl rfl rfl) ?_
      refine d_sub _ .nil ?_
      refine d_nilf kr0 ?_
      refine then_n ?_
      refine swp_seq ?_
      refine swp_region ?_
      refine s_pu (pu_assign rfl) ?_
      refine swl_sub _ (sc0 4 rfl .nil) ?_
      refine swl_nil ?_
      refine then_n ?_
      refine swp_ret ?_
      refine block_r ?_
      refine then_r ?_
      refine done_ret [rsH p ⟨q, .slice A1 T.length c1, .slice A70 (C.length + 1) c70, T, C ++ [(.slice A3 c.1.length c3, c)], dead⟩, ttA ⟨q, .slice A1 T.length c1, .slice A2 C.length c2, T, C, dead⟩, own 25 2 (.slice A70 (C.length + 1) c70) (C.length + 1) (C.flatMap ccs ++ [.slice A3 c.1.length c3, .int .i64 c.2]), ro μ'] (.tmp rfl .nil) ⟨⟨q, .slice A1 T.length c1, .slice A70 (C.length + 1) c70, T, C ++ [(.slice A3 c.1.length c3, c)], dead⟩, μ', ⟨hle, Ok.addC hW0 hle hrow h62', rfl, rfl, .inr ⟨_, hs, rfl, ?_⟩⟩, ?_⟩ sp0
      ·unfold SW.pl; rw [List.map_append]; rfl
      ·simp only [ccA, List.length_append, List.length_singleton, List.flatMap_append]; rfl
  ·skip
   refine swp_skip ?_
   refine block_n ?_
   refine then_n ?_
   refine swp_seq ?_
   refine swp_region ?_
   refine s_pu (pu_assign rfl) ?_
   refine swl_sub _ (sc0 4 rfl .nil) ?_
   refine swl_nil ?_
   refine then_n ?_
   refine swp_ret ?_
   have h11' : f.1 ≠ 1 := by have := of_decide_eq_false h11; omega
   have h39' : f.1 ≠ 2 := by have := of_decide_eq_false h39; omega
   exact done_ret [rsH p ⟨q, .slice A1 T.length c1, .slice A2 C.length c2, T, C, dead⟩, ttA ⟨q, .slice A1 T.length c1, .slice A2 C.length c2, T, C, dead⟩, ccA ⟨q, .slice A1 T.length c1, .slice A2 C.length c2, T, C, dead⟩, ro μ] (.tmp rfl .nil) ⟨_, μ, hno (stand1_no h11' h39') rfl (Le.refl _), rfl⟩ sp0
end SX
namespace SX
open Go Go.Proofs
theorem sort_spec (v : Value) (xs : List ByteArray) (hl : xs.length ≤ 1099511627776) : Spec Tryz.prog 111 [v] [own 9 1 v xs.length (xs.flatMap scsv)] (fun r L => r = .tuple #[] ∧ L = [own 9 1 v xs.length ((srtS xs).flatMap scsv)]) :=
  sort_strs (fun blk off cap ss w => Tryz.slices_Sort_string blk off cap ss w) (fun p cap w => Tryz.slices_Sort_string_none p cap w) v xs hl
theorem srtS_self (xs : List ByteArray) : (srtS xs).Perm xs := by
  unfold srtS
  have := (List.mergeSort_perm (xs.map byL) fun x y => decide (x ≤ y)).map toB
  rw [List.map_map] at this
  have e : (xs.map (toB ∘ byL)) = xs := by
    conv => rhs; rw [← List.map_id xs]
    exact List.map_congr_left fun x _ => toB_byL x
  rwa [e] at this
theorem srtS_perm {xs ys : List ByteArray} (h : xs.Perm ys) : srtS xs = srtS ys :=
  List.Perm.eq_of_pairwise (le := fun a b => strLt b a = false) (fun a b _ _ h1 h2 => by
    rcases strLt_total a b with k | k | k
    · rw [k] at h2; cases h2
    · exact k
    · rw [k] at h1; cases h1) (srtS_pw xs) (srtS_pw ys) ((srtS_self xs).trans (h.trans (srtS_self ys).symm))
def namesD (d : Dk) : List ByteArray := if d.off = true then [] else srtS (d.seen.map (·.1))
set_option maxHeartbeats 4000000 in
theorem names_spec (p : Nat) (d : Dk) (hd : d.Ok) : Spec Tryz.prog 67 [pv p] [FSA p d] (fun r L => L = [own 9 1 r (namesD d).length ((namesD d).flatMap scsv), FSA p d]) := by
 refine FSA.open' fun x hx => ?_
 have hel := hx.seen.len hd.seenOk.nodup
 have hsl := hd.seenLe
 refine Spec.of 30 Tryz.func67 rfl rfl rfl ?_
 refine swp_seq ?_
 refine swp_region ?_
 refine s_pu (pu_assign rfl) ?_
 refine swl_sub _ (sc0 0 rfl .nil) ?_
 refine swl_nil ?_
 refine then_n ?_
 refine swp_seq ?_
 refine swp_region ?_
 refine s_pu (pu_assign rfl) ?_
 refine swl_sub _ (sc0 0 rfl (sc0 3 rfl .nil)) ?_
 refine swl_nil ?_
 refine then_n ?_
 refine swp_seq ?_
 refine swp_seq ?_
 refine swp_region ?_
 refine s_pu (pu_move rfl) ?_
 refine s_pu (pu_ptr_eq_nil rfl rfl) ?_
 refine s_pu (pu_move rfl) ?_
 refine s_split 7 rfl (fun h7 => by cases h7) (fun h7 => ?_)
 refine s_on rfl rfl ?_
 refine s_pu (pu_move rfl) ?_
 refine s_on rfl rfl ?_
 refine s_pu (pu_nilCheck rfl) ?_
 refine s_on rfl rfl ?_
 refine s_pu (pu_fieldAddr0 rfl) ?_
 refine s_on rfl rfl ?_
 refine s_rd (rd_load rfl rfl) ?_
 refine s_pu (pu_pick_f rfl rfl) ?_
 refine swl_sub _ (sc0 0 rfl (sc0 3 rfl (sc0 12 rfl .nil))) ?_
 refine swl_nil ?_
 refine then_n ?_
 refine swp_cond (b := _) rfl (fun h12 => ?_) (fun h12 => ?_)
 ·skip
  refine swp_seq ?_
  refine swp_region ?_
  refine s_pu (pu_move rfl) ?_
  refine s_pu (pu_assign rfl) ?_
  refine swl_sub _ (sc0 2 rfl .nil) ?_
  refine swl_nil ?_
  refine then_n ?_
  refine swp_ret ?_
  refine then_r ?_
  have key : namesD d = [] := by unfold namesD; rw [if_pos h12]
  rw [key]
  refine done_retE [own 9 1 (.slice none 0 0) 0 [], FSA p d] (.tmp rfl .nil) rfl ?_
  exact (((Split.ent' (K := [fsH p d x, mpe x.sb skv x.es x.cs, mpe x.fb skv x.ef x.cf, own 127 3 x.pv x.ps.length (x.ps.flatMap encP), recsA x.rs]) sp0).trans (fs_close hx))).trans own_nil_ent
 ·skip
  refine swp_skip ?_
  refine then_n ?_
  refine swp_seq ?_
  refine swp_seq ?_
  refine swp_region ?_
  refine s_pu (pu_move rfl) ?_
  refine s_pu (pu_nilCheck rfl) ?_
  refine s_pu (pu_fieldAddr0 rfl) ?_
  refine s_rd (rd_load rfl rfl) ?_
  refine s_ef (ef_range (κ := ByteArray) rfl) ?_
  rintro it
  skip
  refine swl_sub _ (sc0 3 rfl (sc0 18 rfl .nil)) ?_
  refine swl_nil ?_
  refine then_n ?_
  refine swp_block ?_
  refine swp_ent (own_nil_ent (e := 9) (n := 1)) ?_
  refine swp_ent (Split.ent' (K := [own 9 1 (.slice none 0 0) 0 [], itA it x.sb x.cs [] x.cs, fsH p d x, mpe x.sb skv x.es x.cs, mpe x.fb skv x.ef x.cf, own 127 3 x.pv x.ps.length (x.ps.flatMap encP), recsA x.rs]) sp0) ?_
  refine swp_loop (ι := Ents ByteArray × Ents ByteArray) (fun k env L => ∃ v, Sub env [(3, v), (18, pv it)] ∧ Ent L [own 9 1 v (k.1.map (·.1)).length ((k.1.map (·.1)).flatMap scsv), itA it x.sb x.cs (k.1.map (·.2.2)) x.cs, fsH p d x, mpe x.sb skv x.es x.cs, mpe x.fb skv x.ef x.cf, own 127 3 x.pv x.ps.length (x.ps.flatMap encP), recsA x.rs] ∧ Going x.es k.1 k.2) (fun k => k.2.length) ([], x.es) ⟨.slice none 0 0, ⟨rfl, rfl, trivial⟩, Ent.refl _, Going.start _⟩ ?_
  rintro ⟨dn, td⟩ env L ⟨v, hsub, hE, hgo⟩
  dsimp only at hsub hE hgo
  refine swp_sub _ hsub ?_
  refine swp_ent hE ?_
  clear hsub hE env L
  have hdl : dn.length ≤ 64 := by have := hgo.length_eq; rw [List.length_append] at this; omega
  refine swp_seq ?_
  refine swp_region ?_
  refine s_ef (ef_next (κ := ByteArray) rfl sp0 hx.bs.1 (Nat.le_refl _)) ?_
  refine ⟨fun hall => ?_, fun y hy hns => ?_⟩
  ·skip
   refine s_pu (pu_extractL rfl) ?_
   refine swl_sub _ (sc0 3 rfl (sc0 18 rfl (sc0 20 rfl .nil))) ?_
   refine swl_nil ?_
   refine then_n ?_
   refine swp_seq ?_
   refine swp_cond (b := _) rfl (fun h20 => by cases h20) (fun h20 => ?_)
   have htd := hgo.stop hx.bs hall
   rw [htd] at hgo
   have hsum : srtS (dn.map (·.1)) = namesD d := by
    unfold namesD
    rw [if_neg (by rw [h12]; decide)]
    refine srtS_perm ?_
    refine List.Perm.trans ?_ (names_perm hx.seen hd.seenOk.nodup)
    refine List.Perm.map _ ?_
    have := hgo; unfold Going at this; rwa [List.append_nil] at this
   refine swp_exit ?_
   refine then_x ?_
   refine then_x ?_
   refine block_hit rfl ?_
   refine then_n ?_
   refine swp_seq ?_
   refine swp_region ?_
   refine s_pu (pu_move rfl) ?_
   refine s_ef (ef_fn (sort_spec v (dn.map (·.1)) (by rw [List.length_map]; omega)) rfl rfl sp0) ?_
   rintro v28 L1 ⟨rfl, rfl⟩
   refine swl_app ?_
   refine swl_sub _ (sc0 3 rfl .nil) ?_
   refine swl_nil ?_
   refine then_n ?_
   refine swp_seq ?_
   refine swp_region ?_
   refine s_pu (pu_move rfl) ?_
   refine s_pu (pu_assign rfl) ?_
   refine swl_sub _ (sc0 2 rfl .nil) ?_
   refine swl_nil ?_
   refine then_n ?_
   refine swp_ret ?_
   rw [← hsum, srtS_len]
   refine done_retE [own 9 1 v (dn.map (·.1)).length ((srtS (dn.map (·.1))).flatMap scsv), FSA p d] (.tmp rfl .nil) rfl ?_
   refine Ent.trans (Split.ent' (K := [fsH p d x, mpe x.sb skv x.es x.cs, mpe x.fb skv x.ef x.cf, own 127 3 x.pv x.ps.length (x.ps.flatMap encP), recsA x.rs, own 9 1 v (dn.map (·.1)).length ((srtS (dn.map (·.1))).flatMap scsv)]) sp0) ?_
   exact (fs_close hx).trans Ent.swap
  ·skip
   refine s_pu (pu_extractL rfl) ?_
   refine swl_sub _ (sc0 3 rfl (sc0 18 rfl (sc0 20 rfl .nil))) ?_
   refine swl_nil ?_
   refine then_n ?_
   refine swp_seq ?_
   refine swp_cond (b := _) rfl (fun h20 => ?_) (fun h20 => by cases h20)
   obtain ⟨td', hgo', hlt⟩ := hgo.step hy hns
   refine swp_skip ?_
   refine then_n ?_
   refine swp_block ?_
   refine swp_seq ?_
   refine swp_region ?_
   refine s_rd (rd_entry (κ := ByteArray) rfl sp0 hy hx.bs) ?_
   refine s_pu (pu_extractL rfl) ?_
   refine s_pu (pu_assign rfl) ?_
   refine swl_sub _ (sc0 3 rfl (sc0 4 rfl (sc0 18 rfl .nil))) ?_
   refine swl_nil ?_
   refine then_n ?_
   refine swp_region ?_
   refine s_pu (pu_move rfl) ?_
   refine s_pu (pu_move rfl) ?_
   refine s_ef (ef_bldS (qs := [(0, _)]) rfl rfl rfl) ?_
   intro b25
   refine s_ef (ef_append_lit (l := (dn.map (·.1)).length) (m := 1) rfl rfl sp0 (by simp only [maxLen]; rw [List.length_map]; omega) (by rw [List.length_map]; omega)) ?_
   rintro v' hv'
   skip
   refine s_pu (pu_assign rfl) ?_
   refine swl_sub _ (sc0 3 rfl (sc0 18 rfl .nil)) ?_
   refine swl_nil ?_
   refine block_n ?_
   refine then_n ⟨(dn ++ [y], td'), ⟨v', ⟨rfl, rfl, trivial⟩, ?_, hgo'⟩, by dsimp only; omega⟩
   have e1 : ((dn ++ [y]).map (·.1)).length = (dn.map (·.1)).length + 1 := by simp
   have e2 : ((dn ++ [y]).map (·.1)).flatMap scsv = (dn.map (·.1)).flatMap scsv ++ [.string y.1] := by rw [List.map_append, List.flatMap_append]; rfl
   have e3 : (dn ++ [y]).map (·.2.2) = dn.map (·.2.2) ++ [y.2.2] := by rw [List.map_append]; rfl
   dsimp only
   rw [e1, e2, e3]
   exact Split.ent' sp0
end SX
namespace SX
open Go Go.Proofs
theorem crash_rep {d : Dk} {x : FX} (hd : d.Ok) (hx : Rep d x) {n : Int} {keep : List Int} {ef : Ents ByteArray} {cf b' : Nat} {rs' : List Rc} (hE : NmRel ef (namesAt d n) x.rs) (hB : Born ef cf) (hc : Crs (namesAt d n) keep (ef.map (·.1)) x.rs rs') :
    Rep (crashD d n keep) ⟨b', x.fb, ef, cf, ef, cf, rs', [], .slice none 0 0⟩ := by
  have hno : NmOk d.files.length (namesAt d n) := by rw [namesAt_eq]; exact namesK_ok hd _
  have hE' : NmRel ef (namesAt d n) rs' := hE.to fun y _ => hc.adr _
  have hlen : (crashD d n keep).files.length = d.files.length := by unfold crashD; simp
  refine ⟨hE', hE', hB, hB, by rw [hlen, ← hx.len]; exact hc.len, fun k hk => ?_, rfl, fun i p c hp => by cases hp⟩
  have hk' : ∃ y ∈ namesAt d n, y.2 = k := by
    rcases hk with hk | hk | ⟨c, hc, _⟩
    · exact hk
    · exact hk
    · cases hc
  obtain ⟨y, hy, rfl⟩ := hk'
  have hlt := (hno.good y hy).2
  have hlive : live d y.2 := by
    rw [namesAt_eq] at hy
    rcases namesK_live _ y hy with h | h
    · exact .inr (.inl h)
    · exact .inr (.inr h)
  obtain ⟨r, hr, hf⟩ := hx.fl y.2 hlive
  obtain ⟨r', h1, _, h3, _⟩ := hc.at_ y.2 r hr
  have hfn := findN_of hno.nodup (s := y.1) (k := y.2) hy
  have hin : y.1 ∈ ef.map (·.1) := by
    have := (names_perm hE hno.nodup).mem_iff (a := y.1)
    exact this.2 (List.mem_map.2 ⟨y, hy, rfl⟩)
  refine ⟨r', h1, ?_⟩
  rw [h3 ⟨y.1, hin, hfn⟩, hf]
  unfold Dk.fl crashD
  dsimp only
  rw [List.getElem?_map, List.getElem?_range hlt, Option.map_some, Option.getD_some, if_pos]
  · rfl
  · exact List.any_eq_true.2 ⟨y, hy, by simp⟩
set_option maxHeartbeats 8000000 in
theorem crash_spec (μ : PH) (p : Nat) (d : Dk) (hd : d.Ok) (n : Int) (kv : Value) (keep : List Int) (hk : Row μ kv 1 keep.length (keep.flatMap (icsk .i64))) (hw : Few d) :
  Spec Tryz.prog 60 [pv p, .agg #[.int .i64 n, kv]] [FSA p d, ro μ] (fun _ L => ∃ μ', Le μ μ' ∧ L = [FSA p (crashD d n keep), ro μ']) := by
 refine FSA.open' fun x hx => ?_
 have hpl := hx.ps.1
 have hfw := hw.2
 have hff := hw.1
 have hxl := hx.len
 obtain ⟨KK, hKK⟩ : ∃ K, K = min (max n 0).toNat d.pend.length := ⟨_, rfl⟩
 refine Spec.of 114 Tryz.func60 rfl rfl rfl ?_
 refine swp_seq ?_
 refine swp_region ?_
 refine s_ef (ef_box rfl rfl) ?_
 intro b3
 refine swl_sub _ (sc0 0 rfl (sc0 3 rfl .nil)) ?_
 refine swl_nil ?_
 refine then_n ?_
 refine swp_seq ?_
 refine swp_seq ?_
 refine swp_region ?_
 refine s_pu (pu_move rfl) ?_
 refine s_pu (pu_ptr_eq_nil rfl rfl) ?_
 refine swl_sub _ (sc0 0 rfl (sc0 3 rfl (sc0 10 rfl .nil))) ?_
 refine swl_nil ?_
 refine then_n ?_
 refine swp_cond (b := _) rfl (fun h10 => by cases h10) (fun h10 => ?_)
 refine swp_share_own (e := 127) (n := 3) (v := x.pv) (l := x.ps.length) (xs := x.ps.flatMap encP) (μ := μ) sp0 fun μ2 hle2 hrow => ?_
 have hk2 := hk.le hle2
 obtain ⟨hl0, A, cap, hv, hlc, hcm, hnil, hpos⟩ := hrow
 refine swp_ent (Split.ent' (K := [mpe x.fb skv x.ef x.cf, fsH p d x, mpe x.sb skv x.es x.cs, recsA x.rs, blk b3 63 [.int .i64 n, kv], ro μ2]) sp0) ?_
 refine swp_skip ?_
 refine then_n ?_
 refine swp_seq ?_
 refine swp_seq ?_
 refine swp_draw [3, 5, 10] _ [] (by simp only [List.append_nil]; exact Ent.refl _) kr0 ?_
 refine d_pu 0 rfl (pu_move rfl) kr0 kr0 kr0 ?_
 refine d_pu 1 rfl (pu_nilCheck rfl) kr0 kr0 kr0 ?_
 refine d_pu 2 rfl (pu_fieldAddr0 rfl) kr0 kr0 kr0 ?_
 refine d_rd 3 rfl (rd_load rfl rfl) rfl kr0 kr0 kr0 ?_
 refine d_pu 4 rfl (pu_fieldAddr0 rfl) kr0 kr0 kr0 ?_
 refine d_rd 5 rfl (rd_load rfl rfl) rfl kr0 kr0 kr0 ?_
 refine d_pu 6 rfl (pu_max2 rfl rfl) kr0 kr0 kr0 ?_
 refine d_pu 7 rfl (pu_move rfl) kr0 kr0 kr0 ?_
 refine d_pu 8 rfl (pu_nilCheck rfl) kr0 kr0 kr0 ?_
 refine d_pu 9 rfl (pu_fieldAddr0 rfl) kr0 kr0 kr0 ?_
 refine d_rd 10 rfl (rd_load rfl rfl) rfl kr0 kr0 kr0 ?_
 refine d_pu 11 rfl (pu_len_own ⟨A, cap, hv⟩ rfl) kr0 kr0 kr0 ?_
 refine d_pu 12 rfl (pu_min2 rfl rfl) kr0 kr0 kr0 ?_
 refine d_pu 13 rfl (pu_slice_hi KK (congrArg some hv) rfl (by rw [hKK, hpl]; omega) (by rw [hKK]; omega)) kr0 kr0 kr0 ?_
 refine d_pu 14 rfl (pu_len rfl) kr0 kr0 kr0 ?_
 refine d_pu 15 rfl (pu_move rfl) kr0 kr0 kr0 ?_
 refine d_sub _ (sc0 0 rfl (sc0 3 rfl (sc0 24 rfl (sc0 25 rfl (sc0 26 rfl .nil))))) ?_
 refine d_nilt kr0 ?_
 refine then_n ?_
 refine swp_block ?_
 refine swp_loop (ι := Nat) (fun i env L => Sub env [(0, pv p), (3, pv b3), (24, .slice A KK cap), (25, .int .i64 (KK : Nat)), (26, .int .i64 (i : Nat))] ∧ i ≤ KK ∧ ∃ ef cf, NmRel ef (namesK d i) x.rs ∧ Born ef cf ∧ Ent L [mpe x.fb skv ef cf, fsH p d x, mpe x.sb skv x.es x.cs, recsA x.rs, blk b3 63 [.int .i64 n, kv], ro μ2]) (fun i => KK - i) 0 ⟨⟨rfl, rfl, rfl, rfl, rfl, trivial⟩, Nat.zero_le _, x.ef, x.cf, hx.safe, hx.bf, Ent.refl _⟩ ?_
 rintro i env L ⟨hsub, hi, ef, cf, hE, hB, hEnt⟩
 refine swp_sub _ hsub ?_
 refine swp_ent hEnt ?_
 clear hsub hEnt env L
 refine swp_seq ?_
 refine swp_region ?_
 refine s_pu (pu_lss rfl rfl) ?_
 refine swl_sub _ (sc0 0 rfl (sc0 3 rfl (sc0 24 rfl (sc0 25 rfl (sc0 26 rfl (sc0 27 rfl .nil)))))) ?_
 refine swl_nil ?_
 refine then_n ?_
 refine swp_seq ?_
 refine swp_cond (b := _) rfl (fun h27 => ?_) (fun h27 => ?_)
 ·skip
  have h27' : i < KK := by have := of_decide_eq_true h27; omega
  have hip : i < d.pend.length := by omega
  obtain ⟨b, off, hA, hra⟩ := hpos om0
  subst hA
  obtain ⟨pc, hpc⟩ : ∃ q, x.ps[i]? = some q := ⟨_, List.getElem?_eq_getElem om0⟩
  obtain ⟨cg, hcg⟩ : ∃ q, d.pend[i]? = some q := ⟨_, List.getElem?_eq_getElem hip⟩
  have hpr := hx.ps.2 i pc cg hpc hcg
  have hel := hra.elem (f := encP) (n := 3) (fun _ => rfl) hpc
  obtain ⟨g0, c0, v0⟩ := pc
  obtain ⟨o, rfl⟩ : ∃ o, v0 = .pointer o := by
   have := hpr.2.2
   dsimp only at this
   rw [this]
   split
   ·exact ⟨_, rfl⟩
   ·unfold adr
    split
    ·exact ⟨_, rfl⟩
    ·exact ⟨_, rfl⟩
  have hcome : strEq cg.come nos = false → cg.file < x.rs.length := fun h => by rw [hxl]; exact (hd.pend cg (List.mem_of_getElem? hcg) h).2
  refine swp_skip ?_
  refine then_n ?_
  refine swp_seq ?_
  refine swp_block ?_
  refine swp_seq ?_
  refine swp_region ?_
  refine s_pu (pu_indexAddr (off + i * 3) rfl rfl om0 om0 (by rw [Int.toNat_natCast])) ?_
  refine s_rd (rd_roA rfl rfl hel) ?_
  refine s_ef (ef_alloc) ?_
  intro b5
  refine s_ef0 (ef_storeA rfl rfl rfl rfl) ?_
  refine swl_sub _ (sc0 0 rfl (sc0 3 rfl (sc0 5 rfl (sc0 24 rfl (sc0 25 rfl (sc0 26 rfl .nil)))))) ?_
  refine swl_nil ?_
  refine then_n ?_
  refine swp_draw [0, 4] ([fsH p d x, blk b5 127 [.string g0, .string c0, .pointer o]]) ([mpe x.fb skv ef cf, mpe x.sb skv x.es x.cs, recsA x.rs, blk b3 63 [.int .i64 n, kv], ro μ2]) (Split.ent sp0) kr0 ?_
  refine d_rd 0 rfl (rd_loadW rfl rfl) rfl kr0 kr0 kr0 ?_
  refine d_pu 1 rfl (pu_move rfl) kr0 kr0 kr0 ?_
  refine d_pu 2 rfl (pu_nilCheck rfl) kr0 kr0 kr0 ?_
  refine d_pu 3 rfl (pu_fieldAddr0 rfl) kr0 kr0 kr0 ?_
  refine d_rd 4 rfl (rd_load rfl rfl) rfl kr0 kr0 kr0 ?_
  refine d_fint 5 rfl kr0 kr0 (ef_fn (do_spec x.fb cf ef g0 c0 o) rfl rfl sp0) ?_
  rintro v35 L1 rfl
  refine swd_app ?_
  refine d_sub _ (sc0 0 rfl (sc0 3 rfl (sc0 24 rfl (sc0 25 rfl (sc0 26 rfl .nil))))) ?_
  refine d_nilf kr0 ?_
  refine block_n ?_
  refine then_n ?_
  refine swp_region ?_
  refine s_pu (pu_add_as ((i + 1 : Nat) : Int) rfl rfl om0 om0 om0) ?_
  refine s_pu (pu_move rfl) ?_
  refine swl_sub _ (sc0 0 rfl (sc0 3 rfl (sc0 24 rfl (sc0 25 rfl (sc0 26 rfl .nil))))) ?_
  refine swl_nil ?_
  refine then_n ⟨i + 1, ⟨⟨rfl, rfl, rfl, rfl, rfl, trivial⟩, h27', doE ef cf (g0, c0, .pointer o), doC ef cf (g0, c0, .pointer o), ?_, doE_born hB _, Split.ent' sp0⟩, by omega⟩
  rw [namesK_step hcg]
  exact doE_rel hE (fun y hy => goodN_ne ((namesK_ok hd i).good y hy).1) hpr hcome
 ·skip
  have h27' : i = KK := by have := of_decide_eq_false h27; omega
  subst h27'
  have hEn : NmRel ef (namesAt d n) x.rs := by rw [namesAt_eq, ← hKK]; exact hE
  have hno : NmOk d.files.length (namesAt d n) := by rw [namesAt_eq]; exact namesK_ok hd _
  refine swp_exit ?_
  refine then_x ?_
  refine then_x ?_
  refine block_hit rfl ?_
  refine then_n ?_
  refine swp_seq ?_
  refine swp_seq ?_
  refine swp_region ?_
  refine s_pu (pu_move rfl) ?_
  refine s_pu (pu_nilCheck rfl) ?_
  refine s_pu (pu_fieldAddr0 rfl) ?_
  refine s_rd (rd_load rfl rfl) ?_
  refine s_ef (ef_range (κ := ByteArray) rfl) ?_
  rintro it
  skip
  refine swl_sub _ (sc0 0 rfl (sc0 3 rfl (sc0 41 rfl .nil))) ?_
  refine swl_nil ?_
  refine then_n ?_
  refine swp_block ?_
  refine swp_ent (Split.ent' (K := [itA it x.fb cf [] cf, mpe x.fb skv ef cf, fsH p d x, mpe x.sb skv x.es x.cs, recsA x.rs, blk b3 63 [.int .i64 n, kv], ro μ2]) sp0) ?_
  refine swp_loop (ι := Ents ByteArray × Ents ByteArray) (fun k env L => Sub env [(0, pv p), (3, pv b3), (41, pv it)] ∧ Going ef k.1 k.2 ∧ ∃ rs', Crs (namesAt d n) keep (k.1.map (·.1)) x.rs rs' ∧ Ent L [itA it x.fb cf (k.1.map (·.2.2)) cf, mpe x.fb skv ef cf, fsH p d x, mpe x.sb skv x.es x.cs, recsA rs', blk b3 63 [.int .i64 n, kv], ro μ2]) (fun k => k.2.length) ([], ef) ⟨⟨rfl, rfl, rfl, trivial⟩, Going.start _, x.rs, Crs.start _ _ _, Ent.refl _⟩ ?_
  rintro ⟨dn, td⟩ env L ⟨hsub, hgo, rs', hC, hEnt⟩
  dsimp only at hsub hEnt hgo hC
  refine swp_sub _ hsub ?_
  refine swp_ent hEnt ?_
  clear hsub hEnt env L
  refine swp_seq ?_
  refine swp_region ?_
  refine s_ef (ef_next (κ := ByteArray) rfl sp0 hB.1 (Nat.le_refl _)) ?_
  refine ⟨fun hall => ?_, fun y hy hns => ?_⟩
  ·skip
   refine s_pu (pu_extractL rfl) ?_
   refine swl_sub _ (sc0 0 rfl (sc0 3 rfl (sc0 41 rfl (sc0 43 rfl .nil)))) ?_
   refine swl_nil ?_
   refine then_n ?_
   refine swp_seq ?_
   refine swp_cond (b := _) rfl (fun h43 => by cases h43) (fun h43 => ?_)
   have htd := hgo.stop hB hall
   rw [htd] at hgo
   have hCe : Crs (namesAt d n) keep (ef.map (·.1)) x.rs rs' := hC.perm (by
    have := hgo; unfold Going at this; rw [List.append_nil] at this; exact this.map _)
   refine swp_exit ?_
   refine then_x ?_
   refine then_x ?_
   refine block_hit rfl ?_
   refine then_n ?_
   refine swp_seq ?_
   refine swp_region ?_
   refine s_pu (pu_move rfl) ?_
   refine s_pu (pu_move rfl) ?_
   refine s_pu (pu_nilCheck rfl) ?_
   refine s_pu (pu_fieldAddr0 rfl) ?_
   refine s_rd (rd_load rfl rfl) ?_
   refine s_ef (ef_fn (mclone_spec x.fb ef cf) rfl rfl sp0) ?_
   rintro v102 L1 ⟨b', rfl, rfl⟩
   refine swl_app ?_
   refine s_pu (pu_nilCheck rfl) ?_
   refine s_pu (pu_fieldAddr0 rfl) ?_
   refine s_ef0 (ef_store rfl rfl rfl) ?_
   refine swl_sub _ (sc0 0 rfl .nil) ?_
   refine swl_nil ?_
   refine then_n ?_
   refine swp_region ?_
   refine s_pu (pu_move rfl) ?_
   refine s_pu (pu_move rfl) ?_
   refine s_pu (pu_move rfl) ?_
   refine s_pu (pu_nilCheck rfl) ?_
   refine s_pu (pu_fieldAddr0 rfl) ?_
   refine s_ef0 (ef_store rfl rfl rfl) ?_
   refine s_pu (pu_nilCheck rfl) ?_
   refine s_pu (pu_fieldAddr0 rfl) ?_
   refine s_ef0 (ef_store rfl rfl rfl) ?_
   refine s_pu (pu_nilCheck rfl) ?_
   refine s_pu (pu_fieldAddr0 rfl) ?_
   refine s_ef0 (ef_store rfl rfl rfl) ?_
   refine swl_sub _ .nil ?_
   refine swl_nil ?_
   refine done_endE [FSA p (crashD d n keep), ro μ2] .nil ⟨μ2, hle2, rfl⟩ ?_
   refine Ent.trans (own_nil_ent (e := 127) (n := 3)) ?_
   rw [← hCe.len]
   refine Ent.trans (Split.ent' (K := [blk p 81 (fsC d.quota rs'.length b' x.fb (.slice none 0 0) 0 false), mpe b' skv ef cf, mpe x.fb skv ef cf, own 127 3 (.slice none 0 0) 0 [], recsA rs', ro μ2]) sp0) ?_
   exact fs_close (crash_rep hd hx (b' := b') hEn hB hCe)
  ·skip
   refine s_pu (pu_extractL rfl) ?_
   refine swl_sub _ (sc0 0 rfl (sc0 3 rfl (sc0 41 rfl (sc0 43 rfl .nil)))) ?_
   refine swl_nil ?_
   refine then_n ?_
   refine swp_seq ?_
   refine swp_cond (b := _) rfl (fun h43 => ?_) (fun h43 => by cases h43)
   obtain ⟨td', hgo', hlt⟩ := hgo.step hy hns
   have hlk := mlook_of hEn.keys hy
   rw [hEn.look] at hlk
   obtain ⟨k, hfk, hav⟩ := Option.map_eq_some_iff.1 hlk
   have hmem := findN_mem hfk
   obtain ⟨r, hr, hrf⟩ := hx.fl k (by
    rw [namesAt_eq] at hmem
    rcases namesK_live _ _ hmem with h | h
    ·exact .inr (.inl h)
    ·exact .inr (.inr h))
   have hok := Dk.fl_ok hd k
   rw [← hrf] at hok
   obtain ⟨r', hr', hra', hcut, hsl, hle⟩ := hC.now hr hok.2
   have hyv : y.2.1 = pv r'.a := by rw [← hav, adr_at hr, hra']
   have hkf : k < 9223372036854775807 := by have := (hno.good _ hmem).2; omega
   have hmo := moreF_le keep k r'.f hsl
   have hm1 := hok.1
   simp only [mostF] at hm1
   refine swp_skip ?_
   refine then_n ?_
   refine swp_block ?_
   refine swp_seq ?_
   refine swp_region ?_
   refine s_rd (rd_entry (κ := ByteArray) rfl sp0 hy hB) ?_
   refine s_pu (pu_extractL rfl) ?_
   refine s_pu (pu_assign rfl) ?_
   refine swl_sub _ (sc0 0 rfl (sc0 3 rfl (sc0 7 rfl (sc0 41 rfl .nil)))) ?_
   refine swl_nil ?_
   refine then_n ?_
   refine swp_seq ?_
   rw [hyv]
   refine swp_ent (Split.ent' (K := [recsA rs', itA it x.fb cf (dn.map (·.2.2) ++ [y.2.2]) cf, mpe x.fb skv ef cf, fsH p d x, mpe x.sb skv x.es x.cs, blk b3 63 [.int .i64 n, kv], ro μ2]) sp0) ?_
   refine swp_ent (recs_open' hr' hsl) ?_
   refine swp_fact (fun m h => own_cap h) fun ⟨A', c', hv', hlc', hA'⟩ => ?_
   refine swp_region ?_
   refine s_pu (pu_assign rfl) ?_
   refine swl_sub _ (sc0 0 rfl (sc0 3 rfl (sc0 7 rfl (sc0 8 rfl (sc0 41 rfl .nil))))) ?_
   refine swl_nil ?_
   refine then_n ?_
   refine swp_cut (fun env L => Sub env [(0, pv p), (3, pv b3), (41, pv it), (7, pv r'.a), (8, .int .i64 (moreF keep k r'.f : Nat))] ∧ Ent L [own 5 1 r'.v r'.f.bytes.length (bcs r'.f.bytes), blk r'.a 118 [.int .i64 (k : Nat), r'.v, .int .i64 (r'.f.safe : Nat)], holeA rs' k, itA it x.fb cf (dn.map (·.2.2) ++ [y.2.2]) cf, mpe x.fb skv ef cf, fsH p d x, mpe x.sb skv x.es x.cs, blk b3 63 [.int .i64 n, kv], ro μ2]) ?_ ?_
   ·skip
    refine swp_seq ?_
    refine swp_region ?_
    refine s_pu (pu_fieldAddr0 rfl) ?_
    refine s_rd (rd_load rfl rfl) ?_
    refine s_pu (pu_len_row hk2 rfl) ?_
    refine s_pu (pu_gtr rfl rfl) ?_
    refine swl_sub _ (sc0 0 rfl (sc0 3 rfl (sc0 7 rfl (sc0 8 rfl (sc0 41 rfl (sc0 49 rfl .nil)))))) ?_
    refine swl_nil ?_
    refine then_n ?_
    refine swp_cond (b := _) rfl (fun h49 => ?_) (fun h49 => ?_)
    ·skip
     have h49' : 0 < keep.length := by have := of_decide_eq_true h49; omega
     have hj : k % keep.length < keep.length := Nat.mod_lt _ h49'
     obtain ⟨kb, ko, kc, hkv, hkc, hkm, hkr⟩ := hk2.pos h49'
     have hkj : keep[k % keep.length]? = some keep[k % keep.length] := List.getElem?_eq_getElem hj
     have hkcell := (hkr.elem (f := icsk .i64) (n := 1) (fun _ => rfl) hkj).cell
     refine swp_draw [1, 5, 7, 11, 16, 21] _ [] (by simp only [List.append_nil]; exact Ent.refl _) kr0 ?_
     refine d_pu 0 rfl (pu_fieldAddr0 rfl) kr0 kr0 kr0 ?_
     refine d_rd 1 rfl (rd_load rfl rfl) rfl kr0 kr0 kr0 ?_
     refine d_pu 2 rfl (pu_move rfl) kr0 kr0 kr0 ?_
     refine d_pu 3 rfl (pu_nilCheck rfl) kr0 kr0 kr0 ?_
     refine d_pu 4 rfl (pu_fieldAddr0 rfl) kr0 kr0 kr0 ?_
     refine d_rd 5 rfl (rd_load rfl rfl) rfl kr0 kr0 kr0 ?_
     refine d_pu 6 rfl (pu_fieldAddr0 rfl) kr0 kr0 kr0 ?_
     refine d_rd 7 rfl (rd_load rfl rfl) rfl kr0 kr0 kr0 ?_
     refine d_pu 8 rfl (pu_len_row hk2 rfl) kr0 kr0 kr0 ?_
     refine d_pu 9 rfl (pu_rem_nat rfl rfl h49') kr0 kr0 kr0 ?_
     refine d_pu 10 rfl (pu_indexAddr (ko + (k % keep.length) * 1) (congrArg some hkv) rfl om0 om0 (by rw [Int.toNat_natCast])) kr0 kr0 kr0 ?_
     refine d_rd 11 rfl (rd_ro rfl hkcell) rfl kr0 kr0 kr0 ?_
     refine d_pu 12 rfl (pu_max2 rfl rfl) kr0 kr0 kr0 ?_
     refine d_pu 13 rfl (pu_move rfl) kr0 kr0 kr0 ?_
     refine d_pu 14 rfl (pu_nilCheck rfl) kr0 kr0 kr0 ?_
     refine d_pu 15 rfl (pu_fieldAddr0 rfl) kr0 kr0 kr0 ?_
     refine d_rd 16 rfl (rd_load rfl rfl) rfl kr0 kr0 kr0 ?_
     refine d_pu 17 rfl (pu_len_own ⟨A', c', hv'⟩ rfl) kr0 kr0 kr0 ?_
     refine d_pu 18 rfl (pu_move rfl) kr0 kr0 kr0 ?_
     refine d_pu 19 rfl (pu_nilCheck rfl) kr0 kr0 kr0 ?_
     refine d_pu 20 rfl (pu_fieldAddr0 rfl) kr0 kr0 kr0 ?_
     refine d_rd 21 rfl (rd_load rfl rfl) rfl kr0 kr0 kr0 ?_
     refine d_pu 22 rfl (pu_sub_as ((r'.f.bytes.length : Int) - r'.f.safe) rfl rfl om0 om0 om0) kr0 kr0 kr0 ?_
     refine d_pu 23 rfl (pu_min2 rfl rfl) kr0 kr0 kr0 ?_
     refine d_pu 24 rfl (pu_assign rfl) kr0 kr0 kr0 ?_
     refine d_sub _ (sc0 0 rfl (sc0 3 rfl (sc0 7 rfl (sc0 8 rfl (sc0 41 rfl .nil))))) ?_
     refine d_nilt kr0 ?_
     refine then_n ⟨⟨rfl, rfl, rfl, rfl, ?_, trivial⟩, Split.ent' sp0⟩
     have e1 : ((moreF keep k r'.f : Nat) : Int) = min (max keep[k % keep.length] 0) ((r'.f.bytes.length : Int) - r'.f.safe) := by
      unfold moreF; rw [if_neg om0, hkj, Option.getD_some]; omega
     rw [e1]; rfl
    ·skip
     refine swp_skip ?_
     have h49' : keep.length = 0 := by have := of_decide_eq_false h49; omega
     refine then_n ⟨⟨rfl, rfl, rfl, rfl, ?_, trivial⟩, Split.ent' sp0⟩
     have e1 : moreF keep k r'.f = 0 := by unfold moreF; rw [if_pos h49']
     rw [e1]; rfl
   rintro env L ⟨hsub, hEnt⟩
   refine swp_sub _ hsub ?_
   refine swp_ent hEnt ?_
   clear hsub hEnt env L
   refine swp_seq ?_
   refine swp_draw [4, 8] _ [] (by simp only [List.append_nil]; exact Ent.refl _) kr0 ?_
   refine d_pu 0 rfl (pu_move rfl) kr0 kr0 kr0 ?_
   refine d_pu 1 rfl (pu_move rfl) kr0 kr0 kr0 ?_
   refine d_pu 2 rfl (pu_nilCheck rfl) kr0 kr0 kr0 ?_
   refine d_pu 3 rfl (pu_fieldAddr0 rfl) kr0 kr0 kr0 ?_
   refine d_rd 4 rfl (rd_load rfl rfl) rfl kr0 kr0 kr0 ?_
   refine d_pu 5 rfl (pu_move rfl) kr0 kr0 kr0 ?_
   refine d_pu 6 rfl (pu_nilCheck rfl) kr0 kr0 kr0 ?_
   refine d_pu 7 rfl (pu_fieldAddr0 rfl) kr0 kr0 kr0 ?_
   refine d_rd 8 rfl (rd_load rfl rfl) rfl kr0 kr0 kr0 ?_
   refine d_pu 9 rfl (pu_move rfl) kr0 kr0 kr0 ?_
   refine d_pu 10 rfl (pu_add_as ((r'.f.safe + moreF keep k r'.f : Nat) : Int) rfl rfl om0 om0 om0) kr0 kr0 kr0 ?_
   refine d_pu 11 rfl (pu_slice_hi (r'.f.safe + moreF keep k r'.f) (congrArg some hv') rfl rfl om0) kr0 kr0 kr0 ?_
   refine d_fint 12 rfl kr0 kr0 (ef_fn (bclone_own A' (r'.f.safe + moreF keep k r'.f) r'.f.bytes.length c' c' r'.f.bytes rfl hmo om0 (fun h => by have := hA' h; omega)) rfl rfl (by rw [← hv']; exact sp0)) ?_
   rintro v86 L1 ⟨⟨A2, c2, rfl⟩, rfl⟩
   refine swd_app ?_
   refine d_pu 13 rfl (pu_nilCheck rfl) kr0 kr0 kr0 ?_
   refine d_pu 14 rfl (pu_fieldAddr0 rfl) kr0 kr0 kr0 ?_
   refine d_fin0f 15 rfl kr0 kr0 (ef_store rfl rfl rfl) ?_
   refine d_sub _ (sc0 0 rfl (sc0 3 rfl (sc0 7 rfl (sc0 41 rfl .nil)))) ?_
   refine d_nilf kr0 ?_
   refine then_n ?_
   refine swp_region ?_
   refine s_pu (pu_move rfl) ?_
   refine s_pu (pu_move rfl) ?_
   refine s_pu (pu_nilCheck rfl) ?_
   refine s_pu (pu_fieldAddr0 rfl) ?_
   refine s_rd (rd_load rfl rfl) ?_
   refine s_pu (pu_len rfl) ?_
   refine s_pu (pu_nilCheck rfl) ?_
   refine s_pu (pu_fieldAddr0 rfl) ?_
   refine s_ef0 (ef_store rfl rfl rfl) ?_
   refine swl_sub _ (sc0 0 rfl (sc0 3 rfl (sc0 41 rfl .nil))) ?_
   refine swl_nil ?_
   refine block_n ?_
   refine then_n ⟨(dn ++ [y], td'), ⟨⟨rfl, rfl, rfl, trivial⟩, hgo', rs'.set k ⟨r'.a, .slice A2 (r'.f.safe + moreF keep k r'.f) c2, cutF keep k r'.f⟩, ?_, ?_⟩, by dsimp only; omega⟩
   ·dsimp only
    rw [List.map_append]
    exact hC.step hfk hr hra' hcut
   ·dsimp only
    have e3 : (dn ++ [y]).map (·.2.2) = dn.map (·.2.2) ++ [y.2.2] := by rw [List.map_append]; rfl
    have e4 : (cutF keep k r'.f).bytes.length = r'.f.safe + moreF keep k r'.f := by show (r'.f.bytes.take _).length = _; rw [List.length_take, Nat.min_eq_left hmo]
    rw [e3]
    refine Ent.trans (Split.ent' (K := [own 5 1 (.slice A2 (r'.f.safe + moreF keep k r'.f) c2) (r'.f.safe + moreF keep k r'.f) (bcs (r'.f.bytes.take (r'.f.safe + moreF keep k r'.f))), blk r'.a 118 [.int .i64 (k : Nat), .slice A2 (r'.f.safe + moreF keep k r'.f) c2, .int .i64 (r'.f.safe + moreF keep k r'.f : Nat)], holeA rs' k, itA it x.fb cf (dn.map (·.2.2) ++ [y.2.2]) cf, mpe x.fb skv ef cf, fsH p d x, mpe x.sb skv x.es x.cs, blk b3 63 [.int .i64 n, kv], ro μ2]) sp0) ?_
    have h2 := recs_close' (rs := rs') (i := k) ⟨r'.a, .slice A2 (r'.f.safe + moreF keep k r'.f) c2, cutF keep k r'.f⟩ (List.getElem?_eq_some_iff.1 hr').1 (by show r'.f.safe + moreF keep k r'.f ≤ (cutF keep k r'.f).bytes.length; rw [e4]; exact Nat.le_refl _) (L := [itA it x.fb cf (dn.map (·.2.2) ++ [y.2.2]) cf, mpe x.fb skv ef cf, fsH p d x, mpe x.sb skv x.es x.cs, blk b3 63 [.int .i64 n, kv], ro μ2])
    rw [e4] at h2
    exact Ent.trans h2 (Split.ent' sp0)
end SX
namespace SX
open Go Go.Proofs
end SX
namespace SX
open Go Go.Proofs
/-! ## the document's first example -/
abbrev sa : ByteArray := ⟨#[97]⟩
abbrev hel : List UInt8 := [104, 101, 108, 108, 111]
end SX
namespace SX
open Go Go.Proofs
/-! ## the document's disk -/
abbrev rF1 (f : Fl) : List Value := [.string ⟨f.bytes.toArray⟩, .int .i64 (f.safe : Nat)]
abbrev rN1 (x : Nm) : List Value := [.string x.1, .int .i64 (x.2 : Nat)]
abbrev rC1 (c : Cg) : List Value := [.string c.gone, .string c.come, .int .i64 (c.file : Nat)]
structure RX where
  fv : Value
  sv : Value
  av : Value
  wv : Value
abbrev rdC (q : Int) (fv sv av wv : Value) (fa : Int) (off : Bool) : List Value := [.int .i64 q, fv, sv, av, wv, .int .i64 fa, .bool off]
abbrev rdH (p : Nat) (d : Dk) (x : RX) : Assn := blk p 92 (rdC d.quota x.fv x.sv x.av x.wv d.falls d.off)
def RDA (p : Nat) (d : Dk) : Assn := exA fun x : RX => [rdH p d x, own 96 2 x.fv d.files.length (d.files.flatMap rF1), own 138 2 x.sv d.seen.length (d.seen.flatMap rN1), own 138 2 x.av d.safe.length (d.safe.flatMap rN1), own 99 3 x.wv d.pend.length (d.pend.flatMap rC1)]
theorem rd_close {p : Nat} {d : Dk} {x : RX} {L : List Assn} : Ent (rdH p d x :: own 96 2 x.fv d.files.length (d.files.flatMap rF1) :: own 138 2 x.sv d.seen.length (d.seen.flatMap rN1) :: own 138 2 x.av d.safe.length (d.safe.flatMap rN1) :: own 99 3 x.wv d.pend.length (d.pend.flatMap rC1) :: L) (RDA p d :: L) :=
  ent_ex (F := fun x : RX => [rdH p d x, own 96 2 x.fv d.files.length (d.files.flatMap rF1), own 138 2 x.sv d.seen.length (d.seen.flatMap rN1), own 138 2 x.av d.safe.length (d.safe.flatMap rN1), own 99 3 x.wv d.pend.length (d.pend.flatMap rC1)]) x sp0
theorem RDA.open' {p : Nat} {d : Dk} {f : FuncId} {args : List Value} {L : List Assn} {post : Value → List Assn → Prop}
    (h : ∀ x : RX, Spec Tryz.prog f args (rdH p d x :: own 96 2 x.fv d.files.length (d.files.flatMap rF1) :: own 138 2 x.sv d.seen.length (d.seen.flatMap rN1) :: own 138 2 x.av d.safe.length (d.safe.flatMap rN1) :: own 99 3 x.wv d.pend.length (d.pend.flatMap rC1) :: L) post) : Spec Tryz.prog f args (RDA p d :: L) post := Spec.exA' fun x => h x
theorem rgood_spec (s : ByteArray) : Spec Tryz.prog 40 [.string s] [] (fun r L => r = .bool (goodN s) ∧ L = []) := by
 have hb := bsize s
 refine Spec.of 28 Tryz.func40 rfl rfl rfl ?_
 refine swp_seq ?_
 refine swp_region ?_
 refine s_pu (pu_assign rfl) ?_
 refine swl_sub _ (sc0 0 rfl .nil) ?_
 refine swl_nil ?_
 refine then_n ?_
 refine swp_seq ?_
 refine swp_seq ?_
 refine swp_region ?_
 refine s_pu (pu_move rfl) ?_
 refine s_pu (pu_strlen rfl) ?_
 refine s_pu (pu_lss rfl rfl) ?_
 refine s_pu (pu_move rfl) ?_
 refine s_split 7 rfl (fun h7 => ?_) (fun h7 => ?_)
 ·skip
  refine s_off rfl rfl rfl ?_
  refine s_off rfl rfl rfl ?_
  refine s_off rfl rfl rfl ?_
  refine s_pu (pu_pick_t rfl rfl) ?_
  refine swl_sub _ (sc0 0 rfl (sc0 11 rfl .nil)) ?_
  refine swl_nil ?_
  refine then_n ?_
  refine swp_cond (b := _) rfl (fun h11 => ?_) (fun h11 => by cases h11)
  refine swp_seq ?_
  refine swp_region ?_
  refine s_pu (pu_assign rfl) ?_
  refine swl_sub _ (sc0 2 rfl .nil) ?_
  refine swl_nil ?_
  refine then_n ?_
  refine swp_ret ?_
  refine then_r ?_
  refine done_ret [] (.tmp rfl .nil) ⟨?_, rfl⟩ sp0
  have h7' := of_decide_eq_true h7
  unfold goodN
  rw [decide_eq_false (show ¬ 1 ≤ s.size by omega)]; rfl
 ·skip
  refine s_on rfl rfl ?_
  refine s_pu (pu_move rfl) ?_
  refine s_on rfl rfl ?_
  refine s_pu (pu_strlen rfl) ?_
  refine s_on rfl rfl ?_
  refine s_pu (pu_gtr rfl rfl) ?_
  refine s_pu (pu_pick_f rfl rfl) ?_
  refine swl_sub _ (sc0 0 rfl (sc0 11 rfl .nil)) ?_
  refine swl_nil ?_
  refine then_n ?_
  refine swp_cond (b := _) rfl (fun h11 => ?_) (fun h11 => ?_)
  ·skip
   refine swp_seq ?_
   refine swp_region ?_
   refine s_pu (pu_assign rfl) ?_
   refine swl_sub _ (sc0 2 rfl .nil) ?_
   refine swl_nil ?_
   refine then_n ?_
   refine swp_ret ?_
   refine then_r ?_
   refine done_ret [] (.tmp rfl .nil) ⟨?_, rfl⟩ sp0
   have h11' := of_decide_eq_true h11
   unfold goodN
   rw [decide_eq_false (show ¬ s.size ≤ 32 by omega), Bool.false_and, Bool.and_false]; rfl
  ·skip
   have h7' : 1 ≤ s.size := by have := of_decide_eq_false h7; omega
   have h11' : s.size ≤ 32 := by have := of_decide_eq_false h11; omega
   have key : goodN s = s.data.toList.all fun b => decide (33 ≤ b.toNat) && decide (b.toNat ≤ 126) := by
    unfold goodN; rw [decide_eq_true h7', decide_eq_true h11']; rfl
   refine swp_skip ?_
   refine then_n ?_
   refine swp_seq ?_
   refine swp_seq ?_
   refine swp_region ?_
   refine s_pu (pu_assign rfl) ?_
   refine swl_sub _ (sc0 0 rfl (sc0 3 rfl .nil)) ?_
   refine swl_nil ?_
   refine then_n ?_
   refine swp_block ?_
   refine swp_loop (ι := Nat) (fun i env L => Sub env [(0, .string s), (3, .int .i64 (i : Nat))] ∧ Ent L [] ∧ i ≤ s.size ∧ (s.data.toList.take i).all (fun b => decide (33 ≤ b.toNat) && decide (b.toNat ≤ 126)) = true) (fun i => s.size - i) 0 ⟨⟨rfl, rfl, trivial⟩, Split.ent' sp0, Nat.zero_le _, rfl⟩ ?_
   rintro i env L ⟨hsub, hE, hi, hall⟩
   refine swp_sub _ hsub ?_
   refine swp_ent hE ?_
   clear hsub hE env L
   refine swp_seq ?_
   refine swp_seq ?_
   refine swp_region ?_
   refine s_pu (pu_move rfl) ?_
   refine s_pu (pu_move rfl) ?_
   refine s_pu (pu_strlen rfl) ?_
   refine s_pu (pu_lss rfl rfl) ?_
   refine swl_sub _ (sc0 0 rfl (sc0 3 rfl (sc0 15 rfl .nil))) ?_
   refine swl_nil ?_
   refine then_n ?_
   refine swp_cond (b := _) rfl (fun h15 => ?_) (fun h15 => ?_)
   ·skip
    have h15' : i < s.size := by have := of_decide_eq_true h15; omega
    obtain ⟨b, hbb⟩ : ∃ b, s.data.toList[i]? = some b := ⟨_, List.getElem?_eq_getElem om0⟩
    have hstep : (s.data.toList.take (i + 1)).all (fun b => decide (33 ≤ b.toNat) && decide (b.toNat ≤ 126)) = (decide (33 ≤ b.toNat) && decide (b.toNat ≤ 126)) := by
     rw [List.take_add_one, hbb, List.all_append, hall]; simp
    refine swp_skip ?_
    refine then_n ?_
    refine swp_seq ?_
    refine swp_block ?_
    refine swp_seq ?_
    refine swp_region ?_
    refine s_pu (pu_move rfl) ?_
    refine s_pu (pu_move rfl) ?_
    refine s_pu (pu_str_index rfl rfl rfl hbb) ?_
    refine s_pu (pu_lss rfl rfl) ?_
    refine s_pu (pu_move rfl) ?_
    refine s_split 22 rfl (fun h22 => ?_) (fun h22 => ?_)
    ·skip
     refine s_off rfl rfl rfl ?_
     refine s_off rfl rfl rfl ?_
     refine s_off rfl rfl rfl ?_
     refine s_off rfl rfl rfl ?_
     refine s_pu (pu_pick_t rfl rfl) ?_
     refine swl_sub _ (sc0 0 rfl (sc0 3 rfl (sc0 27 rfl .nil))) ?_
     refine swl_nil ?_
     refine then_n ?_
     refine swp_cond (b := _) rfl (fun h27 => ?_) (fun h27 => by cases h27)
     refine swp_seq ?_
     refine swp_region ?_
     refine s_pu (pu_assign rfl) ?_
     refine swl_sub _ (sc0 2 rfl .nil) ?_
     refine swl_nil ?_
     refine then_n ?_
     refine swp_ret ?_
     refine block_r ?_
     refine then_r ?_
     refine then_r ?_
     refine block_r ?_
     refine then_r ?_
     refine done_ret [] (.tmp rfl .nil) ⟨?_, rfl⟩ sp0
     rw [key]
     refine congrArg Value.bool ?_
     symm
     refine Bool.eq_false_iff.2 fun hh => ?_
     have := List.all_eq_true.1 hh b (List.mem_of_getElem? hbb)
     rw [Bool.and_eq_true, decide_eq_true_eq, decide_eq_true_eq] at this
     first
      | (have h22' := of_decide_eq_true h22; omega)
      | (have h27' := of_decide_eq_true h27; omega)
    ·skip
     refine s_on rfl rfl ?_
     refine s_pu (pu_move rfl) ?_
     refine s_on rfl rfl ?_
     refine s_pu (pu_move rfl) ?_
     refine s_on rfl rfl ?_
     refine s_pu (pu_str_index rfl rfl rfl hbb) ?_
     refine s_on rfl rfl ?_
     refine s_pu (pu_gtr rfl rfl) ?_
     refine s_pu (pu_pick_f rfl rfl) ?_
     refine swl_sub _ (sc0 0 rfl (sc0 3 rfl (sc0 27 rfl .nil))) ?_
     refine swl_nil ?_
     refine then_n ?_
     refine swp_cond (b := _) rfl (fun h27 => ?_) (fun h27 => ?_)
     ·skip
      refine swp_seq ?_
      refine swp_region ?_
      refine s_pu (pu_assign rfl) ?_
      refine swl_sub _ (sc0 2 rfl .nil) ?_
      refine swl_nil ?_
      refine then_n ?_
      refine swp_ret ?_
      refine block_r ?_
      refine then_r ?_
      refine then_r ?_
      refine block_r ?_
      refine then_r ?_
      refine done_ret [] (.tmp rfl .nil) ⟨?_, rfl⟩ sp0
      rw [key]
      refine congrArg Value.bool ?_
      symm
      refine Bool.eq_false_iff.2 fun hh => ?_
      have := List.all_eq_true.1 hh b (List.mem_of_getElem? hbb)
      rw [Bool.and_eq_true, decide_eq_true_eq, decide_eq_true_eq] at this
      first
       | (have h22' := of_decide_eq_true h22; omega)
       | (have h27' := of_decide_eq_true h27; omega)
     ·skip
      refine swp_skip ?_
      refine block_n ?_
      refine then_n ?_
      refine swp_region ?_
      refine s_pu (pu_move rfl) ?_
      refine s_pu (pu_add_as ((i + 1 : Nat) : Int) rfl rfl om0 om0 om0) ?_
      refine s_pu (pu_assign rfl) ?_
      refine swl_sub _ (sc0 0 rfl (sc0 3 rfl .nil)) ?_
      refine swl_nil ?_
      have h22' := of_decide_eq_false h22
      have h27' := of_decide_eq_false h27
      refine then_n ⟨i + 1, ⟨⟨rfl, rfl, trivial⟩, Split.ent' sp0, h15', ?_⟩, by omega⟩
      rw [hstep, decide_eq_true (show 33 ≤ b.toNat by omega), decide_eq_true (show b.toNat ≤ 126 by omega)]; rfl
   ·skip
    have h15' : i = s.size := by have := of_decide_eq_false h15; omega
    rw [h15', ← hb, List.take_length] at hall
    refine swp_exit ?_
    refine then_x ?_
    refine then_x ?_
    refine block_hit rfl ?_
    refine then_n ?_
    refine swp_seq ?_
    refine swp_region ?_
    refine s_pu (pu_assign rfl) ?_
    refine swl_sub _ (sc0 2 rfl .nil) ?_
    refine swl_nil ?_
    refine then_n ?_
    refine swp_ret ?_
    refine done_ret [] (.tmp rfl .nil) ⟨by rw [key, hall]; rfl, rfl⟩ sp0
theorem rfind_spec (v : Value) (l : List Nm) (s : ByteArray) (_ : l.length ≤ 1048576) : Spec Tryz.prog 41 [v, .string s] [own 138 2 v l.length (l.flatMap rN1)]
  (fun r L => (∃ i : Int, r = .int .i64 i ∧ ((i < 0 ∧ findN l s = none) ∨ ∃ (k : Nat) (y : Nm), i = (k : Int) ∧ l[k]? = some y ∧ findN l s = some y.2)) ∧ L = [own 138 2 v l.length (l.flatMap rN1)]) := by
 refine Spec.fact' (fun m h => own_cap2 h) fun ⟨A, c, hv, hlc, hcm, hA, hA2⟩ => ?_
 simp only [maxLen] at hcm
 subst hv
 refine Spec.of 20 Tryz.func41 rfl rfl rfl ?_
 refine swp_seq ?_
 refine swp_region ?_
 refine s_pu (pu_assign rfl) ?_
 refine swl_sub _ (sc0 0 rfl (sc0 1 rfl .nil)) ?_
 refine swl_nil ?_
 refine then_n ?_
 refine swp_seq ?_
 refine swp_seq ?_
 refine swp_region ?_
 refine s_pu (pu_assign rfl) ?_
 refine swl_sub _ (sc0 0 rfl (sc0 1 rfl (sc0 5 rfl .nil))) ?_
 refine swl_nil ?_
 refine then_n ?_
 refine swp_block ?_
 refine swp_loop (ι := Nat) (fun i env L => Sub env [(0, .slice A l.length c), (1, .string s), (5, .int .i64 (i : Nat))] ∧ Ent L [own 138 2 (.slice A l.length c) l.length (l.flatMap rN1)] ∧ i ≤ l.length ∧ findN (l.take i) s = none) (fun i => l.length - i) 0 ⟨⟨rfl, rfl, rfl, trivial⟩, Split.ent' sp0, Nat.zero_le _, rfl⟩ ?_
 rintro i env L ⟨hsub, hE, hi, hn⟩
 refine swp_sub _ hsub ?_
 refine swp_ent hE ?_
 clear hsub hE env L
 refine swp_seq ?_
 refine swp_seq ?_
 refine swp_region ?_
 refine s_pu (pu_move rfl) ?_
 refine s_pu (pu_move rfl) ?_
 refine s_pu (pu_len rfl) ?_
 refine s_pu (pu_lss rfl rfl) ?_
 refine swl_sub _ (sc0 0 rfl (sc0 1 rfl (sc0 5 rfl (sc0 9 rfl .nil)))) ?_
 refine swl_nil ?_
 refine then_n ?_
 refine swp_cond (b := _) rfl (fun h9 => ?_) (fun h9 => ?_)
 ·skip
  have h9' : i < l.length := by have := of_decide_eq_true h9; omega
  obtain ⟨a, ha⟩ : ∃ a, A = some a := by cases A with | none => have := hA rfl; omega | some a => exact ⟨a, rfl⟩
  obtain ⟨b, rfl⟩ := hA2 a ha
  subst ha
  obtain ⟨y, hy⟩ : ∃ y, l[i]? = some y := ⟨_, List.getElem?_eq_getElem h9'⟩
  have hcell := flat_at (f := rN1) (n := 2) (fun _ => rfl) hy 0 _ rfl
  have hdrop : l.drop i = y :: l.drop (i + 1) := by rw [List.drop_eq_getElem_cons h9', (List.getElem?_eq_some_iff.1 hy).2]
  refine swp_skip ?_
  refine then_n ?_
  refine swp_seq ?_
  refine swp_block ?_
  refine swp_seq ?_
  refine swp_region ?_
  refine s_pu (pu_move rfl) ?_
  refine s_pu (pu_move rfl) ?_
  refine s_pu (pu_indexAddr (0 + i * 2) rfl rfl om0 om0 (by rw [Int.toNat_natCast])) ?_
  refine s_pu (pu_fieldAddr rfl) ?_
  refine s_rd (rd_own rfl tk0 (by rw [Nat.zero_add]; exact hcell)) ?_
  refine s_pu (pu_move rfl) ?_
  refine s_pu (pu_str_eql rfl rfl) ?_
  refine swl_sub _ (sc0 0 rfl (sc0 1 rfl (sc0 5 rfl (sc0 18 rfl .nil)))) ?_
  refine swl_nil ?_
  refine then_n ?_
  refine swp_cond (b := _) rfl (fun h18 => ?_) (fun h18 => ?_)
  ·skip
   refine swp_seq ?_
   refine swp_region ?_
   refine s_pu (pu_move rfl) ?_
   refine s_pu (pu_assign rfl) ?_
   refine swl_sub _ (sc0 4 rfl .nil) ?_
   refine swl_nil ?_
   refine then_n ?_
   refine swp_ret ?_
   refine block_r ?_
   refine then_r ?_
   refine then_r ?_
   refine block_r ?_
   refine then_r ?_
   refine done_ret [own 138 2 (.slice (some ⟨b, 0, none⟩) l.length c) l.length (l.flatMap rN1)] (.tmp rfl .nil) ⟨⟨i, rfl, .inr ⟨i, y, rfl, hy, ?_⟩⟩, rfl⟩ sp0
   rw [← List.take_append_drop i l, find_app, hn, hdrop, findN_cons, if_pos h18]; rfl
  ·skip
   refine swp_skip ?_
   refine block_n ?_
   refine then_n ?_
   refine swp_region ?_
   refine s_pu (pu_move rfl) ?_
   refine s_pu (pu_add_as ((i + 1 : Nat) : Int) rfl rfl om0 om0 om0) ?_
   refine s_pu (pu_assign rfl) ?_
   refine swl_sub _ (sc0 0 rfl (sc0 1 rfl (sc0 5 rfl .nil))) ?_
   refine swl_nil ?_
   refine then_n ⟨i + 1, ⟨⟨rfl, rfl, rfl, trivial⟩, Split.ent' sp0, h9', ?_⟩, by omega⟩
   rw [List.take_add_one, hy, find_app, hn]
   show findN [y] s = none
   rw [findN_cons, if_neg (by rw [h18]; decide)]; rfl
 ·skip
  have h9' : i = l.length := by have := of_decide_eq_false h9; omega
  rw [h9', List.take_length] at hn
  refine swp_exit ?_
  refine then_x ?_
  refine then_x ?_
  refine block_hit rfl ?_
  refine then_n ?_
  refine swp_seq ?_
  refine swp_region ?_
  refine s_pu (pu_assign rfl) ?_
  refine swl_sub _ (sc0 4 rfl .nil) ?_
  refine swl_nil ?_
  refine then_n ?_
  refine swp_ret ?_
  exact done_ret [own 138 2 (.slice A l.length c) l.length (l.flatMap rN1)] (.tmp rfl .nil) ⟨⟨-1, rfl, .inl ⟨by omega, hn⟩⟩, rfl⟩ sp0
end SX
