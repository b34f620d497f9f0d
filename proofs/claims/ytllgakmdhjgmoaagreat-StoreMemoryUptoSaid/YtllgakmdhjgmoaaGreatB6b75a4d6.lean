/- A part of the proof: walks of the program's functions, and the rules by which they go. -/
import Derived.Test.YtllgakmdhjgmoaaGreatBc3a537ba
import Derived.Test.YtllgakmdhjgmoaaGreatB63c38127
import Derived.Test.YtllgakmdhjgmoaaGreatB0a7e322b
namespace SX
open Go Go.Proofs
instance : TZv Tryz.prog 5 (.int .u8 0) := ⟨by kernel_rfl⟩
theorem bcs_take (l : List UInt8) (m : Nat) : bcs (l.take m) = (bcs l).take m := by rw [bcs_map, bcs_map, List.map_take]
theorem bcs_append (a b : List UInt8) : bcs (a ++ b) = bcs a ++ bcs b := by rw [bcs_map, bcs_map, bcs_map, List.map_append]
theorem bclone_nil : Spec Tryz.prog 71 [.slice none 0 0] [] (fun v L => v = .slice none 0 0 ∧ L = []) := by
 refine Spec.of 8 Tryz.func71 rfl rfl rfl ?_
 refine swp_sr ?_
 refine s_as rfl ?_
 refine swl_sub _ (sc0 0 rfl .nil) ?_
 refine swl_nn ?_
 refine swp_seq ?_
 refine swp_sr ?_
 refine s_mv rfl ?_
 refine s_pu (pu_sl_eq_nil rfl rfl) ?_
 refine swl_sub _ (sc0 0 rfl (sc0 4 rfl .nil)) ?_
 refine swl_nn ?_
 refine swp_cond (b := _) rfl (fun h4 => ?_) (fun h4 => by cases h4)
 refine swp_sr ?_
 refine s_as rfl ?_
 refine swl_sub _ (sc0 2 rfl .nil) ?_
 refine swl_nn ?_
 refine swp_ret ?_
 refine then_r ?_
 exact done_ret [] (.tmp rfl .nil) ⟨rfl, rfl⟩ sp0
theorem bclone_blk (g m c : Nat) (bs : List UInt8) (ex : List Value) (hm : m ≤ bs.length) (hb : bs.length ≤ 1099511627776) :
  Spec Tryz.prog 71 [.slice (some ⟨g, 0, none⟩) m c] [blk g 5 (bcs bs ++ ex)] (fun v L => (∃ A c, v = .slice A m c) ∧ L = [own 5 1 v m (bcs (bs.take m)), blk g 5 (bcs bs ++ ex)]) := by
 have hcl : (bcs (bs.take m)).length = m * 1 := by rw [bcs_len, List.length_take, Nat.min_eq_left hm, Nat.mul_one]
 have hcn : ∀ (j : Nat) (u : Value), (bcs (bs.take m))[j]? = some u → (bcs bs ++ ex)[0 + j]? = some u := fun j u hj => by
  rw [bcs_take, List.getElem?_take] at hj
  split at hj
  ·rw [Nat.zero_add, List.getElem?_append_left (List.getElem?_eq_some_iff.1 hj).1]; exact hj
  ·cases hj
 refine Spec.of 8 Tryz.func71 rfl rfl rfl ?_
 refine swp_sr ?_
 refine s_as rfl ?_
 refine swl_sub _ (sc0 0 rfl .nil) ?_
 refine swl_nn ?_
 refine swp_seq ?_
 refine swp_sr ?_
 refine s_mv rfl ?_
 refine s_pu (pu_sl_eq_nil rfl rfl) ?_
 refine swl_sub _ (sc0 0 rfl (sc0 4 rfl .nil)) ?_
 refine swl_nn ?_
 refine swp_cond (b := _) rfl (fun h4 => by cases h4) (fun h4 => ?_)
 refine swp_skip ?_
 refine then_n ?_
 refine swp_sr ?_
 refine s_ef (ef_bldS (qs := []) rfl rfl rfl) ?_
 intro b5
 refine s_mv rfl ?_
 refine swl_ent (own_close (n := 1) (l := 0) (cap := 0) (xs := []) (ex := []) rfl rfl (Nat.le_refl _) (by simp [maxLen])) ?_
 refine s_ef (ef_append_of (news := bcs (bs.take m)) rfl rfl sp0 hcl hcn (bcs_one _) (by simp only [maxLen]; omega) om0) ?_
 rintro v' -
 rw [Nat.zero_add, List.nil_append]
 refine swl_fact (fun m h => own_form h) fun hform => ?_
 refine s_as rfl ?_
 refine swl_sub _ (sc0 2 rfl .nil) ?_
 refine swl_nn ?_
 refine swp_ret ?_
 exact done_ret [own 5 1 v' m (bcs (bs.take m)), blk g 5 (bcs bs ++ ex)] (.tmp rfl .nil) ⟨hform, rfl⟩ sp0
/-- slices.Clone of the first m bytes of a slice of the call's own -/
theorem bclone_own (A : Option Addr) (m l c c' : Nat) (bs : List UInt8) (hl : bs.length = l) (hm : m ≤ l) (hb : bs.length ≤ 1099511627776) (hc : A = none → m = 0 ∧ c' = 0) :
    Spec Tryz.prog 71 [.slice A m c'] [own 5 1 (.slice A l c) l (bcs bs)] (fun v' L => (∃ A c, v' = .slice A m c) ∧ L = [own 5 1 v' m (bcs (bs.take m)), own 5 1 (.slice A l c) l (bcs bs)]) := by
  subst hl
  refine Spec.own_cases (fun hv l0 x0 => ?_) (fun g cap ex hv o1 o2 o3 o4 => ?_)
  · obtain ⟨rfl, h1, rfl⟩ := Value.slice.inj hv
    have hbs : bs = [] := List.eq_nil_of_length_eq_zero l0
    obtain ⟨rfl, rfl⟩ := hc rfl
    subst hbs
    refine Spec.ent3 bclone_nil ?_
    rintro v L ⟨rfl, rfl⟩
    exact ⟨_, own_nil_ent.trans (Ent.cons own_nil_ent), ⟨_, _, rfl⟩, rfl⟩
  · obtain ⟨rfl, _, rfl⟩ := Value.slice.inj hv
    refine Spec.ent3 (bclone_blk g m c' bs ex hm hb) ?_
    rintro v L ⟨hf, rfl⟩
    exact ⟨_, Ent.cons (own_close o3 o4 o1 o2), hf, rfl⟩
/-- Append's step -/
theorem append1_spec (f0 t0 a k sf l : Nat) (v : Value) (xs : List Value) (s : ByteArray) (hl : l + s.size ≤ 1099511627776) :
  Spec Tryz.prog 110 [pv f0, pv t0] [blk f0 114 [pv a], blk t0 9 [.string s], blk a 118 [.int .i64 (k : Nat), v, .int .i64 (sf : Nat)], own 5 1 v l xs]
   (fun _ L => ∃ v', L = [blk f0 114 [pv a], blk t0 9 [.string s], blk a 118 [.int .i64 (k : Nat), v', .int .i64 (sf : Nat)], own 5 1 v' (l + s.size) (xs ++ bcs s.data.toList)]) := by
 refine Spec.of 11 Tryz.func110 rfl rfl rfl ?_
 refine swp_draw [0, 1, 4, 5] ([blk f0 114 [pv a], blk t0 9 [.string s], blk a 118 [.int .i64 (k : Nat), v, .int .i64 (sf : Nat)]]) ([own 5 1 v l xs]) (Split.ent sp0) kr0 ?_
 refine d_rd 0 rfl (rd_load rfl rfl) rfl kr0 kr0 kr0 ?_
 refine d_rd 1 rfl (rd_load rfl rfl) rfl kr0 kr0 kr0 ?_
 refine d_pu 2 rfl (pu_nilCheck rfl) kr0 kr0 kr0 ?_
 refine d_pu 3 rfl (pu_fieldAddr0 rfl) kr0 kr0 kr0 ?_
 refine d_rd 4 rfl (rd_load rfl rfl) rfl kr0 kr0 kr0 ?_
 refine d_rd 5 rfl (rd_load rfl rfl) rfl kr0 kr0 kr0 ?_
 refine d_eft 6 rfl kr0 (ef_append_str rfl rfl sp0 om0) ?_
 rintro A' c'
 refine ⟨_, Split.ent sp0, ?_⟩
 refine d_pu 7 rfl (pu_nilCheck rfl) kr0 kr0 kr0 ?_
 refine d_pu 8 rfl (pu_fieldAddr0 rfl) kr0 kr0 kr0 ?_
 refine d_fin0t 9 rfl kr0 kr0 (ef_store rfl rfl rfl) ?_
 refine d_sub _ .nil ?_
 refine d_nilf kr0 ?_
 exact done_end [blk f0 114 [pv a], blk t0 9 [.string s], blk a 118 [.int .i64 (k : Nat), .slice A' (l + s.size) c', .int .i64 (sf : Nat)], own 5 1 (.slice A' (l + s.size) c') (l + s.size) (xs ++ bcs s.data.toList)] .nil ⟨_, rfl⟩ sp0
/-- Sync's step -/
theorem sync1_spec (f0 a k sf l : Nat) (v : Value) (hv : ∃ A c, v = .slice A l c) :
  Spec Tryz.prog 124 [pv f0] [blk f0 114 [pv a], blk a 118 [.int .i64 (k : Nat), v, .int .i64 (sf : Nat)]]
   (fun _ L => L = [blk f0 114 [pv a], blk a 118 [.int .i64 (k : Nat), v, .int .i64 (l : Nat)]]) := by
 refine Spec.of 9 Tryz.func124 rfl rfl rfl ?_
 refine swp_draw [0, 1, 4] _ [] (by simp only [List.append_nil]; exact Ent.refl _) kr0 ?_
 refine d_rd 0 rfl (rd_load rfl rfl) rfl kr0 kr0 kr0 ?_
 refine d_rd 1 rfl (rd_load rfl rfl) rfl kr0 kr0 kr0 ?_
 refine d_pu 2 rfl (pu_nilCheck rfl) kr0 kr0 kr0 ?_
 refine d_pu 3 rfl (pu_fieldAddr0 rfl) kr0 kr0 kr0 ?_
 refine d_rd 4 rfl (rd_load rfl rfl) rfl kr0 kr0 kr0 ?_
 refine d_pu 5 rfl (pu_len_own hv rfl) kr0 kr0 kr0 ?_
 refine d_pu 6 rfl (pu_nilCheck rfl) kr0 kr0 kr0 ?_
 refine d_pu 7 rfl (pu_fieldAddr0 rfl) kr0 kr0 kr0 ?_
 refine d_fin0t 8 rfl kr0 kr0 (ef_store rfl rfl rfl) ?_
 refine d_sub _ .nil ?_
 refine d_nilf kr0 ?_
 exact done_end [blk f0 114 [pv a], blk a 118 [.int .i64 (k : Nat), v, .int .i64 (l : Nat)]] .nil rfl sp0
/-- Cut's step -/
theorem cut1_spec (f0 n0 a k sf n l c : Nat) (A : Option Addr) (bs : List UInt8) (hl : bs.length = l) (hn : n ≤ l) (hlc : l ≤ c) (hb : bs.length ≤ 1099511627776) (hA : A = none → c = 0) :
  Spec Tryz.prog 123 [pv f0, pv n0] [blk f0 114 [pv a], blk n0 3 [.int .i64 (n : Nat)], blk a 118 [.int .i64 (k : Nat), .slice A l c, .int .i64 (sf : Nat)], own 5 1 (.slice A l c) l (bcs bs)]
   (fun _ L => ∃ v', L = [blk f0 114 [pv a], blk n0 3 [.int .i64 (n : Nat)], blk a 118 [.int .i64 (k : Nat), v', .int .i64 (min sf n : Nat)], own 5 1 v' n (bcs (bs.take n)), own 5 1 (.slice A l c) l (bcs bs)]) := by
 have hmin : ((min sf n : Nat) : Int) = min (sf : Int) (n : Int) := by omega
 refine Spec.of 21 Tryz.func123 rfl rfl rfl ?_
 refine swp_seq ?_
 refine swp_draw [0, 1, 4, 5] _ [] (by simp only [List.append_nil]; exact Ent.refl _) kr0 ?_
 refine d_rd 0 rfl (rd_load rfl rfl) rfl kr0 kr0 kr0 ?_
 refine d_rd 1 rfl (rd_load rfl rfl) rfl kr0 kr0 kr0 ?_
 refine d_pu 2 rfl (pu_nilCheck rfl) kr0 kr0 kr0 ?_
 refine d_pu 3 rfl (pu_fieldAddr0 rfl) kr0 kr0 kr0 ?_
 refine d_rd 4 rfl (rd_load rfl rfl) rfl kr0 kr0 kr0 ?_
 refine d_rd 5 rfl (rd_load rfl rfl) rfl kr0 kr0 kr0 ?_
 refine d_pu 6 rfl (pu_slice_hi n rfl rfl rfl om0) kr0 kr0 kr0 ?_
 refine d_eft 7 rfl kr0 (ef_fn (bclone_own A n l c c bs hl hn hb (fun h => by have := hA h; omega)) rfl rfl sp0) ?_
 rintro v9 L1 ⟨⟨A', c', rfl⟩, rfl⟩
 refine ⟨_, ent_appC (Split.ent sp0), ?_⟩
 refine d_pu 8 rfl (pu_nilCheck rfl) kr0 kr0 kr0 ?_
 refine d_pu 9 rfl (pu_fieldAddr0 rfl) kr0 kr0 kr0 ?_
 refine d_fin0t 10 rfl kr0 kr0 (ef_store rfl rfl rfl) ?_
 refine d_sub _ (sc0 0 rfl (sc0 1 rfl .nil)) ?_
 refine d_nilf kr0 ?_
 refine then_n ?_
 refine swp_draw [0, 1, 4, 5] _ [] (by simp only [List.append_nil]; exact Ent.refl _) kr0 ?_
 refine d_rd 0 rfl (rd_load rfl rfl) rfl kr0 kr0 kr0 ?_
 refine d_rd 1 rfl (rd_load rfl rfl) rfl kr0 kr0 kr0 ?_
 refine d_pu 2 rfl (pu_nilCheck rfl) kr0 kr0 kr0 ?_
 refine d_pu 3 rfl (pu_fieldAddr0 rfl) kr0 kr0 kr0 ?_
 refine d_rd 4 rfl (rd_load rfl rfl) rfl kr0 kr0 kr0 ?_
 refine d_rd 5 rfl (rd_load rfl rfl) rfl kr0 kr0 kr0 ?_
 refine d_pu 6 rfl (pu_min2 rfl rfl) kr0 kr0 kr0 ?_
 refine d_pu 7 rfl (pu_nilCheck rfl) kr0 kr0 kr0 ?_
 refine d_pu 8 rfl (pu_fieldAddr0 rfl) kr0 kr0 kr0 ?_
 refine d_fin0t 9 rfl kr0 kr0 (ef_store rfl rfl rfl) ?_
 refine d_sub _ .nil ?_
 refine d_nilf kr0 ?_
 exact done_end [blk f0 114 [pv a], blk n0 3 [.int .i64 (n : Nat)], blk a 118 [.int .i64 (k : Nat), .slice A' n c', .int .i64 (min sf n : Nat)], own 5 1 (.slice A' n c') n (bcs (bs.take n)), own 5 1 (.slice A l c) l (bcs bs)] .nil ⟨_, rfl⟩ (R := []) (by rw [hmin]; exact sp0)
end SX
namespace SX
open Go Go.Proofs
theorem find_err {rs : List Rc} {d : Dk} {s : ByteArray} {v : Value} {e : Int} (h : findV rs d s = (v, e)) (he : e ≠ 0) (f : Nat → Dk × Int) : onFile d s f = (d, e) := by
  unfold onFile
  rcases find_cases h with ⟨rfl, h1⟩ | ⟨rfl, h1, h2⟩ | ⟨h0, _⟩
  · rw [if_pos h1]
  · rw [if_neg (by rw [h1]; decide), h2]
  · exact absurd h0 he
theorem find_ok {rs : List Rc} {d : Dk} {s : ByteArray} {v : Value} (h : findV rs d s = (v, 0)) : ∃ k, findN d.seen s = some k ∧ v = adr rs k ∧ ∀ f, onFile d s f = f k := by
  rcases find_cases h with ⟨h0, _⟩ | ⟨h0, _⟩ | ⟨_, h1, k, h2, h3⟩
  · cases h0
  · cases h0
  · refine ⟨k, h2, h3, fun f => ?_⟩
    unfold onFile
    rw [if_neg (by rw [h1]; decide), h2]
theorem find_ptr (rs : List Rc) (d : Dk) (s : ByteArray) : ∃ o e, findV rs d s = (.pointer o, e) := by
  unfold findV
  split
  · exact ⟨_, _, rfl⟩
  · split
    · exact ⟨_, _, rfl⟩
    · next k _ =>
      unfold adr
      split
      · exact ⟨_, _, rfl⟩
      · exact ⟨_, _, rfl⟩
theorem fs_set {p : Nat} {d : Dk} {x : FX} (hx : Rep d x) {k : Nat} {r r' : Rc} (hr : x.rs[k]? = some r) (ha : r'.a = r.a) (hg : r'.f.safe ≤ r'.f.bytes.length) {L : List Assn} :
    Ent (own 5 1 r'.v r'.f.bytes.length (bcs r'.f.bytes) :: blk r'.a 118 [.int .i64 (k : Nat), r'.v, .int .i64 (r'.f.safe : Nat)] :: holeA x.rs k :: fsH p d x :: mpe x.sb skv x.es x.cs :: mpe x.fb skv x.ef x.cf :: own 127 3 x.pv x.ps.length (x.ps.flatMap encP) :: L) (FSA p (d.setF k r'.f) :: L) := by
  refine (recs_close' r' (List.getElem?_eq_some_iff.1 hr).1 hg).trans ?_
  refine Ent.trans (Ent.perm ?_) (fs_close (hx.set hr ha))
  show List.Perm (recsA (x.rs.set k r') :: fsH p d x :: _ :: _ :: _ :: L) (blk p 81 (fsC d.quota (x.rs.set k r').length x.sb x.fb x.pv d.falls d.off) :: _ :: _ :: _ :: recsA (x.rs.set k r') :: L)
  rw [List.length_set]
  exact (List.perm_middle (a := recsA (x.rs.set k r')) (l₁ := [fsH p d x, mpe x.sb skv x.es x.cs, mpe x.fb skv x.ef x.cf, own 127 3 x.pv x.ps.length (x.ps.flatMap encP)]) (l₂ := L)).symm
/-- a step whose doing does not touch the disk's own block -/
theorem step_spec' {f : FuncId} [Body Tryz.prog f] {ca : List Value} {pre : List Assn} {K : List Assn → Prop} (p : Nat) (q : Int) (n sb fb : Nat) (v : Value) (fa : Int) (off : Bool) (h0 : 0 ≤ fa ∧ fa ≤ 9223372036854775807)
    (h : Spec Tryz.prog f ca pre (fun _ L => K L)) :
    Spec Tryz.prog 76 [pv p, .func (.func f) #[] ca.toArray] (blk p 81 (fsC q n sb fb v fa off) :: pre) (fun r L => (fa = 1 ∧ r = .int .i64 8 ∧ L = blk p 81 (fsC q n sb fb v 0 true) :: pre) ∨ (fa ≠ 1 ∧ r = .int .i64 0 ∧ ∃ L', K L' ∧ L = blk p 81 (fsC q n sb fb v (if 0 < fa then fa - 1 else fa) off) :: L')) :=
  step_spec (K := fun fa' L => ∃ L', K L' ∧ L = blk p 81 (fsC q n sb fb v fa' off) :: L') p q n sb fb v fa off h0 fun fa' => fun _ _ hw =>
    (h.frame (R := [blk p 81 (fsC q n sb fb v fa' off)]) (hw.ent (Ent.perm (List.perm_append_comm (l₁ := [_]))))).mono fun _ _ ⟨v, L', e, hk, hh⟩ => ⟨v, _, e, ⟨L', hk, rfl⟩, hh.ent (Ent.perm (List.perm_append_comm (l₂ := [_])))⟩
set_option maxHeartbeats 4000000 in
theorem sync_spec (p : Nat) (d : Dk) (hd : d.Ok) (s : ByteArray) : Spec Tryz.prog 87 [pv p, .string s] [FSA p d] (fun r L => r = .int .i64 (syncD d s).2 ∧ L = [FSA p (syncD d s).1]) := by
 refine FSA.open' fun x hx => ?_
 obtain ⟨o, e, hve⟩ := find_ptr x.rs d s
 have hfs := find_spec' (p := p) hx hve
 refine Spec.of 19 Tryz.func87 rfl rfl rfl ?_
 refine swp_sr ?_
 refine s_as rfl ?_
 refine swl_sub _ (sc0 0 rfl (sc0 1 rfl .nil)) ?_
 refine swl_nn ?_
 refine swp_sr ?_
 refine s_mv rfl ?_
 refine s_mv rfl ?_
 refine s_ef (ef_fn hfs rfl rfl sp0) ?_
 rintro v10 L1 ⟨rfl, rfl⟩
 refine swl_app ?_
 refine s_mv rfl ?_
 refine s_pu (pu_extractL rfl) ?_
 refine s_pu (pu_extractL rfl) ?_
 refine s_ef (ef_alloc) ?_
 intro b5
 refine s_ef0 (ef_store rfl rfl rfl) ?_
 refine s_as rfl ?_
 refine swl_sub _ (sc0 0 rfl (sc0 5 rfl (sc0 6 rfl .nil))) ?_
 refine swl_nn ?_
 refine swp_seq ?_
 refine swp_sr ?_
 refine s_mv rfl ?_
 refine s_pu (pu_neq rfl rfl) ?_
 refine swl_sub _ (sc0 0 rfl (sc0 5 rfl (sc0 6 rfl (sc0 14 rfl .nil)))) ?_
 refine swl_nn ?_
 refine swp_cond (b := _) rfl (fun h14 => ?_) (fun h14 => ?_)
 ·skip
  refine swp_sr ?_
  refine s_mv rfl ?_
  refine s_as rfl ?_
  refine swl_sub _ (sc0 4 rfl .nil) ?_
  refine swl_nn ?_
  refine swp_ret ?_
  refine then_r ?_
  have h14' : e ≠ 0 := by simpa using h14
  unfold syncD
  rw [find_err hve h14']
  exact done_retE [FSA p d] (.tmp rfl .nil) ⟨rfl, rfl⟩ ((Split.ent' (K := [fsH p d x, mpe x.sb skv x.es x.cs, mpe x.fb skv x.ef x.cf, own 127 3 x.pv x.ps.length (x.ps.flatMap encP), recsA x.rs]) sp0).trans (fs_close hx))
 ·skip
  refine swp_skip ?_
  refine then_n ?_
  refine swp_seq ?_
  have h14' : e = 0 := by simpa using h14
  subst h14'
  obtain ⟨k, hk1, hk2, hk3⟩ := find_ok hve
  obtain ⟨r, hr, hf, ha⟩ := hx.find hk1
  rw [ha] at hk2
  rw [hk2]
  refine swp_ent (Split.ent' (K := [recsA x.rs, blk b5 114 [pv r.a], fsH p d x, mpe x.sb skv x.es x.cs, mpe x.fb skv x.ef x.cf, own 127 3 x.pv x.ps.length (x.ps.flatMap encP)]) sp0) ?_
  refine swp_ent (recs_open' hr (real_of hd hf)) ?_
  refine swp_fact (fun m h => own_form h) fun hform => ?_
  refine swp_region ?_
  refine s_mv rfl ?_
  refine s_pu (pu_func (vs := []) (us := [_]) rfl rfl) ?_
  refine s_ef (ef_fn (step_spec' (f := 124) (ca := [pv b5]) (pre := [blk b5 114 [pv r.a], blk r.a 118 [.int .i64 (k : Nat), r.v, .int .i64 (r.f.safe : Nat)]]) p d.quota x.rs.length x.sb x.fb x.pv d.falls d.off hd.falls (sync1_spec b5 r.a k r.f.safe r.f.bytes.length r.v hform)) rfl rfl sp0) ?_
  rintro v18 L1 hs
  skip
  refine s_as rfl ?_
  refine swl_sub _ (sc0 4 rfl .nil) ?_
  refine swl_nn ?_
  refine swp_ret ?_
  rcases hs with ⟨hf1, rfl, rfl⟩ | ⟨hfn, rfl, L', rfl, rfl⟩
  ·have key : syncD d s = (fa0 d, 8) := by unfold syncD; rw [hk3]; exact atStep_1 hf1 _
   rw [key]
   refine done_retE [FSA p (fa0 d)] (.tmp rfl .nil) ⟨rfl, rfl⟩ ?_
   simp only [List.cons_append, List.nil_append]
   refine Ent.trans (Split.ent' (K := [own 5 1 r.v r.f.bytes.length (bcs r.f.bytes), blk r.a 118 [.int .i64 (k : Nat), r.v, .int .i64 (r.f.safe : Nat)], holeA x.rs k, fsH p (fa0 d) x, mpe x.sb skv x.es x.cs, mpe x.fb skv x.ef x.cf, own 127 3 x.pv x.ps.length (x.ps.flatMap encP)]) sp0) ?_
   refine (recs_back' hr (real_of hd hf)).trans ?_
   exact ((Split.ent' (K := [fsH p (fa0 d) x, mpe x.sb skv x.es x.cs, mpe x.fb skv x.ef x.cf, own 127 3 x.pv x.ps.length (x.ps.flatMap encP), recsA x.rs]) sp0).trans (fs_close (d := fa0 d) (hx.fa _ _)))
  ·have key : syncD d s = ((fa1 d).setF k ⟨r.f.bytes, r.f.bytes.length⟩, 0) := by
    unfold syncD; rw [hk3, atStep_n hfn]
    show ((fa1 d).setF k ⟨(d.fl k).bytes, (d.fl k).bytes.length⟩, _) = _
    rw [← hf]
   rw [key]
   refine done_retE [FSA p ((fa1 d).setF k ⟨r.f.bytes, r.f.bytes.length⟩)] (.tmp rfl .nil) ⟨rfl, rfl⟩ ?_
   simp only [List.cons_append, List.nil_append]
   refine Ent.trans (Split.ent' (K := [own 5 1 r.v r.f.bytes.length (bcs r.f.bytes), blk r.a 118 [.int .i64 (k : Nat), r.v, .int .i64 (r.f.bytes.length : Nat)], holeA x.rs k, fsH p (fa1 d) x, mpe x.sb skv x.es x.cs, mpe x.fb skv x.ef x.cf, own 127 3 x.pv x.ps.length (x.ps.flatMap encP)]) sp0) ?_
   exact fs_set (hx.fa _ _) hr (r' := ⟨r.a, r.v, ⟨r.f.bytes, r.f.bytes.length⟩⟩) rfl (Nat.le_refl _)
end SX
namespace SX
open Go Go.Proofs
theorem own_cap {e n : Nat} {v : Value} {l : Nat} {xs : List Value} {L : List Assn} {m : PH} (h : Sat (own e n v l xs :: L) m) : ∃ A c, v = .slice A l c ∧ l ≤ c ∧ (A = none → c = 0) := by
  obtain ⟨m1, _, ⟨_, ho⟩, _⟩ := h
  rcases ho with ⟨rfl, rfl⟩ | ⟨g, cap, cur, rfl, _, h3, _⟩
  · exact ⟨_, _, rfl, Nat.le_refl _, fun _ => rfl⟩
  · exact ⟨_, _, rfl, h3, fun h => by cases h⟩
theorem bsize (s : ByteArray) : s.data.toList.length = s.size := by rw [Array.length_toList]; rfl
set_option maxHeartbeats 4000000 in
theorem append_spec (p : Nat) (d : Dk) (hd : d.Ok) (s t : ByteArray) (ht : t.size ≤ 1048576) : Spec Tryz.prog 63 [pv p, .string s, .string t] [FSA p d] (fun r L => r = .int .i64 (appendD d s t.data.toList).2 ∧ L = [FSA p (appendD d s t.data.toList).1]) := by
  refine FSA.open' fun x hx => ?_
  obtain ⟨o, e, hve⟩ := find_ptr x.rs d s
  have hfs := find_spec' (p := p) hx hve
  have hul := Dk.used_le hd
  have hn := strEq_nos t
  have hq := hd.q
  refine Spec.of 35 Tryz.func63 rfl rfl rfl ?_
  refine swp_sr ?_
  refine s_ef (ef_box rfl rfl) ?_
  intro b5
  refine s_as rfl ?_
  refine swl_sub _ (sc0 0 rfl (sc0 1 rfl (sc0 5 rfl .nil))) ?_
  refine swl_nn ?_
  refine swp_sr ?_
  refine s_mv rfl ?_
  refine s_mv rfl ?_
  refine s_ef (ef_fn hfs rfl rfl sp0) ?_
  rintro v12 L1 ⟨rfl, rfl⟩
  refine swl_app ?_
  refine s_mv rfl ?_
  refine s_pu (pu_extractL rfl) ?_
  refine s_pu (pu_extractL rfl) ?_
  refine s_ef (ef_alloc) ?_
  intro b7
  refine s_ef0 (ef_store rfl rfl rfl) ?_
  refine s_as rfl ?_
  refine swl_sub _ (sc0 0 rfl (sc0 5 rfl (sc0 7 rfl (sc0 8 rfl .nil)))) ?_
  refine swl_nn ?_
  refine swp_seq ?_
  refine swp_sr ?_
  refine s_mv rfl ?_
  refine s_pu (pu_neq rfl rfl) ?_
  refine swl_sub _ (sc0 0 rfl (sc0 5 rfl (sc0 7 rfl (sc0 8 rfl (sc0 16 rfl .nil))))) ?_
  refine swl_nn ?_
  refine swp_cond (b := _) rfl (fun h16 => ?_) (fun h16 => ?_)
  · skip   -- 16 T
    refine swp_sr ?_
    refine s_mv rfl ?_
    refine s_as rfl ?_
    refine swl_sub _ (sc0 6 rfl .nil) ?_
    refine swl_nn ?_
    refine swp_ret ?_
    refine then_r ?_
    have h16' : e ≠ 0 := by simpa using h16
    unfold appendD
    rw [find_err hve h16']
    exact done_retE [FSA p d] (.tmp rfl .nil) ⟨rfl, rfl⟩ ((Split.ent' (K := [fsH p d x, mpe x.sb skv x.es x.cs, mpe x.fb skv x.ef x.cf, own 127 3 x.pv x.ps.length (x.ps.flatMap encP), recsA x.rs]) sp0).trans (fs_close hx))
  · skip   -- 16 F
    have h16' : e = 0 := by simpa using h16
    subst h16'
    obtain ⟨k, hk1, hk2, hk3⟩ := find_ok hve
    obtain ⟨r, hr, hf, ha⟩ := hx.find hk1
    rw [ha] at hk2
    rw [hk2]
    have hlen := (Dk.fl_ok hd k).1
    simp only [mostF] at hlen
    rw [← hf] at hlen
    refine swp_skip ?_
    refine then_n ?_
    refine swp_cut (fun env L => Sub env [(0, pv p), (5, pv b5), (7, pv b7)] ∧ Ent L [blk b7 114 [pv r.a], blk b5 9 [.string t], fsH p d x, mpe x.sb skv x.es x.cs, mpe x.fb skv x.ef x.cf, own 127 3 x.pv x.ps.length (x.ps.flatMap encP), recsA x.rs] ∧ ¬ (0 < t.data.toList.length ∧ d.quota < (d.used : Int) + t.data.toList.length)) ?_ ?_
    · skip
      refine swp_seq ?_
      refine swp_draw [0, 5, 11] ([fsH p d x, blk b5 9 [.string t]]) ([blk b7 114 [pv r.a], mpe x.sb skv x.es x.cs, mpe x.fb skv x.ef x.cf, own 127 3 x.pv x.ps.length (x.ps.flatMap encP), recsA x.rs]) (Split.ent sp0) kr0 ?_
      refine d_rd 0 rfl (rd_load rfl rfl) rfl kr0 kr0 kr0 ?_
      refine d_pu 1 rfl (pu_str_neq rfl rfl) kr0 kr0 kr0 ?_
      refine d_pu 2 rfl (pu_move rfl) kr0 kr0 kr0 ?_
      refine d_split 20 rfl (fun h20 => ?_) (fun h20 => ?_)
      · skip   -- 20 T
        refine d_pu_on 3 rfl rfl rfl (pu_move rfl) kr0 kr0 kr0 ?_
        refine d_rd_on 5 rfl rfl rfl (rd_load rfl rfl) rfl kr0 kr0 kr0 ?_
        refine d_pu_on 6 rfl rfl rfl (pu_strlen rfl) kr0 kr0 kr0 ?_
        refine d_pu_on 8 rfl rfl rfl (pu_move rfl) kr0 kr0 kr0 ?_
        refine d_pu_on 9 rfl rfl rfl (pu_nilCheck rfl) kr0 kr0 kr0 ?_
        refine d_pu_on 10 rfl rfl rfl (pu_fieldAddr0 rfl) kr0 kr0 kr0 ?_
        refine d_rd_on 11 rfl rfl rfl (rd_load rfl rfl) rfl kr0 kr0 kr0 ?_
        refine d_amb [4] kr0 rfl ?_
        refine dA_ef 4 rfl (GOn.some rfl rfl) (ef_fn (used_spec p d hd x hx) rfl rfl sp0) ?_
        rintro v22 L1 ⟨rfl, rfl⟩
        refine ⟨_, ent_appC (Split.ent sp0), ?_⟩
        refine d_pu_on 7 rfl rfl rfl (pu_add_as ((d.used + t.size : Nat) : Int) rfl rfl om0 om0 om0) kr0 kr0 kr0 ?_
        refine d_pu_on 12 rfl rfl rfl (pu_gtr rfl rfl) kr0 kr0 kr0 ?_
        refine d_pu 13 rfl (pu_pick_t rfl rfl) kr0 kr0 kr0 ?_
        refine d_sub _ (sc0 0 rfl (sc0 5 rfl (sc0 7 rfl (sc0 31 rfl .nil)))) ?_
        refine d_nilt kr0 ?_
        refine then_n ?_
        refine swp_cond (b := _) rfl (fun h31 => ?_) (fun h31 => ?_)
        · skip   -- 31 T
          refine swp_sr ?_
          refine s_as rfl ?_
          refine swl_sub _ (sc0 6 rfl .nil) ?_
          refine swl_nn ?_
          refine swp_ret ?_
          refine then_r ?_
          have h31' := of_decide_eq_true h31
          have key : appendD d s t.data.toList = (d, 7) := by
            unfold appendD
            rw [hk3, if_pos]
            rw [bsize]
            rw [hn] at h20
            have h20' : t.size ≠ 0 := by simpa using h20
            exact ⟨by omega, by omega⟩
          rw [key]
          exact done_retE [FSA p d] (.tmp rfl .nil) ⟨rfl, rfl⟩ ((Split.ent' (K := [fsH p d x, mpe x.sb skv x.es x.cs, mpe x.fb skv x.ef x.cf, own 127 3 x.pv x.ps.length (x.ps.flatMap encP), recsA x.rs]) sp0).trans (fs_close hx))
        · skip   -- 31 F
          refine swp_skip ?_
          refine then_n ⟨⟨rfl, rfl, rfl, trivial⟩, Split.ent' sp0, ?_⟩
          rw [bsize]
          first
            | (have h31' := of_decide_eq_false h31; rintro ⟨_, h2⟩; omega)
            | (rw [hn] at h20
               have h20' : t.size = 0 := by simpa using h20
               rintro ⟨h1, _⟩; omega)
      · skip   -- 20 F
        refine d_off 3 rfl rfl rfl rfl kr0 kr0 kr0 ?_
        refine d_off 4 rfl rfl rfl rfl kr0 kr0 kr0 ?_
        refine d_off 5 rfl rfl rfl rfl kr0 kr0 kr0 ?_
        refine d_off 6 rfl rfl rfl rfl kr0 kr0 kr0 ?_
        refine d_off 7 rfl rfl rfl rfl kr0 kr0 kr0 ?_
        refine d_off 8 rfl rfl rfl rfl kr0 kr0 kr0 ?_
        refine d_off 9 rfl rfl rfl rfl kr0 kr0 kr0 ?_
        refine d_off 10 rfl rfl rfl rfl kr0 kr0 kr0 ?_
        refine d_off 11 rfl rfl rfl rfl kr0 kr0 kr0 ?_
        refine d_off 12 rfl rfl rfl rfl kr0 kr0 kr0 ?_
        refine d_pu 13 rfl (pu_pick_f rfl rfl) kr0 kr0 kr0 ?_
        refine d_sub _ (sc0 0 rfl (sc0 5 rfl (sc0 7 rfl (sc0 31 rfl .nil)))) ?_
        refine d_nilt kr0 ?_
        refine then_n ?_
        refine swp_cond (b := _) rfl (fun h31 => by cases h31) (fun h31 => ?_)
        refine swp_skip ?_
        refine then_n ⟨⟨rfl, rfl, rfl, trivial⟩, Split.ent' sp0, ?_⟩
        rw [bsize]
        first
          | (have h31' := of_decide_eq_false h31; rintro ⟨_, h2⟩; omega)
          | (rw [hn] at h20
             have h20' : t.size = 0 := by simpa using h20
             rintro ⟨h1, _⟩; omega)
    rintro env L ⟨hsub, hE, h1⟩
    refine swp_sub _ hsub ?_
    refine swp_ent hE ?_
    clear hsub hE env L
    refine swp_seq ?_
    refine swp_ent (Split.ent' (K := [recsA x.rs, blk b7 114 [pv r.a], blk b5 9 [.string t], fsH p d x, mpe x.sb skv x.es x.cs, mpe x.fb skv x.ef x.cf, own 127 3 x.pv x.ps.length (x.ps.flatMap encP)]) sp0) ?_
    refine swp_ent (recs_open' hr (real_of hd hf)) ?_
    refine swp_region ?_
    refine s_mv rfl ?_
    refine s_pu (pu_func (vs := []) (us := [_, _]) rfl rfl) ?_
    refine s_ef (ef_fn (step_spec' (f := 110) (ca := [pv b7, pv b5]) (pre := [blk b7 114 [pv r.a], blk b5 9 [.string t], blk r.a 118 [.int .i64 (k : Nat), r.v, .int .i64 (r.f.safe : Nat)], own 5 1 r.v r.f.bytes.length (bcs r.f.bytes)]) p d.quota x.rs.length x.sb x.fb x.pv d.falls d.off hd.falls (append1_spec b7 b5 r.a k r.f.safe r.f.bytes.length r.v (bcs r.f.bytes) t om0)) rfl rfl sp0) ?_
    rintro v34 L1 hs
    skip
    refine s_as rfl ?_
    refine swl_sub _ (sc0 6 rfl .nil) ?_
    refine swl_nn ?_
    refine swp_ret ?_
    rcases hs with ⟨hf1, rfl, rfl⟩ | ⟨hfn, rfl, L', ⟨v', rfl⟩, rfl⟩
    · have key : appendD d s t.data.toList = (fa0 d, 8) := by unfold appendD; rw [hk3, if_neg h1]; exact atStep_1 hf1 _
      rw [key]
      refine done_retE [FSA p (fa0 d)] (.tmp rfl .nil) ⟨rfl, rfl⟩ ?_
      simp only [List.cons_append, List.nil_append]
      refine Ent.trans (Split.ent' (K := [own 5 1 r.v r.f.bytes.length (bcs r.f.bytes), blk r.a 118 [.int .i64 (k : Nat), r.v, .int .i64 (r.f.safe : Nat)], holeA x.rs k, fsH p (fa0 d) x, mpe x.sb skv x.es x.cs, mpe x.fb skv x.ef x.cf, own 127 3 x.pv x.ps.length (x.ps.flatMap encP)]) sp0) ?_
      refine (recs_back' hr (real_of hd hf)).trans ?_
      exact ((Split.ent' (K := [fsH p (fa0 d) x, mpe x.sb skv x.es x.cs, mpe x.fb skv x.ef x.cf, own 127 3 x.pv x.ps.length (x.ps.flatMap encP), recsA x.rs]) sp0).trans (fs_close (d := fa0 d) (hx.fa _ _)))
    · have key : appendD d s t.data.toList = ((fa1 d).setF k ⟨r.f.bytes ++ t.data.toList, r.f.safe⟩, 0) := by
        unfold appendD; rw [hk3, if_neg h1, atStep_n hfn]
        show ((fa1 d).setF k ⟨(d.fl k).bytes ++ _, (d.fl k).safe⟩, _) = _
        rw [← hf]
      rw [key]
      refine done_retE [FSA p ((fa1 d).setF k ⟨r.f.bytes ++ t.data.toList, r.f.safe⟩)] (.tmp rfl .nil) ⟨rfl, rfl⟩ ?_
      simp only [List.cons_append, List.nil_append]
      have hl2 : r.f.bytes.length + t.size = (r.f.bytes ++ t.data.toList).length := by rw [List.length_append, bsize]
      rw [hl2, ← bcs_append]
      refine Ent.trans (Split.ent' (K := [own 5 1 v' (r.f.bytes ++ t.data.toList).length (bcs (r.f.bytes ++ t.data.toList)), blk r.a 118 [.int .i64 (k : Nat), v', .int .i64 (r.f.safe : Nat)], holeA x.rs k, fsH p (fa1 d) x, mpe x.sb skv x.es x.cs, mpe x.fb skv x.ef x.cf, own 127 3 x.pv x.ps.length (x.ps.flatMap encP)]) sp0) ?_
      exact fs_set (hx.fa _ _) hr (r' := ⟨r.a, v', ⟨r.f.bytes ++ t.data.toList, r.f.safe⟩⟩) rfl (by have := real_of hd hf; show r.f.safe ≤ (r.f.bytes ++ t.data.toList).length; rw [List.length_append]; omega)
set_option maxHeartbeats 4000000 in
theorem cut_spec (p : Nat) (d : Dk) (hd : d.Ok) (s : ByteArray) (n : Int) : Spec Tryz.prog 85 [pv p, .string s, .int .i64 n] [FSA p d] (fun r L => r = .int .i64 (cutD d s n).2 ∧ L = [FSA p (cutD d s n).1]) := by
 refine FSA.open' fun x hx => ?_
 obtain ⟨o, e, hve⟩ := find_ptr x.rs d s
 have hfs := find_spec' (p := p) hx hve
 refine Spec.of 32 Tryz.func85 rfl rfl rfl ?_
 refine swp_sr ?_
 refine s_ef (ef_box rfl rfl) ?_
 intro b5
 refine s_as rfl ?_
 refine swl_sub _ (sc0 0 rfl (sc0 1 rfl (sc0 5 rfl .nil))) ?_
 refine swl_nn ?_
 refine swp_sr ?_
 refine s_mv rfl ?_
 refine s_mv rfl ?_
 refine s_ef (ef_fn hfs rfl rfl sp0) ?_
 rintro v12 L1 ⟨rfl, rfl⟩
 refine swl_app ?_
 refine s_mv rfl ?_
 refine s_pu (pu_extractL rfl) ?_
 refine s_pu (pu_extractL rfl) ?_
 refine s_ef (ef_alloc) ?_
 intro b7
 refine s_ef0 (ef_store rfl rfl rfl) ?_
 refine s_as rfl ?_
 refine swl_sub _ (sc0 0 rfl (sc0 5 rfl (sc0 7 rfl (sc0 8 rfl .nil)))) ?_
 refine swl_nn ?_
 refine swp_seq ?_
 refine swp_sr ?_
 refine s_mv rfl ?_
 refine s_pu (pu_neq rfl rfl) ?_
 refine swl_sub _ (sc0 0 rfl (sc0 5 rfl (sc0 7 rfl (sc0 8 rfl (sc0 16 rfl .nil))))) ?_
 refine swl_nn ?_
 refine swp_cond (b := _) rfl (fun h16 => ?_) (fun h16 => ?_)
 ·skip
  refine swp_sr ?_
  refine s_mv rfl ?_
  refine s_as rfl ?_
  refine swl_sub _ (sc0 6 rfl .nil) ?_
  refine swl_nn ?_
  refine swp_ret ?_
  refine then_r ?_
  have h16' : e ≠ 0 := by simpa using h16
  unfold cutD
  rw [find_err hve h16']
  exact done_retE [FSA p d] (.tmp rfl .nil) ⟨rfl, rfl⟩ ((Split.ent' (K := [fsH p d x, mpe x.sb skv x.es x.cs, mpe x.fb skv x.ef x.cf, own 127 3 x.pv x.ps.length (x.ps.flatMap encP), recsA x.rs]) sp0).trans (fs_close hx))
 ·skip
  have h16' : e = 0 := by simpa using h16
  subst h16'
  obtain ⟨k, hk1, hk2, hk3⟩ := find_ok hve
  obtain ⟨r, hr, hf, ha⟩ := hx.find hk1
  rw [ha] at hk2
  rw [hk2]
  have hlen := (Dk.fl_ok hd k).1
  simp only [mostF] at hlen
  rw [← hf] at hlen
  refine swp_ent (Split.ent' (K := [recsA x.rs, blk b7 114 [pv r.a], blk b5 3 [.int .i64 n], fsH p d x, mpe x.sb skv x.es x.cs, mpe x.fb skv x.ef x.cf, own 127 3 x.pv x.ps.length (x.ps.flatMap encP)]) sp0) ?_
  refine swp_ent (recs_open' hr (real_of hd hf)) ?_
  refine swp_fact (fun m h => own_cap h) fun ⟨A, c, hv, hlc, hA⟩ => ?_
  refine swp_skip ?_
  refine then_n ?_
  refine swp_cut (fun env L => Sub env [(0, pv p), (5, pv b5), (7, pv b7)] ∧ Ent L [own 5 1 r.v r.f.bytes.length (bcs r.f.bytes), blk r.a 118 [.int .i64 (k : Nat), r.v, .int .i64 (r.f.safe : Nat)], holeA x.rs k, blk b7 114 [pv r.a], blk b5 3 [.int .i64 n], fsH p d x, mpe x.sb skv x.es x.cs, mpe x.fb skv x.ef x.cf, own 127 3 x.pv x.ps.length (x.ps.flatMap encP)] ∧ 0 ≤ n ∧ n ≤ r.f.bytes.length) ?_ ?_
  ·skip
   refine swp_seq ?_
   refine swp_draw [0, 3, 4, 7] _ [] (by simp only [List.append_nil]; exact Ent.refl _) kr0 ?_
   refine d_rd 0 rfl (rd_load rfl rfl) rfl kr0 kr0 kr0 ?_
   refine d_pu 1 rfl (pu_lss rfl rfl) kr0 kr0 kr0 ?_
   refine d_pu 2 rfl (pu_move rfl) kr0 kr0 kr0 ?_
   refine d_split 20 rfl (fun h20 => ?_) (fun h20 => ?_)
   ·skip
    refine d_off 3 rfl rfl rfl rfl kr0 kr0 kr0 ?_
    refine d_off 4 rfl rfl rfl rfl kr0 kr0 kr0 ?_
    refine d_off 5 rfl rfl rfl rfl kr0 kr0 kr0 ?_
    refine d_off 6 rfl rfl rfl rfl kr0 kr0 kr0 ?_
    refine d_off 7 rfl rfl rfl rfl kr0 kr0 kr0 ?_
    refine d_off 8 rfl rfl rfl rfl kr0 kr0 kr0 ?_
    refine d_off 9 rfl rfl rfl rfl kr0 kr0 kr0 ?_
    refine d_pu 10 rfl (pu_pick_t rfl rfl) kr0 kr0 kr0 ?_
    refine d_sub _ (sc0 0 rfl (sc0 5 rfl (sc0 7 rfl (sc0 28 rfl .nil)))) ?_
    refine d_nilt kr0 ?_
    refine then_n ?_
    refine swp_cond (b := _) rfl (fun h28 => ?_) (fun h28 => by cases h28)
    refine swp_sr ?_
    refine s_as rfl ?_
    refine swl_sub _ (sc0 6 rfl .nil) ?_
    refine swl_nn ?_
    refine swp_ret ?_
    refine then_r ?_
    have h20' := of_decide_eq_true h20
    have key : cutD d s n = (d, 1) := by unfold cutD; rw [hk3, if_pos (.inl h20')]
    rw [key]
    refine done_retE [FSA p d] (.tmp rfl .nil) ⟨rfl, rfl⟩ ?_
    refine Ent.trans (Split.ent' (K := [own 5 1 r.v r.f.bytes.length (bcs r.f.bytes), blk r.a 118 [.int .i64 (k : Nat), r.v, .int .i64 (r.f.safe : Nat)], holeA x.rs k, fsH p d x, mpe x.sb skv x.es x.cs, mpe x.fb skv x.ef x.cf, own 127 3 x.pv x.ps.length (x.ps.flatMap encP)]) sp0) ?_
    exact (recs_back' hr (real_of hd hf)).trans ((Split.ent' (K := [fsH p d x, mpe x.sb skv x.es x.cs, mpe x.fb skv x.ef x.cf, own 127 3 x.pv x.ps.length (x.ps.flatMap encP), recsA x.rs]) sp0).trans (fs_close hx))
   ·skip
    refine d_rd_on 3 rfl rfl rfl (rd_load rfl rfl) rfl kr0 kr0 kr0 ?_
    refine d_rd_on 4 rfl rfl rfl (rd_load rfl rfl) rfl kr0 kr0 kr0 ?_
    refine d_pu_on 5 rfl rfl rfl (pu_nilCheck rfl) kr0 kr0 kr0 ?_
    refine d_pu_on 6 rfl rfl rfl (pu_fieldAddr0 rfl) kr0 kr0 kr0 ?_
    refine d_rd_on 7 rfl rfl rfl (rd_load rfl rfl) rfl kr0 kr0 kr0 ?_
    refine d_pu_on 8 rfl rfl rfl (pu_len_own ⟨A, c, hv⟩ rfl) kr0 kr0 kr0 ?_
    refine d_pu_on 9 rfl rfl rfl (pu_gtr rfl rfl) kr0 kr0 kr0 ?_
    refine d_pu 10 rfl (pu_pick_f rfl rfl) kr0 kr0 kr0 ?_
    refine d_sub _ (sc0 0 rfl (sc0 5 rfl (sc0 7 rfl (sc0 28 rfl .nil)))) ?_
    refine d_nilt kr0 ?_
    refine then_n ?_
    refine swp_cond (b := _) rfl (fun h28 => ?_) (fun h28 => ?_)
    ·skip
     refine swp_sr ?_
     refine s_as rfl ?_
     refine swl_sub _ (sc0 6 rfl .nil) ?_
     refine swl_nn ?_
     refine swp_ret ?_
     refine then_r ?_
     have h28' := of_decide_eq_true h28
     have key : cutD d s n = (d, 1) := by unfold cutD; rw [hk3, if_pos (.inr (by rw [← hf]; exact h28'))]
     rw [key]
     refine done_retE [FSA p d] (.tmp rfl .nil) ⟨rfl, rfl⟩ ?_
     refine Ent.trans (Split.ent' (K := [own 5 1 r.v r.f.bytes.length (bcs r.f.bytes), blk r.a 118 [.int .i64 (k : Nat), r.v, .int .i64 (r.f.safe : Nat)], holeA x.rs k, fsH p d x, mpe x.sb skv x.es x.cs, mpe x.fb skv x.ef x.cf, own 127 3 x.pv x.ps.length (x.ps.flatMap encP)]) sp0) ?_
     exact (recs_back' hr (real_of hd hf)).trans ((Split.ent' (K := [fsH p d x, mpe x.sb skv x.es x.cs, mpe x.fb skv x.ef x.cf, own 127 3 x.pv x.ps.length (x.ps.flatMap encP), recsA x.rs]) sp0).trans (fs_close hx))
    ·skip
     refine swp_skip ?_
     exact then_n ⟨⟨rfl, rfl, rfl, trivial⟩, Split.ent' sp0, by have := of_decide_eq_false h20; omega, by have := of_decide_eq_false h28; omega⟩
  rintro env L ⟨hsub, hE, h1, h2⟩
  refine swp_sub _ hsub ?_
  refine swp_ent hE ?_
  clear hsub hE env L
  obtain ⟨m, rfl⟩ : ∃ m : Nat, n = (m : Int) := ⟨n.toNat, by omega⟩
  have h2' : m ≤ r.f.bytes.length := by omega
  have hv2 : r.v = .slice A r.f.bytes.length c := hv
  refine swp_sr ?_
  refine s_mv rfl ?_
  refine s_pu (pu_func (vs := []) (us := [_, _]) rfl rfl) ?_
  refine s_ef (ef_fn (step_spec' (f := 123) (ca := [pv b7, pv b5]) (pre := [blk b7 114 [pv r.a], blk b5 3 [.int .i64 (m : Nat)], blk r.a 118 [.int .i64 (k : Nat), r.v, .int .i64 (r.f.safe : Nat)], own 5 1 r.v r.f.bytes.length (bcs r.f.bytes)]) p d.quota x.rs.length x.sb x.fb x.pv d.falls d.off hd.falls (by rw [hv2]; exact cut1_spec b7 b5 r.a k r.f.safe m r.f.bytes.length c A r.f.bytes rfl h2' hlc om0 hA)) rfl rfl sp0) ?_
  rintro v31 L1 hs
  skip
  refine s_as rfl ?_
  refine swl_sub _ (sc0 6 rfl .nil) ?_
  refine swl_nn ?_
  refine swp_ret ?_
  rcases hs with ⟨hf1, rfl, rfl⟩ | ⟨hfn, rfl, L', ⟨v', rfl⟩, rfl⟩
  ·have key : cutD d s (m : Int) = (fa0 d, 8) := by unfold cutD; rw [hk3, if_neg (by rw [← hf]; omega)]; exact atStep_1 hf1 _
   rw [key]
   refine done_retE [FSA p (fa0 d)] (.tmp rfl .nil) ⟨rfl, rfl⟩ ?_
   simp only [List.cons_append, List.nil_append]
   refine Ent.trans (Split.ent' (K := [own 5 1 r.v r.f.bytes.length (bcs r.f.bytes), blk r.a 118 [.int .i64 (k : Nat), r.v, .int .i64 (r.f.safe : Nat)], holeA x.rs k, fsH p (fa0 d) x, mpe x.sb skv x.es x.cs, mpe x.fb skv x.ef x.cf, own 127 3 x.pv x.ps.length (x.ps.flatMap encP)]) sp0) ?_
   refine (recs_back' hr (real_of hd hf)).trans ?_
   exact ((Split.ent' (K := [fsH p (fa0 d) x, mpe x.sb skv x.es x.cs, mpe x.fb skv x.ef x.cf, own 127 3 x.pv x.ps.length (x.ps.flatMap encP), recsA x.rs]) sp0).trans (fs_close (d := fa0 d) (hx.fa _ _)))
  ·have key : cutD d s (m : Int) = ((fa1 d).setF k ⟨r.f.bytes.take m, min r.f.safe m⟩, 0) := by
    unfold cutD; rw [hk3, if_neg (by rw [← hf]; omega), atStep_n hfn]
    show ((fa1 d).setF k ⟨(d.fl k).bytes.take (m : Int).toNat, min (d.fl k).safe (m : Int).toNat⟩, _) = _
    rw [← hf, Int.toNat_natCast]
   rw [key]
   refine done_retE [FSA p ((fa1 d).setF k ⟨r.f.bytes.take m, min r.f.safe m⟩)] (.tmp rfl .nil) ⟨rfl, rfl⟩ ?_
   simp only [List.cons_append, List.nil_append]
   have hl2 : m = (r.f.bytes.take m).length := by rw [List.length_take, Nat.min_eq_left h2']
   refine Ent.trans (Split.ent' (K := [own 5 1 v' m (bcs (r.f.bytes.take m)), blk r.a 118 [.int .i64 (k : Nat), v', .int .i64 (min r.f.safe m : Nat)], holeA x.rs k, fsH p (fa1 d) x, mpe x.sb skv x.es x.cs, mpe x.fb skv x.ef x.cf, own 127 3 x.pv x.ps.length (x.ps.flatMap encP)]) sp0) ?_
   have := fs_set (p := p) (L := []) (hx.fa (fa1 d).falls d.off) hr (r' := ⟨r.a, v', ⟨r.f.bytes.take m, min r.f.safe m⟩⟩) rfl (by have := real_of hd hf; show min r.f.safe m ≤ (r.f.bytes.take m).length; rw [List.length_take]; omega)
   simp only [← hl2] at this
   exact this
end SX
namespace SX
open Go Go.Proofs
instance : MClone Tryz.prog 118 := ⟨_, Tryz.func118, by kernel_rfl, by kernel_rfl, by kernel_rfl, by kernel_rfl⟩
/-- maps.Clone -/
theorem mclone_spec (b : Nat) (es : Ents ByteArray) (cl : Nat) : Spec Tryz.prog 80 [.map (some b)] [mpe b skv es cl] (fun r L => ∃ b', r = .map (some b') ∧ L = [mpe b' skv es cl, mpe b skv es cl]) := by
 refine Spec.of 9 Tryz.func80 rfl rfl rfl ?_
 refine swp_sr ?_
 refine s_as rfl ?_
 refine swl_sub _ (sc0 0 rfl .nil) ?_
 refine swl_nn ?_
 refine swp_seq ?_
 refine swp_sr ?_
 refine s_mv rfl ?_
 refine s_pu (pu_map_eq_nil rfl rfl) ?_
 refine swl_sub _ (sc0 0 rfl (sc0 4 rfl .nil)) ?_
 refine swl_nn ?_
 refine swp_cond (b := _) rfl (fun h4 => by cases h4) (fun h4 => ?_)
 refine swp_skip ?_
 refine then_n ?_
 refine swp_sr ?_
 refine s_mv rfl ?_
 refine s_pu (pu_iface rfl) ?_
 refine s_ef (ef_mclone (κ := ByteArray) rfl rfl) ?_
 rintro b7
 skip
 refine s_pu (pu_typeAssert_map rfl) ?_
 refine s_as rfl ?_
 refine swl_sub _ (sc0 2 rfl .nil) ?_
 refine swl_nn ?_
 refine swp_ret ?_
 exact done_ret [mpe b7 skv es cl, mpe b skv es cl] (.tmp rfl .nil) ⟨b7, rfl, rfl⟩ sp0
/-- SyncNames' step -/
theorem syncn1_spec (p d0 : Nat) (q : Int) (n sb fb : Nat) (w : Value) (fa : Int) (off : Bool) (es : Ents ByteArray) (cl : Nat) :
  Spec Tryz.prog 79 [pv d0] [blk p 81 (fsC q n sb fb w fa off), blk d0 27 [pv p], mpe sb skv es cl]
   (fun _ L => ∃ fb', L = [blk p 81 (fsC q n sb fb' (.slice none 0 0) fa off), mpe sb skv es cl, mpe fb' skv es cl]) := by
 refine Spec.of 12 Tryz.func79 rfl rfl rfl ?_
 refine swp_seq ?_
 refine swp_draw [0, 1, 4] ([blk p 81 (fsC q n sb fb w fa off), blk d0 27 [pv p]]) ([mpe sb skv es cl]) (Split.ent sp0) kr0 ?_
 refine d_rd 0 rfl (rd_load rfl rfl) rfl kr0 kr0 kr0 ?_
 refine d_rd 1 rfl (rd_load rfl rfl) rfl kr0 kr0 kr0 ?_
 refine d_pu 2 rfl (pu_nilCheck rfl) kr0 kr0 kr0 ?_
 refine d_pu 3 rfl (pu_fieldAddr0 rfl) kr0 kr0 kr0 ?_
 refine d_rd 4 rfl (rd_load rfl rfl) rfl kr0 kr0 kr0 ?_
 refine d_eft 5 rfl kr0 (ef_fn (mclone_spec sb es cl) rfl rfl sp0) ?_
 rintro v6 L1 ⟨b', rfl, rfl⟩
 refine ⟨_, ent_appC (Split.ent sp0), ?_⟩
 refine d_pu 6 rfl (pu_nilCheck rfl) kr0 kr0 kr0 ?_
 refine d_pu 7 rfl (pu_fieldAddr0 rfl) kr0 kr0 kr0 ?_
 refine d_fin0t 8 rfl kr0 kr0 (ef_store rfl rfl rfl) ?_
 refine d_sub _ (sc0 0 rfl .nil) ?_
 refine d_nilf kr0 ?_
 refine then_n ?_
 refine swp_region ?_
 refine s_rd (rd_load rfl rfl) ?_
 refine s_pu (pu_nilCheck rfl) ?_
 refine s_pu (pu_fieldAddr0 rfl) ?_
 refine s_ef0 (ef_store rfl rfl rfl) ?_
 refine swl_sub _ .nil ?_
 refine swl_nil ?_
 exact done_end [blk p 81 (fsC q n sb b' (.slice none 0 0) fa off), mpe sb skv es cl, mpe b' skv es cl] .nil ⟨b', rfl⟩ sp0
theorem Rep.sync {d : Dk} {x : FX} (h : Rep d x) (fb' : Nat) : Rep { d with safe := d.seen, pend := [] } { x with fb := fb', ef := x.es, cf := x.cs, ps := [], pv := .slice none 0 0 } :=
  ⟨h.seen, h.seen, h.bs, h.bs, h.len, fun k hk => h.fl k (by
    rcases hk with hk | hk | ⟨c, hc, _⟩
    · exact .inl hk
    · exact .inl hk
    · cases hc), rfl, fun i p c hp => by cases hp⟩
set_option maxHeartbeats 4000000 in
theorem syncn_spec (p : Nat) (d : Dk) (hd : d.Ok) : Spec Tryz.prog 38 [pv p] [FSA p d] (fun r L => r = .int .i64 (syncNamesD d).2 ∧ L = [FSA p (syncNamesD d).1]) := by
 refine FSA.open' fun x hx => ?_
 obtain ⟨o, e, hve⟩ := find_ptr x.rs d nos
 have hfs := find_spec' (p := p) hx hve
 have hcs := find_cases hve
 have hno : findN d.seen nos = none := findN_none.2 fun x hx e => by have := hd.names x hx; rw [e, strEq_refl] at this; cases this
 refine Spec.of 16 Tryz.func38 rfl rfl rfl ?_
 refine swp_sr ?_
 refine s_ef (ef_box rfl rfl) ?_
 intro b1
 refine s_as rfl ?_
 refine swl_sub _ (sc0 1 rfl .nil) ?_
 refine swl_nn ?_
 refine swp_seq ?_
 refine swp_sr ?_
 refine s_rd (rd_load rfl rfl) ?_
 refine s_ef (ef_fn hfs rfl rfl sp0) ?_
 rintro v7 L1 ⟨rfl, rfl⟩
 refine swl_app ?_
 refine s_mv rfl ?_
 refine s_pu (pu_extractL rfl) ?_
 refine s_pu (pu_extractL rfl) ?_
 refine s_as rfl ?_
 refine s_as rfl ?_
 refine swl_sub _ (sc0 1 rfl (sc0 4 rfl .nil)) ?_
 refine swl_nn ?_
 refine swp_sr ?_
 refine s_mv rfl ?_
 refine s_pu (pu_neq rfl rfl) ?_
 refine swl_sub _ (sc0 1 rfl (sc0 4 rfl (sc0 11 rfl .nil))) ?_
 refine swl_nn ?_
 refine swp_cond (b := _) rfl (fun h11 => ?_) (fun h11 => ?_)
 ·skip
  refine swp_sr ?_
  refine s_mv rfl ?_
  refine s_as rfl ?_
  refine swl_sub _ (sc0 2 rfl .nil) ?_
  refine swl_nn ?_
  refine swp_ret ?_
  refine then_r ?_
  have h11' : e ≠ 6 := by simpa using h11
  have h8 : e = 8 ∧ d.off = true := by
   rcases hcs with h | ⟨h, _⟩ | ⟨_, _, k, h, _⟩
   ·exact h
   ·exact absurd h h11'
   ·rw [hno] at h; cases h
  have key : syncNamesD d = (d, 8) := by unfold syncNamesD; rw [if_pos h8.2]
  rw [key, h8.1]
  exact done_retE [FSA p d] (.tmp rfl .nil) ⟨rfl, rfl⟩ ((Split.ent' (K := [fsH p d x, mpe x.sb skv x.es x.cs, mpe x.fb skv x.ef x.cf, own 127 3 x.pv x.ps.length (x.ps.flatMap encP), recsA x.rs]) sp0).trans (fs_close hx))
 ·skip
  have h11' : e = 6 := by simpa using h11
  have hoff : d.off = false := by
   rcases hcs with ⟨h, _⟩ | ⟨_, h, _⟩ | ⟨h, _⟩
   ·rw [h11'] at h; cases h
   ·exact h
   ·rw [h11'] at h; cases h
  refine swp_skip ?_
  refine then_n ?_
  refine swp_sr ?_
  refine s_rd (rd_load rfl rfl) ?_
  refine s_pu (pu_func (vs := []) (us := [_]) rfl rfl) ?_
  refine s_ef (ef_fn (step_spec (f := 79) (ca := [pv b1]) (pre := [blk b1 27 [pv p], mpe x.sb skv x.es x.cs]) p d.quota x.rs.length x.sb x.fb x.pv d.falls d.off hd.falls (fun fa' => syncn1_spec p b1 d.quota x.rs.length x.sb x.fb x.pv fa' d.off x.es x.cs)) rfl rfl sp0) ?_
  rintro v15 L1 hs
  skip
  refine s_as rfl ?_
  refine swl_sub _ (sc0 2 rfl .nil) ?_
  refine swl_nn ?_
  refine swp_ret ?_
  rcases hs with ⟨hf1, rfl, rfl⟩ | ⟨hfn, rfl, fb', rfl⟩
  ·have key : syncNamesD d = (fa0 d, 8) := by unfold syncNamesD; rw [if_neg (by rw [hoff]; decide)]; exact atStep_1 hf1 _
   rw [key]
   refine done_retE [FSA p (fa0 d)] (.tmp rfl .nil) ⟨rfl, rfl⟩ ?_
   simp only [List.cons_append, List.nil_append]
   exact ((Split.ent' (K := [fsH p (fa0 d) x, mpe x.sb skv x.es x.cs, mpe x.fb skv x.ef x.cf, own 127 3 x.pv x.ps.length (x.ps.flatMap encP), recsA x.rs]) sp0).trans (fs_close (d := fa0 d) (hx.fa _ _)))
  ·have key : syncNamesD d = (({ (fa1 d) with safe := d.seen, pend := [] } : Dk), 0) := by unfold syncNamesD; rw [if_neg (by rw [hoff]; decide)]; exact atStep_n hfn _
   rw [key]
   refine done_retE [FSA p ({ (fa1 d) with safe := d.seen, pend := [] } : Dk)] (.tmp rfl .nil) ⟨rfl, rfl⟩ ?_
   simp only [List.cons_append, List.nil_append]
   refine Ent.trans (own_nil_ent (e := 127) (n := 3)) ?_
   refine Ent.trans (Split.ent' (K := [blk p 81 (fsC d.quota x.rs.length x.sb fb' (.slice none 0 0) (if 0 < d.falls then d.falls - 1 else d.falls) d.off), mpe x.sb skv x.es x.cs, mpe fb' skv x.es x.cs, own 127 3 (.slice none 0 0) 0 [], recsA x.rs]) sp0) ?_
   exact fs_close (d := { (fa1 d) with safe := d.seen, pend := [] }) (x := { x with fb := fb', ef := x.es, cf := x.cs, ps := [], pv := .slice none 0 0 }) ((hx.fa (fa1 d).falls d.off).sync fb')
end SX
namespace SX
open Go Go.Proofs
theorem read_err {rs : List Rc} {d : Dk} {s : ByteArray} {v : Value} {e : Int} (h : findV rs d s = (v, e)) (he : e ≠ 0) : readD d s = ([], e) := by
  unfold readD
  rcases find_cases h with ⟨rfl, h1⟩ | ⟨rfl, h1, h2⟩ | ⟨h0, _⟩
  · rw [if_pos h1]
  · rw [if_neg (by rw [h1]; decide), h2]
  · exact absurd h0 he
set_option maxHeartbeats 4000000 in
theorem read_spec (p : Nat) (d : Dk) (hd : d.Ok) (s : ByteArray) : Spec Tryz.prog 34 [pv p, .string s] [FSA p d] (fun r L => r = .tuple #[.string ⟨(readD d s).1.toArray⟩, .int .i64 (readD d s).2] ∧ L = [FSA p d]) := by
 refine FSA.open' fun x hx => ?_
 obtain ⟨o, e, hve⟩ := find_ptr x.rs d s
 have hfs := find_spec' (p := p) hx hve
 refine Spec.of 22 Tryz.func34 rfl rfl rfl ?_
 refine swp_sr ?_
 refine s_as rfl ?_
 refine s_as rfl ?_
 refine swl_sub _ (sc0 0 rfl (sc0 1 rfl .nil)) ?_
 refine swl_nn ?_
 refine swp_sr ?_
 refine s_mv rfl ?_
 refine s_mv rfl ?_
 refine s_ef (ef_fn hfs rfl rfl sp0) ?_
 rintro v11 L1 ⟨rfl, rfl⟩
 refine swl_app ?_
 refine s_mv rfl ?_
 refine s_pu (pu_extractL rfl) ?_
 refine s_pu (pu_extractL rfl) ?_
 refine s_as rfl ?_
 refine s_as rfl ?_
 refine swl_sub _ (sc0 6 rfl (sc0 7 rfl .nil)) ?_
 refine swl_nn ?_
 refine swp_seq ?_
 refine swp_sr ?_
 refine s_mv rfl ?_
 refine s_pu (pu_neq rfl rfl) ?_
 refine swl_sub _ (sc0 6 rfl (sc0 7 rfl (sc0 15 rfl .nil))) ?_
 refine swl_nn ?_
 refine swp_cond (b := _) rfl (fun h15 => ?_) (fun h15 => ?_)
 ·skip
  refine swp_sr ?_
  refine s_mv rfl ?_
  refine s_as rfl ?_
  refine s_as rfl ?_
  refine swl_sub _ (sc0 4 rfl (sc0 5 rfl .nil)) ?_
  refine swl_nn ?_
  refine swp_ret ?_
  refine then_r ?_
  have h15' : e ≠ 0 := by simpa using h15
  rw [read_err hve h15']
  exact done_retE [FSA p d] (.tmp rfl (.tmp rfl .nil)) ⟨rfl, rfl⟩ ((Split.ent' (K := [fsH p d x, mpe x.sb skv x.es x.cs, mpe x.fb skv x.ef x.cf, own 127 3 x.pv x.ps.length (x.ps.flatMap encP), recsA x.rs]) sp0).trans (fs_close hx))
 ·skip
  have h15' : e = 0 := by simpa using h15
  subst h15'
  have hk3 : ∃ k, findN d.seen s = some k ∧ .pointer o = adr x.rs k ∧ readD d s = ((d.fl k).bytes, 0) := by
   rcases find_cases hve with ⟨h0, _⟩ | ⟨h0, _⟩ | ⟨_, h1, k, h2, h3⟩
   ·cases h0
   ·cases h0
   ·refine ⟨k, h2, h3, ?_⟩
    unfold readD
    rw [if_neg (by rw [h1]; decide), h2]
  obtain ⟨k, hk1, hk2, hk3⟩ := hk3
  obtain ⟨r, hr, hf, ha⟩ := hx.find hk1
  rw [ha] at hk2
  rw [hk2]
  refine swp_ent (Split.ent' (K := [recsA x.rs, fsH p d x, mpe x.sb skv x.es x.cs, mpe x.fb skv x.ef x.cf, own 127 3 x.pv x.ps.length (x.ps.flatMap encP)]) sp0) ?_
  refine swp_ent (recs_open' hr (real_of hd hf)) ?_
  refine swp_skip ?_
  refine then_n ?_
  refine swp_sr ?_
  refine s_mv rfl ?_
  refine s_pu (pu_nilCheck rfl) ?_
  refine s_pu (pu_fieldAddr0 rfl) ?_
  refine s_rd (rd_load rfl rfl) ?_
  refine s_rd (rd_bytes_own r.f.bytes rfl tk0) ?_
  refine s_as rfl ?_
  refine s_as rfl ?_
  refine swl_sub _ (sc0 4 rfl (sc0 5 rfl .nil)) ?_
  refine swl_nn ?_
  refine swp_ret ?_
  rw [hk3, ← hf]
  refine done_retE [FSA p d] (.tmp rfl (.tmp rfl .nil)) ⟨rfl, rfl⟩ ?_
  refine Ent.trans (Split.ent' (K := [own 5 1 r.v r.f.bytes.length (bcs r.f.bytes), blk r.a 118 [.int .i64 (k : Nat), r.v, .int .i64 (r.f.safe : Nat)], holeA x.rs k, fsH p d x, mpe x.sb skv x.es x.cs, mpe x.fb skv x.ef x.cf, own 127 3 x.pv x.ps.length (x.ps.flatMap encP)]) sp0) ?_
  exact (recs_back' hr (real_of hd hf)).trans ((Split.ent' (K := [fsH p d x, mpe x.sb skv x.es x.cs, mpe x.fb skv x.ef x.cf, own 127 3 x.pv x.ps.length (x.ps.flatMap encP), recsA x.rs]) sp0).trans (fs_close hx))
theorem newD_rep (q : Int) (sb fb : Nat) : Rep (newD q) ⟨sb, fb, [], 0, [], 0, [], [], .slice none 0 0⟩ :=
  ⟨.nil _, .nil _, .nil _, .nil _, rfl, (fun k hk => by
    rcases hk with ⟨⟨y, hy, _⟩⟩ | ⟨⟨y, hy, _⟩⟩ | ⟨c, hc, _⟩
    · cases hy
    · cases hy
    · cases hc), rfl, fun i p c hp => by cases hp⟩
def newOk (q : Int) : Prop := 0 ≤ q ∧ q ≤ 16777216
theorem new_spec (q : Int) : Spec Tryz.prog 8 [.int .i64 q] [] (fun r L => (¬ newOk q ∧ r = .tuple #[.pointer none, .int .i64 1] ∧ L = []) ∨ (newOk q ∧ ∃ p, r = .tuple #[pv p, .int .i64 0] ∧ L = [FSA p (newD q)])) := by
 refine Spec.of 15 Tryz.func8 rfl rfl rfl ?_
 refine swp_sr ?_
 refine s_as rfl ?_
 refine s_as rfl ?_
 refine swl_sub _ (sc0 0 rfl .nil) ?_
 refine swl_nn ?_
 refine swp_seq ?_
 refine swp_sr ?_
 refine s_mv rfl ?_
 refine s_pu (pu_lss rfl rfl) ?_
 refine s_mv rfl ?_
 refine s_split 6 rfl (fun h6 => ?_) (fun h6 => ?_)
 ·skip
  refine s_off rfl rfl rfl ?_
  refine s_off rfl rfl rfl ?_
  refine s_pu (pu_pick_t rfl rfl) ?_
  refine swl_sub _ (sc0 0 rfl (sc0 9 rfl .nil)) ?_
  refine swl_nn ?_
  refine swp_cond (b := _) rfl (fun h9 => ?_) (fun h9 => by cases h9)
  refine swp_sr ?_
  refine s_as rfl ?_
  refine s_as rfl ?_
  refine swl_sub _ (sc0 2 rfl (sc0 3 rfl .nil)) ?_
  refine swl_nn ?_
  refine swp_ret ?_
  refine then_r ?_
  exact done_ret [] (.tmp rfl (.tmp rfl .nil)) (.inl ⟨fun h => by have := of_decide_eq_true h6; have := h.1; omega, rfl, rfl⟩) sp0
 ·skip
  refine s_on rfl rfl ?_
  refine s_mv rfl ?_
  refine s_on rfl rfl ?_
  refine s_pu (pu_gtr rfl rfl) ?_
  refine s_pu (pu_pick_f rfl rfl) ?_
  refine swl_sub _ (sc0 0 rfl (sc0 9 rfl .nil)) ?_
  refine swl_nn ?_
  refine swp_cond (b := _) rfl (fun h9 => ?_) (fun h9 => ?_)
  ·skip
   refine swp_sr ?_
   refine s_as rfl ?_
   refine s_as rfl ?_
   refine swl_sub _ (sc0 2 rfl (sc0 3 rfl .nil)) ?_
   refine swl_nn ?_
   refine swp_ret ?_
   refine then_r ?_
   exact done_ret [] (.tmp rfl (.tmp rfl .nil)) (.inl ⟨fun h => by have := of_decide_eq_true h9; have := h.2; omega, rfl, rfl⟩) sp0
  ·skip
   refine swp_skip ?_
   refine then_n ?_
   refine swp_sr ?_
   refine s_mv rfl ?_
   refine s_ef (ef_makeMap (kv := skv)) ?_
   intro b11
   refine s_ef (ef_makeMap (kv := skv)) ?_
   intro b12
   refine s_pu (pu_bld (qs := [(0, _), (2, _), (3, _)]) rfl) ?_
   refine s_ef (ef_box rfl rfl) ?_
   intro b14
   refine s_as rfl ?_
   refine s_as rfl ?_
   refine swl_sub _ (sc0 2 rfl (sc0 3 rfl .nil)) ?_
   refine swl_nn ?_
   refine swp_ret ?_
   refine done_retE [FSA b14 (newD q)] (.tmp rfl (.tmp rfl .nil)) (.inr ⟨⟨by have := of_decide_eq_false h6; omega, by have := of_decide_eq_false h9; omega⟩, b14, rfl, rfl⟩) ?_
   refine Ent.trans (own_nil_ent (e := 127) (n := 3)) ?_
   have e1 : Ent [] [recsA []] := star_close (K := []) (L := [])
   exact Ent.trans (Split.ent' (K := [blk b14 81 [.int .i64 q, .int .i64 0, .map (some b11), .map (some b12), .slice none 0 0, .int .i64 0, .bool false], mpe b11 skv [] 0, mpe b12 skv [] 0, own 127 3 (.slice none 0 0) 0 []]) sp0) ((Ent.under (X := [blk b14 81 [.int .i64 q, .int .i64 0, .map (some b11), .map (some b12), .slice none 0 0, .int .i64 0, .bool false], mpe b11 skv [] 0, mpe b12 skv [] 0, own 127 3 (.slice none 0 0) 0 []]) e1).trans (fs_close (newD_rep q b11 b12)))
end SX
namespace SX
open Go Go.Proofs
def brk (k : Nat) (W : Assn) : Nat → Assn := fun i => if i = k then W else (fun _ => False : Assn)
theorem brk_hit (k : Nat) (W : Assn) : brk k W k = W := if_pos rfl
theorem brk_miss {k i : Nat} (W : Assn) (h : ¬ i = k) {m : PH} (hm : brk k W i m) : False := by
  have e : brk k W i = (fun _ => False : Assn) := if_neg h
  rw [e] at hm; exact hm
abbrev logN : ByteArray := ⟨#[108, 111, 103]⟩
/-- the rest of the log is cut off -/
def cutRest (d : Dk) (n len : Nat) : Dk × Int := if n = len then (d, 0) else cutD d logN (n : Nat)
def settleD (d : Dk) (n len : Nat) : Dk × Int :=
  if (cutRest d n len).2 ≠ 0 then cutRest d n len else
  if (syncD (cutRest d n len).1 logN).2 ≠ 0 then syncD (cutRest d n len).1 logN else syncNamesD (syncD (cutRest d n len).1 logN).1
abbrev recL (q b5 b3 b2 p : Nat) (W : SW) (d : Dk) (n : Nat) (s : List UInt8) : List Assn := [FSA q d, blk b5 3 [.int .i64 (n : Nat)], blk b3 9 [.string (str s)], blk b2 31 [pv p], stH p W]
theorem rec1_spec (b5 b3 b2 p : Nat) (W : SW) (d : Dk) (hd : d.Ok) (n : Nat) (s : List UInt8) : Spec Tryz.prog 84 [pv b5, pv b3, pv b2] (recL W.q b5 b3 b2 p W d n s) (fun r L => r = .int .i64 (cutRest d n s.length).2 ∧ L = recL W.q b5 b3 b2 p W (cutRest d n s.length).1 n s) := by
 refine Spec.of 14 Tryz.func84 rfl rfl rfl ?_
 refine swp_sr ?_
 refine s_as rfl ?_
 refine swl_sub _ (sc0 0 rfl (sc0 1 rfl (sc0 2 rfl .nil))) ?_
 refine swl_nn ?_
 refine swp_seq ?_
 refine swp_sr ?_
 refine s_rd (rd_load rfl rfl) ?_
 refine s_rd (rd_load rfl rfl) ?_
 refine s_pu (pu_strln rfl) ?_
 refine s_pu (pu_eql rfl rfl) ?_
 refine swl_sub _ (sc0 0 rfl (sc0 2 rfl (sc0 7 rfl .nil))) ?_
 refine swl_nn ?_
 refine swp_cond (b := _) rfl (fun h7 => ?_) (fun h7 => ?_)
 ·skip
  refine swp_sr ?_
  refine s_as rfl ?_
  refine swl_sub _ (sc0 3 rfl .nil) ?_
  refine swl_nn ?_
  refine swp_ret ?_
  refine then_r ?_
  have h7' : n = s.length := by have := of_decide_eq_true h7; omega
  have e : cutRest d n s.length = (d, 0) := by unfold cutRest; rw [if_pos h7']
  rw [e]
  exact done_ret (recL W.q b5 b3 b2 p W d n s) (.tmp rfl .nil) ⟨rfl, rfl⟩ sp0
 ·skip
  have h7' : ¬ n = s.length := fun e => (of_decide_eq_false h7) om0
  have e : cutRest d n s.length = cutD d logN (n : Nat) := by unfold cutRest; rw [if_neg h7']
  rw [e]
  refine swp_skip ?_
  refine then_n ?_
  refine swp_seq ?_
  refine swp_draw [0, 3, 4] _ [] (by simp only [List.append_nil]; exact Ent.refl _) kr0 ?_
  refine d_rd 0 rfl (rd_load rfl rfl) rfl kr0 kr0 kr0 ?_
  refine d_pu 1 rfl (pu_nilCheck rfl) kr0 kr0 kr0 ?_
  refine d_pu 2 rfl (pu_fieldAddr0 rfl) kr0 kr0 kr0 ?_
  refine d_rd 3 rfl (rd_load rfl rfl) rfl kr0 kr0 kr0 ?_
  refine d_rd 4 rfl (rd_load rfl rfl) rfl kr0 kr0 kr0 ?_
  refine d_fint 5 rfl kr0 kr0 (ef_fn (cut_spec W.q d hd logN (n : Nat)) rfl rfl sp0) ?_
  rintro v13 L1 ⟨rfl, rfl⟩
  refine swd_app ?_
  refine d_pu 6 rfl (pu_assign rfl) kr0 kr0 kr0 ?_
  refine d_sub _ (sc0 3 rfl .nil) ?_
  refine d_nilf kr0 ?_
  refine then_n ?_
  refine swp_ret ?_
  exact done_ret (recL W.q b5 b3 b2 p W (cutD d logN (n : Nat)).1 n s) (.tmp rfl .nil) ⟨rfl, rfl⟩ sp0
theorem rec2_spec (b5 b3 b2 p : Nat) (W : SW) (d : Dk) (hd : d.Ok) (n : Nat) (s : List UInt8) : Spec Tryz.prog 86 [pv b2] (recL W.q b5 b3 b2 p W d n s) (fun r L => r = .int .i64 (syncD d logN).2 ∧ L = recL W.q b5 b3 b2 p W (syncD d logN).1 n s) := by
 refine Spec.of 7 Tryz.func86 rfl rfl rfl ?_
 refine swp_sr ?_
 refine s_as rfl ?_
 refine swl_sub _ (sc0 0 rfl .nil) ?_
 refine swl_nn ?_
 refine swp_sr ?_
 refine s_rd (rd_load rfl rfl) ?_
 refine s_pu (pu_nilCheck rfl) ?_
 refine s_pu (pu_fieldAddr0 rfl) ?_
 refine s_rd (rd_load rfl rfl) ?_
 refine s_ef (ef_fn (sync_spec W.q d hd logN) rfl rfl sp0) ?_
 rintro v6 L1 ⟨rfl, rfl⟩
 refine swl_app ?_
 refine s_as rfl ?_
 refine swl_sub _ (sc0 1 rfl .nil) ?_
 refine swl_nn ?_
 refine swp_ret ?_
 exact done_ret (recL W.q b5 b3 b2 p W (syncD d logN).1 n s) (.tmp rfl .nil) ⟨rfl, rfl⟩ sp0
theorem rec3_spec (b5 b3 b2 p : Nat) (W : SW) (d : Dk) (hd : d.Ok) (n : Nat) (s : List UInt8) : Spec Tryz.prog 38 [pv W.q] (recL W.q b5 b3 b2 p W d n s) (fun r L => r = .int .i64 (syncNamesD d).2 ∧ L = recL W.q b5 b3 b2 p W (syncNamesD d).1 n s) :=
  Spec.mono (Spec.fr (syncn_spec W.q d hd) [blk b5 3 [.int .i64 (n : Nat)], blk b3 9 [.string (str s)], blk b2 31 [pv p], stH p W]) (by rintro r L ⟨L', ⟨rfl, rfl⟩, rfl⟩; exact ⟨rfl, rfl⟩)
theorem settle_steps (b5 b3 b2 p : Nat) (W : SW) (d : Dk) (hd : d.Ok) (n : Nat) (s : List UInt8) :
    StepsF [.func (.func 84) #[] #[pv b5, pv b3, pv b2], .func (.func 86) #[] #[pv b2], .func (.func 38) #[pv W.q] #[]] (recL W.q b5 b3 b2 p W d n s) (fun e L => e = (settleD d n s.length).2 ∧ L = recL W.q b5 b3 b2 p W (settleD d n s.length).1 n s) := by
  have hd1 : (cutRest d n s.length).1.Ok := by unfold cutRest; split; exact hd; exact cutD_ok hd _ _
  refine ⟨84, inferInstance, [], [pv b5, pv b3, pv b2], rfl, Spec.mono (rec1_spec b5 b3 b2 p W d hd n s) ?_⟩
  rintro r L ⟨rfl, rfl⟩
  refine ⟨_, rfl, ?_⟩
  by_cases h1 : (cutRest d n s.length).2 = 0
  · refine .inl ⟨h1, 86, inferInstance, [], [pv b2], rfl, Spec.mono (rec2_spec b5 b3 b2 p W _ hd1 n s) ?_⟩
    rintro r L ⟨rfl, rfl⟩
    refine ⟨_, rfl, ?_⟩
    by_cases h2 : (syncD (cutRest d n s.length).1 logN).2 = 0
    · refine .inl ⟨h2, 38, inferInstance, [pv W.q], [], rfl, Spec.mono (rec3_spec b5 b3 b2 p W _ (syncD_ok hd1 _) n s) ?_⟩
      rintro r L ⟨rfl, rfl⟩
      have e : settleD d n s.length = syncNamesD (syncD (cutRest d n s.length).1 logN).1 := by unfold settleD; rw [if_neg (not_not_intro h1), if_neg (not_not_intro h2)]
      refine ⟨_, rfl, ?_⟩
      by_cases h3 : (syncNamesD (syncD (cutRest d n s.length).1 logN).1).2 = 0
      · exact .inl ⟨h3, by rw [e]; exact ⟨h3.symm, rfl⟩⟩
      · exact .inr ⟨h3, by rw [e]; exact ⟨rfl, rfl⟩⟩
    · have e : settleD d n s.length = syncD (cutRest d n s.length).1 logN := by unfold settleD; rw [if_neg (not_not_intro h1), if_pos h2]
      exact .inr ⟨h2, by rw [e]; exact ⟨rfl, rfl⟩⟩
  · have e : settleD d n s.length = cutRest d n s.length := by unfold settleD; rw [if_pos h1]
    exact .inr ⟨h1, by rw [e]; exact ⟨rfl, rfl⟩⟩
/-- the store while its log is read -/
abbrev RecX (μ : PH) (W : SW) (l : List Fm) : Type := {x : SW × PH // Le μ x.2 ∧ x.1.Ok x.2 ∧ x.1.q = W.q ∧ x.1.dead = W.dead ∧ stands W.pl l = some x.1.pl}
abbrev recK (q b5 b3 b2 p : Nat) (d : Dk) (s : List UInt8) (n : Nat) (x : SW × PH) : List Assn := recL q b5 b3 b2 p x.1 d n s ++ [ttA x.1, ccA x.1, ro x.2]
def recC (μ : PH) (W : SW) (b5 b3 b2 p : Nat) (d : Dk) (s : List UInt8) (l : List Fm) : Assn := exA fun x : RecX μ W l => recK W.q b5 b3 b2 p d s (sizeF l) x.1
abbrev FinX (μ : PH) (W : SW) (l : List Fm) : Type := {x : SW × PH // Le μ x.2 ∧ x.1.Ok x.2 ∧ x.1.q = W.q ∧ x.1.dead = W.dead ∧ x.1.pl = (runS W.pl l).1}
def recF (μ : PH) (W : SW) (b5 b3 b2 p : Nat) (d : Dk) (s : List UInt8) : Assn := exA fun x : FinX μ W (scan s) => recK W.q b5 b3 b2 p d s (runS W.pl (scan s)).2 x.1
theorem StandQ.two {μ μ' : PH} {W W' : SW} {f : Fm} {r : Value} (h : StandQ μ W f r W' μ') : ∃ b : Bool, r = .bool b ∧ (b = false → stand1 W.pl f = none ∧ W'.pl = W.pl) ∧ (b = true → stand1 W.pl f = some W'.pl) := by
  obtain ⟨_, _, _, _, h⟩ := h
  rcases h with ⟨h1, h2, h3⟩ | ⟨s, h1, h2, h3⟩
  · exact ⟨false, h2, fun _ => ⟨h1, h3⟩, fun k => (by cases k)⟩
  · exact ⟨true, h2, fun k => (by cases k), fun _ => by rw [h3]; exact h1⟩
set_option maxHeartbeats 4000000 in
theorem recover_spec (μ : PH) (p : Nat) (W : SW) (hW : W.Ok μ) (d : Dk) (hd : d.Ok) (s : List UInt8) (hs : s.length ≤ 1073741824) : Spec Tryz.prog 39 [pv p, .string (str s)] [FSA W.q d, stH p W, ttA W, ccA W, ro μ]
  (fun r L => ∃ W' μ', Le μ μ' ∧ W'.Ok μ' ∧ W'.q = W.q ∧ W'.dead = W.dead ∧ W'.pl = (runS W.pl (scan s)).1 ∧ r = .int .i64 (settleD d (runS W.pl (scan s)).2 s.length).2 ∧ L = [FSA W.q (settleD d (runS W.pl (scan s)).2 s.length).1, stH p W', ttA W', ccA W', ro μ']) := by
 refine Spec.of 29 Tryz.func39 rfl rfl rfl ?_
 refine swp_sr ?_
 refine s_ef (ef_box rfl rfl) ?_
 intro b2
 refine s_ef (ef_box rfl rfl) ?_
 intro b3
 refine s_as rfl ?_
 refine swl_sub _ (sc0 2 rfl (sc0 3 rfl .nil)) ?_
 refine swl_nn ?_
 refine swp_sr ?_
 refine s_ef (ef_alloc) ?_
 intro b5
 refine s_ef0 (ef_store rfl rfl rfl) ?_
 refine swl_sub _ (sc0 2 rfl (sc0 3 rfl (sc0 5 rfl .nil))) ?_
 refine swl_nn ?_
 refine swp_cut (fun env L => Sub env [(2, pv b2), (3, pv b3), (5, pv b5)] ∧ Ent L [recF μ W b5 b3 b2 p d s]) ?_ ?_
 ·skip
  refine swp_sr ?_
  refine s_rd (rd_load rfl rfl) ?_
  refine s_ef (ef_fn (each_spec s) rfl rfl sp0) ?_
  rintro v9 L1 ⟨be, rfl, rfl⟩
  refine swl_app ?_
  refine swl_sub _ (sc0 2 rfl (sc0 3 rfl (sc0 5 rfl (sc0 9 rfl .nil)))) ?_
  refine swl_nn ?_
  refine swp_block ?_
  refine swp_rangeK (each_iter be s hs) (B := recK W.q b5 b3 b2 p d s 0 (W, μ)) (fun pre => recC μ W b5 b3 b2 p d s (pre.map (·.2))) (fun _ => False) (brk 0 (recF μ W b5 b3 b2 p d s)) rfl rfl (fun _ => rfl) ((Split.ent (K := [blk be 9 [.string (str s)], FSA W.q d, blk b5 3 [.int .i64 0], blk b3 9 [.string (str s)], blk b2 31 [pv p], stH p W, ttA W, ccA W, ro μ]) sp0).trans (by rw [List.append_nil]; exact Ent.refl _)) (ent_ex1 (F := fun x : RecX μ W [] => recK W.q b5 b3 b2 p d s 0 x.1) ⟨(W, μ), Le.refl _, hW, rfl, rfl, rfl⟩) ?_ ?_ ?_ ?_
  ·skip
   rintro ln pre x ⟨⟨post, hpost⟩, hx1, hx2, hx3⟩
   refine swp_ex fun ⟨⟨W1, μ1⟩, h1, h2, h3, h4, h5⟩ => ?_
   refine swp_app ?_
   dsimp only at h1 h2 h3 h4 h5 ⊢
   simp only [recK, recL, List.cons_append, List.nil_append]
   refine swp_sr ?_
   refine s_as rfl ?_
   refine swl_sub _ (sc0 2 rfl (sc0 5 rfl (sc0 6 rfl (sc0 11 rfl .nil)))) ?_
   refine swl_nn ?_
   refine swp_region ?_
   refine s_ef (ef_alloc) ?_
   intro b7
   refine s_ef0 (ef_storeA rfl rfl rfl rfl) ?_
   refine swl_sub _ (sc0 2 rfl (sc0 5 rfl (sc0 6 rfl (sc0 7 rfl .nil)))) ?_
   refine swl_nn ?_
   refine swp_block ?_
   refine swp_seq ?_
   refine swp_sr ?_
   refine s_rd (rd_load rfl rfl) ?_
   refine s_rd (rd_loadW rfl rfl) ?_
   refine s_ef (ef_fn (stand_spec μ1 p W1 h2 x.2 om0) rfl rfl sp0) ?_
   rintro v14 L1 ⟨W2, μ2, hst, rfl⟩
   obtain ⟨bv, rfl, hb1, hb2⟩ := hst.two
   obtain ⟨g1, g2, g3, g4, _⟩ := hst
   refine swl_app ?_
   refine s_pu (pu_not rfl) ?_
   refine swl_sub _ (sc0 5 rfl (sc0 6 rfl (sc0 7 rfl (sc0 15 rfl .nil)))) ?_
   refine swl_nn ?_
   refine swp_cond (b := _) rfl (fun h15 => ?_) (fun h15 => ?_)
   ·skip
    refine swp_exit ?_
    refine then_x ?_
    refine block_miss rfl ?_
    refine rnd_x ?_
    have hbv : bv = false := by simpa using h15
    obtain ⟨k1, k2⟩ := hb1 hbv
    have hrun : runS W.pl (scan s) = (W1.pl, sizeF (pre.map (·.2))) := by rw [hpost]; exact runS_stop h5 k1
    rw [brk_hit]
    refine (Split.ent' (K := [FSA W.q d, blk b5 3 [.int .i64 (sizeF (pre.map (·.2)) : Nat)], blk b3 9 [.string (str s)], blk b2 31 [pv p], stH p W2, ttA W2, ccA W2, ro μ2]) sp0).trans ?_
    have e2 : sizeF (pre.map (·.2)) = (runS W.pl (scan s)).2 := by rw [hrun]
    rw [e2]
    exact ent_ex1 (F := fun x : FinX μ W (scan s) => recK W.q b5 b3 b2 p d s (runS W.pl (scan s)).2 x.1) ⟨(W2, μ2), h1.trans g1, g2, g3.trans h3, g4.trans h4, by rw [hrun]; exact k2⟩
   ·skip
    refine swp_skip ?_
    refine then_n ?_
    refine swp_region ?_
    refine s_mv rfl ?_
    refine s_rd (rd_loadW rfl rfl) ?_
    have hsz : x.1 + (x.2.2.length + 9) = sizeF ((pre ++ [x]).map (·.2)) := by
     rw [List.map_append, sizeF_app, ← hx1]
     show _ = x.1 + (x.2.2.length + 9 + 0)
     omega
    refine s_ef (ef_fn (fsize_spec x.2 hx2) rfl rfl sp0) ?_
    rintro v18 L2 ⟨rfl, rfl⟩
    refine swl_app ?_
    refine s_pu (pu_add_as ((sizeF ((pre ++ [x]).map (·.2)) : Nat) : Int) rfl rfl om0 om0 om0) ?_
    refine s_ef0 (ef_store rfl rfl rfl) ?_
    refine swl_sub _ .nil ?_
    refine swl_nil ?_
    refine block_n ?_
    refine rnd_n ?_
    have hbv : bv = true := by simpa using h15
    have k1 := hb2 hbv
    refine (Split.ent' (K := [FSA W.q d, blk b5 3 [.int .i64 (sizeF ((pre ++ [x]).map (·.2)) : Nat)], blk b3 9 [.string (str s)], blk b2 31 [pv p], stH p W2, ttA W2, ccA W2, ro μ2]) sp0).trans ?_
    exact ent_ex1 (F := fun y : RecX μ W ((pre ++ [x]).map (·.2)) => recK W.q b5 b3 b2 p d s (sizeF ((pre ++ [x]).map (·.2))) y.1) ⟨(W2, μ2), h1.trans g1, g2, g3.trans h3, g4.trans h4, by rw [List.map_append]; exact stands_snoc h5 k1⟩
  ·skip
   rintro ys hys
   refine block_n ?_
   refine then_n ⟨⟨rfl, rfl, rfl, trivial⟩, ?_⟩
   rw [hys]
   refine ent_open fun ⟨⟨W1, μ1⟩, h1, h2, h3, h4, h5⟩ => ?_
   have hrun := runS_all h5
   have e2 : sizeF (scan s) = (runS W.pl (scan s)).2 := by rw [hrun]
   rw [e2]
   simp only [recK, recL, List.cons_append, List.nil_append]
   refine (Split.ent' (K := [FSA W.q d, blk b5 3 [.int .i64 ((runS W.pl (scan s)).2 : Nat)], blk b3 9 [.string (str s)], blk b2 31 [pv p], stH p W1, ttA W1, ccA W1, ro μ1]) sp0).trans ?_
   exact ent_ex1 (F := fun x : FinX μ W (scan s) => recK W.q b5 b3 b2 p d s (runS W.pl (scan s)).2 x.1) ⟨(W1, μ1), h1, h2, h3, h4, by rw [hrun]⟩
  ·exact swp_fact (p := False) (fun m h => by obtain ⟨_, _, h, _⟩ := h; exact h) False.elim
  ·intro j
   by_cases hj : j = 0
   ·subst hj
    refine swp_exit ?_
    refine block_hit rfl ?_
    exact then_n ⟨⟨rfl, rfl, rfl, trivial⟩, by rw [brk_hit]; exact Split.ent' sp0⟩
   ·exact swp_fact (p := False) (fun m h => by obtain ⟨_, _, h, _⟩ := h; exact brk_miss _ hj h) False.elim
 rintro env L ⟨hsub, hE⟩
 refine swp_sub _ hsub ?_
 refine swp_ent hE ?_
 clear hsub hE env L
 refine swp_ex fun ⟨⟨W1, μ1⟩, h1, h2, h3, h4, h5⟩ => ?_
 refine swp_app ?_
 dsimp only at h1 h2 h3 h4 h5 ⊢
 simp only [recK, recL, List.cons_append, List.nil_append]
 generalize (runS W.pl (scan s)).2 = n at *
 rw [← h3]
 refine swp_sr ?_
 refine s_pu (pu_func (vs := []) (us := [_, _, _]) rfl rfl) ?_
 refine s_pu (pu_func (vs := []) (us := [_]) rfl rfl) ?_
 refine s_rd (rd_load rfl rfl) ?_
 refine s_pu (pu_nilCheck rfl) ?_
 refine s_pu (pu_fieldAddr0 rfl) ?_
 refine s_rd (rd_load rfl rfl) ?_
 refine s_pu (pu_func (vs := [_]) (us := []) rfl rfl) ?_
 refine s_ef (ef_bldS (qs := [(0, _), (1, _), (2, _)]) rfl rfl rfl) ?_
 intro b27
 refine s_ef (ef_fn (first_spec b27 3 [.func (.func 84) #[] #[pv b5, pv b3, pv b2], .func (.func 86) #[] #[pv b2], .func (.func 38) #[pv W1.q] #[]] (recL W1.q b5 b3 b2 p W1 d n s) _ (by show 3 ≤ 1000; decide) (settle_steps b5 b3 b2 p W1 d hd n s)) rfl rfl sp0) ?_
 rintro v28 L1 ⟨e, L2, rfl, ⟨rfl, rfl⟩, rfl⟩
 refine swl_app ?_
 refine s_as rfl ?_
 refine swl_sub _ (sc0 4 rfl .nil) ?_
 refine swl_nn ?_
 refine swp_ret ?_
 exact done_ret [FSA W1.q (settleD d n s.length).1, stH p W1, ttA W1, ccA W1, ro μ1] (.tmp rfl .nil) ⟨W1, μ1, h1, h2, rfl, h4, h5, rfl, rfl⟩ sp0
end SX
namespace SX
open Go Go.Proofs
theorem readD_len {d : Dk} (h : d.Ok) (s : ByteArray) : (readD d s).1.length ≤ 1073741824 := by
  unfold readD
  split
  · exact Nat.zero_le _
  · split
    · exact Nat.zero_le _
    · rename_i k hk
      have := (Dk.fl_ok h k).1
      unfold mostF at this
      show (d.fl k).bytes.length ≤ _
      omega
theorem readD_err {d : Dk} {s : ByteArray} (h : (readD d s).2 ≠ 0) : (readD d s).1 = [] := by
  unfold readD at h ⊢
  split
  · rfl
  · split
    · rfl
    · rename_i h1 _ _ hk
      rw [if_neg h1, hk] at h
      exact absurd rfl h
/-- a new log -/
def freshD (d : Dk) : Dk × Int := if (createD d logN).2 ≠ 0 then createD d logN else syncNamesD (createD d logN).1
/-- the trees and commits of a log -/
def openS (d : Dk) : St2 := (runS ([], []) (scan (readD d logN).1)).1
def openD (d : Dk) : Dk × Int := if (readD d logN).2 = 6 then freshD d else if (readD d logN).2 ≠ 0 then (d, (readD d logN).2) else
  settleD d (runS ([], []) (scan (readD d logN).1)).2 (readD d logN).1.length
theorem open1_spec (b1 q : Nat) (d : Dk) (hd : d.Ok) (hw : Few d) : Spec Tryz.prog 36 [pv b1] [FSA q d, blk b1 27 [pv q]] (fun r L => r = .int .i64 (createD d logN).2 ∧ L = [FSA q (createD d logN).1, blk b1 27 [pv q]]) := by
 refine Spec.of 4 Tryz.func36 rfl rfl rfl ?_
 refine swp_sr ?_
 refine s_as rfl ?_
 refine swl_sub _ (sc0 0 rfl .nil) ?_
 refine swl_nn ?_
 refine swp_sr ?_
 refine s_rd (rd_load rfl rfl) ?_
 refine s_ef (ef_fn (create_spec q d hd hw logN) rfl rfl sp0) ?_
 rintro v3 L1 ⟨rfl, rfl⟩
 refine swl_app ?_
 refine s_as rfl ?_
 refine swl_sub _ (sc0 1 rfl .nil) ?_
 refine swl_nn ?_
 refine swp_ret ?_
 exact done_ret [FSA q (createD d logN).1, blk b1 27 [pv q]] (.tmp rfl .nil) ⟨rfl, rfl⟩ sp0
theorem fresh_steps (b1 q : Nat) (d : Dk) (hd : d.Ok) (hw : Few d) :
    StepsF [.func (.func 36) #[] #[pv b1], .func (.func 38) #[pv q] #[]] [FSA q d, blk b1 27 [pv q]] (fun e L => e = (freshD d).2 ∧ L = [FSA q (freshD d).1, blk b1 27 [pv q]]) := by
  have hd1 := createD_ok hd logN
  refine ⟨36, inferInstance, [], [pv b1], rfl, Spec.mono (open1_spec b1 q d hd hw) ?_⟩
  rintro r L ⟨rfl, rfl⟩
  refine ⟨_, rfl, ?_⟩
  by_cases h1 : (createD d logN).2 = 0
  · refine .inl ⟨h1, 38, inferInstance, [pv q], [], rfl, Spec.mono (Spec.fr (syncn_spec q _ hd1) [blk b1 27 [pv q]]) ?_⟩
    rintro r L ⟨L', ⟨rfl, rfl⟩, rfl⟩
    have e : freshD d = syncNamesD (createD d logN).1 := by unfold freshD; rw [if_neg (not_not_intro h1)]
    refine ⟨_, rfl, ?_⟩
    by_cases h3 : (syncNamesD (createD d logN).1).2 = 0
    · exact .inl ⟨h3, by rw [e]; exact ⟨h3.symm, rfl⟩⟩
    · exact .inr ⟨h3, by rw [e]; exact ⟨rfl, rfl⟩⟩
  · have e : freshD d = createD d logN := by unfold freshD; rw [if_pos h1]
    exact .inr ⟨h1, by rw [e]; exact ⟨rfl, rfl⟩⟩
/-- what opening answers -/
def OpenQ (μ : PH) (q : Nat) (d : Dk) (e : Int) (W : SW) (μ' : PH) : Prop := Le μ μ' ∧ W.Ok μ' ∧ W.q = q ∧ W.dead = false ∧ e = (openD d).2 ∧ (e = 0 → W.pl = openS d)
abbrev newSW (q : Nat) : SW := ⟨q, .slice none 0 0, .slice none 0 0, [], [], false⟩
theorem newSW_ok (μ : PH) (q : Nat) : (newSW q).Ok μ := ⟨⟨none, 0, rfl⟩, ⟨none, 0, rfl⟩, fun x hx => (by cases hx), fun x hx => (by cases hx), Nat.zero_le _, Nat.zero_le _⟩
set_option maxHeartbeats 4000000 in
theorem open_spec (μ : PH) (q : Nat) (d : Dk) (hd : d.Ok) (hw : Few d) : Spec Tryz.prog 9 [pv q] [FSA q d, ro μ] (fun r L => ∃ p W μ' e, OpenQ μ q d e W μ' ∧ r = .tuple #[if e = 0 then pv p else .pointer none, .int .i64 e] ∧ L = [FSA q (openD d).1, stH p W, ttA W, ccA W, ro μ']) := by
 refine Spec.of 34 Tryz.func9 rfl rfl rfl ?_
 refine swp_sr ?_
 refine s_ef (ef_box rfl rfl) ?_
 intro b1
 refine s_as rfl ?_
 refine s_as rfl ?_
 refine swl_sub _ (sc0 1 rfl .nil) ?_
 refine swl_nn ?_
 refine swp_seq ?_
 refine swp_sr ?_
 refine s_rd (rd_load rfl rfl) ?_
 refine s_pu (pu_ptr_eq_nil rfl rfl) ?_
 refine swl_sub _ (sc0 1 rfl (sc0 8 rfl .nil)) ?_
 refine swl_nn ?_
 refine swp_cond (b := _) rfl (fun h8 => by cases h8) (fun h8 => ?_)
 refine swp_skip ?_
 refine then_n ?_
 refine swp_sr ?_
 refine s_rd (rd_load rfl rfl) ?_
 refine s_pu (pu_bld (qs := [(0, _)]) rfl) ?_
 refine s_ef (ef_box rfl rfl) ?_
 intro b11
 refine s_as rfl ?_
 refine swl_sub _ (sc0 1 rfl (sc0 4 rfl .nil)) ?_
 refine swl_ent (own_nil_ent (e := 22) (n := 1)) ?_
 refine swl_ent (own_nil_ent (e := 25) (n := 2)) ?_
 refine swl_ent (L' := [FSA q d, stH b11 (newSW q), ttA (newSW q), ccA (newSW q), blk b1 27 [pv q], ro μ]) ?_ ?_
 ·show Ent [own 25 2 (.slice none 0 0) 0 [], own 22 1 (.slice none 0 0) 0 [], blk b11 83 [pv q, .slice none 0 0, .slice none 0 0, .bool false], blk b1 27 [pv q], FSA q d, ro μ] [FSA q d, blk b11 83 [pv q, .slice none 0 0, .slice none 0 0, .bool false], own 22 1 (.slice none 0 0) 0 [], own 25 2 (.slice none 0 0) 0 [], blk b1 27 [pv q], ro μ]
  exact Split.ent' sp0
 refine swl_nn ?_
 refine swp_sr ?_
 refine s_rd (rd_load rfl rfl) ?_
 refine s_ef (ef_fn (read_spec q d hd logN) rfl rfl sp0) ?_
 rintro v14 L1 ⟨rfl, rfl⟩
 rw [show (⟨(readD d logN).1.toArray⟩ : ByteArray) = str (readD d logN).1 from rfl]
 refine swl_app ?_
 refine s_mv rfl ?_
 refine s_pu (pu_extractL rfl) ?_
 refine s_pu (pu_extractL rfl) ?_
 refine s_as rfl ?_
 refine s_as rfl ?_
 refine swl_sub _ (sc0 1 rfl (sc0 4 rfl (sc0 5 rfl (sc0 6 rfl .nil)))) ?_
 refine swl_nn ?_
 refine swp_cut (fun env L => ∃ W μ' e, OpenQ μ q d e W μ' ∧ Sub env [(4, pv b11), (6, .int .i64 e)] ∧ Ent L [FSA q (openD d).1, stH b11 W, ttA W, ccA W, ro μ']) ?_ ?_
 ·skip
  refine swp_sr ?_
  refine s_mv rfl ?_
  refine swl_sub _ (sc0 1 rfl (sc0 4 rfl (sc0 5 rfl (sc0 6 rfl (sc0 17 rfl .nil))))) ?_
  refine swl_nn ?_
  refine swp_block ?_
  refine swp_sr ?_
  refine s_pu (pu_eql rfl rfl) ?_
  refine s_as rfl ?_
  refine swl_sub _ (sc0 1 rfl (sc0 4 rfl (sc0 5 rfl (sc0 6 rfl (sc0 17 rfl (sc0 18 rfl .nil)))))) ?_
  refine swl_nn ?_
  refine swp_cond (b := _) rfl (fun h18 => ?_) (fun h18 => ?_)
  ·skip
   refine swp_region ?_
   refine s_pu (pu_func (vs := []) (us := [_]) rfl rfl) ?_
   refine s_rd (rd_load rfl rfl) ?_
   refine s_pu (pu_func (vs := [_]) (us := []) rfl rfl) ?_
   refine s_ef (ef_bldS (qs := [(0, _), (1, _)]) rfl rfl rfl) ?_
   intro b23
   refine s_ef (ef_fn (first_spec b23 2 [.func (.func 36) #[] #[pv b1], .func (.func 38) #[pv q] #[]] [FSA q d, blk b1 27 [pv q]] _ (by show 2 ≤ 1000; decide) (fresh_steps b1 q d hd hw)) rfl rfl sp0) ?_
   rintro v24 L1 ⟨e, L2, rfl, ⟨rfl, rfl⟩, rfl⟩
   refine swl_app ?_
   refine s_as rfl ?_
   refine swl_sub _ (sc0 4 rfl (sc0 6 rfl .nil)) ?_
   refine swl_nil ?_
   refine block_n ?_
   have h18' : (readD d logN).2 = 6 := by simpa using h18
   have he : openD d = freshD d := by unfold openD; rw [if_pos h18']
   have hs : openS d = ([], []) := by unfold openS; rw [readD_err (by rw [h18']; decide)]; rfl
   refine then_n ⟨newSW q, μ, _, ⟨Le.refl _, newSW_ok μ q, rfl, rfl, by rw [he], fun _ => by rw [hs]; rfl⟩, ⟨rfl, rfl, trivial⟩, ?_⟩
   rw [he]
   exact Split.ent' sp0
  ·skip
   refine swp_sr ?_
   refine s_pu (pu_eql rfl rfl) ?_
   refine s_as rfl ?_
   refine swl_sub _ (sc0 4 rfl (sc0 5 rfl (sc0 6 rfl (sc0 25 rfl .nil)))) ?_
   refine swl_nn ?_
   refine swp_cond (b := _) rfl (fun h25 => ?_) (fun h25 => ?_)
   ·skip
    refine swp_region ?_
    refine s_mv rfl ?_
    refine s_mv rfl ?_
    refine s_ef (ef_fn (recover_spec μ b11 (newSW q) (newSW_ok μ q) d hd (readD d logN).1 (readD_len hd logN)) rfl rfl sp0) ?_
    rintro v29 L1 ⟨W', μ', g1, g2, g3, g4, g5, rfl, rfl⟩
    refine swl_app ?_
    refine s_as rfl ?_
    refine swl_sub _ (sc0 4 rfl (sc0 6 rfl .nil)) ?_
    refine swl_nil ?_
    refine block_n ?_
    have h18' : (readD d logN).2 ≠ 6 := by simpa using h18
    have h25' : (readD d logN).2 = 0 := by simpa using h25
    have he : openD d = settleD d (runS ([], []) (scan (readD d logN).1)).2 (readD d logN).1.length := by unfold openD; rw [if_neg h18', if_neg (not_not_intro h25')]
    refine then_n ⟨W', μ', _, ⟨g1, g2, g3, g4, by rw [he]; rfl, fun _ => g5⟩, ⟨rfl, rfl, trivial⟩, ?_⟩
    rw [he]
    show Ent [FSA q (settleD d (runS ([], []) (scan (readD d logN).1)).2 (readD d logN).1.length).1, stH b11 W', ttA W', ccA W', ro μ', blk b1 27 [pv q]] _
    exact Split.ent' sp0
   ·skip
    refine swp_skip ?_
    refine block_n ?_
    have h18' : (readD d logN).2 ≠ 6 := by simpa using h18
    have h25' : (readD d logN).2 ≠ 0 := by simpa using h25
    have he : openD d = (d, (readD d logN).2) := by unfold openD; rw [if_neg h18', if_pos h25']
    refine then_n ⟨newSW q, μ, _, ⟨Le.refl _, newSW_ok μ q, rfl, rfl, by rw [he], fun k => absurd k h25'⟩, ⟨rfl, rfl, trivial⟩, ?_⟩
    rw [he]
    exact Split.ent' sp0
 rintro env L ⟨W, μ', e, hq, hsub, hE⟩
 refine swp_sub _ hsub ?_
 refine swp_ent hE ?_
 clear hsub hE env L
 refine swp_seq ?_
 refine swp_sr ?_
 refine s_mv rfl ?_
 refine s_pu (pu_neq rfl rfl) ?_
 refine swl_sub _ (sc0 4 rfl (sc0 6 rfl (sc0 31 rfl .nil))) ?_
 refine swl_nn ?_
 refine swp_cond (b := _) rfl (fun h31 => ?_) (fun h31 => ?_)
 ·skip
  refine swp_sr ?_
  refine s_mv rfl ?_
  refine s_as rfl ?_
  refine s_as rfl ?_
  refine swl_sub _ (sc0 2 rfl (sc0 3 rfl .nil)) ?_
  refine swl_nn ?_
  refine swp_ret ?_
  refine then_r ?_
  have h31' : e ≠ 0 := by simpa using h31
  exact done_ret [FSA q (openD d).1, stH b11 W, ttA W, ccA W, ro μ'] (.tmp rfl (.tmp rfl .nil)) ⟨b11, W, μ', e, hq, by rw [if_neg h31']; rfl, rfl⟩ sp0
 ·skip
  refine swp_skip ?_
  refine then_n ?_
  refine swp_sr ?_
  refine s_mv rfl ?_
  refine s_as rfl ?_
  refine s_as rfl ?_
  refine swl_sub _ (sc0 2 rfl (sc0 3 rfl .nil)) ?_
  refine swl_nn ?_
  refine swp_ret ?_
  have h31' : e = 0 := by simpa using h31
  subst h31'
  exact done_ret [FSA q (openD d).1, stH b11 W, ttA W, ccA W, ro μ'] (.tmp rfl (.tmp rfl .nil)) ⟨b11, W, μ', 0, hq, by rw [if_pos rfl]; rfl, rfl⟩ sp0
end SX
namespace SX
open Go Go.Proofs
theorem cloneT_spec (μ : PH) (v : Value) (t : List En) (hv : Row μ v 2 t.length (ens t)) (hl : t.length ≤ 1048576) : Spec Tryz.prog 47 [v] [ro μ] (fun r L => ∃ A c, r = .slice A t.length c ∧ L = [own 47 2 (.slice A t.length c) t.length (ens t), ro μ]) := by
 obtain ⟨A, cap, rfl⟩ := hv.sl
 refine Spec.of 8 Tryz.func47 rfl rfl rfl ?_
 refine swp_sr ?_
 refine s_as rfl ?_
 refine swl_sub _ (sc0 0 rfl .nil) ?_
 refine swl_nn ?_
 refine swp_seq ?_
 refine swp_sr ?_
 refine s_mv rfl ?_
 refine s_pu (pu_sl_eq_nil rfl rfl) ?_
 refine swl_sub _ (sc0 0 rfl (sc0 4 rfl .nil)) ?_
 refine swl_nn ?_
 refine swp_cond (b := _) rfl (fun h4 => ?_) (fun h4 => ?_)
 ·skip
  refine swp_sr ?_
  refine s_as rfl ?_
  refine swl_sub _ (sc0 2 rfl .nil) ?_
  refine swl_nn ?_
  refine swp_ret ?_
  refine then_r ?_
  have hA : A = none := by cases A <;> simp_all
  subst hA
  have h0 : t = [] := by
   cases t with
   | nil => rfl
   | cons x l => obtain ⟨b, o, c, h, _⟩ := hv.pos (by simp); cases h
  subst h0
  exact done_retE [own 47 2 (.slice none 0 0) 0 [], ro μ] (.tmp rfl .nil) ⟨none, 0, rfl, rfl⟩ own_nil_ent
 ·skip
  refine swp_skip ?_
  refine then_n ?_
  refine swp_sr ?_
  refine s_ef (ef_bldS (qs := []) rfl rfl rfl) ?_
  intro b5
  refine s_mv rfl ?_
  refine swl_ent (own_empty (n := 2)) ?_
  refine s_ef (ef_append_ro hv rfl rfl sp0 (ens_one _) (by simp only [maxLen]; omega) om0) ?_
  rintro v7 -
  rw [Nat.zero_add, List.nil_append]
  refine swl_fact (fun m h => own_form h) fun ⟨A7, c7, hv7⟩ => ?_
  subst hv7
  refine s_as rfl ?_
  refine swl_sub _ (sc0 2 rfl .nil) ?_
  refine swl_nn ?_
  refine swp_ret ?_
  exact done_ret [own 47 2 (.slice A7 t.length c7) t.length (ens t), ro μ] (.tmp rfl .nil) ⟨A7, c7, rfl, rfl⟩ sp0
theorem cloneI_spec (μ : PH) (v : Value) (xs : List Int) (hv : Row μ v 1 xs.length (xs.flatMap (icsk .i64))) (hl : xs.length ≤ 1048576) : Spec Tryz.prog 50 [v] [ro μ] (fun r L => ∃ A c, r = .slice A xs.length c ∧ L = [own 3 1 (.slice A xs.length c) xs.length (xs.flatMap (icsk .i64)), ro μ]) := by
 obtain ⟨A, cap, rfl⟩ := hv.sl
 refine Spec.of 8 Tryz.func50 rfl rfl rfl ?_
 refine swp_sr ?_
 refine s_as rfl ?_
 refine swl_sub _ (sc0 0 rfl .nil) ?_
 refine swl_nn ?_
 refine swp_seq ?_
 refine swp_sr ?_
 refine s_mv rfl ?_
 refine s_pu (pu_sl_eq_nil rfl rfl) ?_
 refine swl_sub _ (sc0 0 rfl (sc0 4 rfl .nil)) ?_
 refine swl_nn ?_
 refine swp_cond (b := _) rfl (fun h4 => ?_) (fun h4 => ?_)
 ·skip
  refine swp_sr ?_
  refine s_as rfl ?_
  refine swl_sub _ (sc0 2 rfl .nil) ?_
  refine swl_nn ?_
  refine swp_ret ?_
  refine then_r ?_
  have hA : A = none := by cases A <;> simp_all
  subst hA
  have h0 : xs = [] := by
   cases xs with
   | nil => rfl
   | cons x l => obtain ⟨b, o, c, h, _⟩ := hv.pos (by simp); cases h
  subst h0
  exact done_retE [own 3 1 (.slice none 0 0) 0 [], ro μ] (.tmp rfl .nil) ⟨none, 0, rfl, rfl⟩ own_nil_ent
 ·skip
  refine swp_skip ?_
  refine then_n ?_
  refine swp_sr ?_
  refine s_ef (ef_bldS (qs := []) rfl rfl rfl) ?_
  intro b5
  refine s_mv rfl ?_
  refine swl_ent (own_empty (n := 1)) ?_
  refine s_ef (ef_append_ro hv rfl rfl sp0 (icsk_one _) (by simp only [maxLen]; omega) om0) ?_
  rintro v7 -
  rw [Nat.zero_add, List.nil_append]
  refine swl_fact (fun m h => own_form h) fun ⟨A7, c7, hv7⟩ => ?_
  subst hv7
  refine s_as rfl ?_
  refine swl_sub _ (sc0 2 rfl .nil) ?_
  refine swl_nn ?_
  refine swp_ret ?_
  exact done_ret [own 3 1 (.slice A7 xs.length c7) xs.length (xs.flatMap (icsk .i64)), ro μ] (.tmp rfl .nil) ⟨A7, c7, rfl, rfl⟩ sp0
/-- a record, on the disk -/
def writeD (d : Dk) (f : Fm) : Dk × Int := if (appendD d logN (encFm f)).2 ≠ 0 then appendD d logN (encFm f) else syncD (appendD d logN (encFm f)).1 logN
theorem append_l (q : Nat) (d : Dk) (hd : d.Ok) (s : ByteArray) (l : List UInt8) (hl : l.length ≤ 1048576) : Spec Tryz.prog 63 [pv q, .string s, .string (str l)] [FSA q d] (fun r L => r = .int .i64 (appendD d s l).2 ∧ L = [FSA q (appendD d s l).1]) := append_spec q d hd s (str l) hl
abbrev wriL (b3 b7 p : Nat) (W : SW) (d : Dk) (f : Fm) : List Assn := [FSA W.q d, blk b3 31 [pv p], blk b7 9 [.string (str (encFm f))], stH p W]
theorem wri1_spec (b3 b7 p : Nat) (W : SW) (d : Dk) (hd : d.Ok) (f : Fm) (hf : f.2.length ≤ 1048567) : Spec Tryz.prog 98 [pv b3, pv b7] (wriL b3 b7 p W d f) (fun r L => r = .int .i64 (appendD d logN (encFm f)).2 ∧ L = wriL b3 b7 p W (appendD d logN (encFm f)).1 f) := by
 refine Spec.of 9 Tryz.func98 rfl rfl rfl ?_
 refine swp_sr ?_
 refine s_as rfl ?_
 refine swl_sub _ (sc0 0 rfl (sc0 1 rfl .nil)) ?_
 refine swl_nn ?_
 refine swp_seq ?_
 refine swp_draw [0, 3, 4] _ [] (by simp only [List.append_nil]; exact Ent.refl _) kr0 ?_
 refine d_rd 0 rfl (rd_load rfl rfl) rfl kr0 kr0 kr0 ?_
 refine d_pu 1 rfl (pu_nilCheck rfl) kr0 kr0 kr0 ?_
 refine d_pu 2 rfl (pu_fieldAddr0 rfl) kr0 kr0 kr0 ?_
 refine d_rd 3 rfl (rd_load rfl rfl) rfl kr0 kr0 kr0 ?_
 refine d_rd 4 rfl (rd_load rfl rfl) rfl kr0 kr0 kr0 ?_
 refine d_fint 5 rfl kr0 kr0 (ef_fn (append_l W.q d hd logN (encFm f) (by rw [encFm_len]; omega)) rfl rfl sp0) ?_
 rintro v8 L1 ⟨rfl, rfl⟩
 refine swd_app ?_
 refine d_pu 6 rfl (pu_assign rfl) kr0 kr0 kr0 ?_
 refine d_sub _ (sc0 2 rfl .nil) ?_
 refine d_nilf kr0 ?_
 refine then_n ?_
 refine swp_ret ?_
 exact done_ret (wriL b3 b7 p W (appendD d logN (encFm f)).1 f) (.tmp rfl .nil) ⟨rfl, rfl⟩ sp0
theorem wri2_spec (b3 b7 p : Nat) (W : SW) (d : Dk) (hd : d.Ok) (f : Fm) : Spec Tryz.prog 99 [pv b3] (wriL b3 b7 p W d f) (fun r L => r = .int .i64 (syncD d logN).2 ∧ L = wriL b3 b7 p W (syncD d logN).1 f) := by
 refine Spec.of 7 Tryz.func99 rfl rfl rfl ?_
 refine swp_sr ?_
 refine s_as rfl ?_
 refine swl_sub _ (sc0 0 rfl .nil) ?_
 refine swl_nn ?_
 refine swp_sr ?_
 refine s_rd (rd_load rfl rfl) ?_
 refine s_pu (pu_nilCheck rfl) ?_
 refine s_pu (pu_fieldAddr0 rfl) ?_
 refine s_rd (rd_load rfl rfl) ?_
 refine s_ef (ef_fn (sync_spec W.q d hd logN) rfl rfl sp0) ?_
 rintro v6 L1 ⟨rfl, rfl⟩
 refine swl_app ?_
 refine s_as rfl ?_
 refine swl_sub _ (sc0 1 rfl .nil) ?_
 refine swl_nn ?_
 refine swp_ret ?_
 exact done_ret (wriL b3 b7 p W (syncD d logN).1 f) (.tmp rfl .nil) ⟨rfl, rfl⟩ sp0
theorem write_steps (b3 b7 p : Nat) (W : SW) (d : Dk) (hd : d.Ok) (f : Fm) (hf : f.2.length ≤ 1048567) :
    StepsF [.func (.func 98) #[] #[pv b3, pv b7], .func (.func 99) #[] #[pv b3]] (wriL b3 b7 p W d f) (fun e L => e = (writeD d f).2 ∧ L = wriL b3 b7 p W (writeD d f).1 f) := by
  have hd1 := appendD_ok hd logN (encFm f)
  refine ⟨98, inferInstance, [], [pv b3, pv b7], rfl, Spec.mono (wri1_spec b3 b7 p W d hd f hf) ?_⟩
  rintro r L ⟨rfl, rfl⟩
  refine ⟨_, rfl, ?_⟩
  by_cases h1 : (appendD d logN (encFm f)).2 = 0
  · refine .inl ⟨h1, 99, inferInstance, [], [pv b3], rfl, Spec.mono (wri2_spec b3 b7 p W _ hd1 f) ?_⟩
    rintro r L ⟨rfl, rfl⟩
    have e : writeD d f = syncD (appendD d logN (encFm f)).1 logN := by unfold writeD; rw [if_neg (not_not_intro h1)]
    refine ⟨_, rfl, ?_⟩
    by_cases h3 : (syncD (appendD d logN (encFm f)).1 logN).2 = 0
    · exact .inl ⟨h3, by rw [e]; exact ⟨h3.symm, rfl⟩⟩
    · exact .inr ⟨h3, by rw [e]; exact ⟨rfl, rfl⟩⟩
  · have e : writeD d f = appendD d logN (encFm f) := by unfold writeD; rw [if_pos h1]
    exact .inr ⟨h1, by rw [e]; exact ⟨rfl, rfl⟩⟩
theorem writeD_ok {d : Dk} (hd : d.Ok) (f : Fm) : (writeD d f).1.Ok := by
  unfold writeD
  split
  · exact appendD_ok hd _ _
  · exact syncD_ok (appendD_ok hd _ _) _
set_option maxHeartbeats 2000000 in
theorem write_spec (p : Nat) (W : SW) (d : Dk) (hd : d.Ok) (f : Fm) (h1 : 0 < f.1) (h2 : f.1 < 256) (hf : f.2.length ≤ 1048567) : Spec Tryz.prog 46 [pv p, .int .i64 (f.1 : Nat), .string (str f.2)] [FSA W.q d, stH p W] (fun r L => r = .int .i64 (writeD d f).2 ∧ L = [FSA W.q (writeD d f).1, stH p { W with dead := decide ((writeD d f).2 = 8) }]) := by
 refine Spec.of 28 Tryz.func46 rfl rfl rfl ?_
 refine swp_sr ?_
 refine s_ef (ef_box rfl rfl) ?_
 intro b3
 refine s_as rfl ?_
 refine swl_sub _ (sc0 1 rfl (sc0 2 rfl (sc0 3 rfl .nil))) ?_
 refine swl_nn ?_
 refine swp_sr ?_
 refine s_mv rfl ?_
 refine s_mv rfl ?_
 refine s_pu (pu_bld (qs := [(0, _), (1, _)]) rfl) ?_
 refine s_ef (ef_fn (fenc_spec f h1 h2 om0) rfl rfl sp0) ?_
 rintro v13 L1 ⟨rfl, rfl⟩
 refine swl_app ?_
 refine s_mv rfl ?_
 refine s_pu (pu_extractL rfl) ?_
 refine s_pu (pu_extractL rfl) ?_
 refine s_ef (ef_alloc) ?_
 intro b7
 refine s_ef0 (ef_store rfl rfl rfl) ?_
 refine s_as rfl ?_
 refine swl_sub _ (sc0 3 rfl (sc0 7 rfl (sc0 8 rfl .nil))) ?_
 refine swl_nn ?_
 refine swp_seq ?_
 refine swp_sr ?_
 refine s_mv rfl ?_
 refine s_pu (pu_eql rfl rfl) ?_
 refine swl_sub _ (sc0 3 rfl (sc0 7 rfl (sc0 8 rfl (sc0 17 rfl .nil)))) ?_
 refine swl_nn ?_
 refine swp_cond (b := _) rfl (fun h17 => ?_) (fun h17 => by cases h17)
 refine swp_region ?_
 refine s_pu (pu_func (vs := []) (us := [_, _]) rfl rfl) ?_
 refine s_pu (pu_func (vs := []) (us := [_]) rfl rfl) ?_
 refine s_ef (ef_bldS (qs := [(0, _), (1, _)]) rfl rfl rfl) ?_
 intro b20
 refine s_ef (ef_fn (first_spec b20 2 [.func (.func 98) #[] #[pv b3, pv b7], .func (.func 99) #[] #[pv b3]] (wriL b3 b7 p W d f) _ (by show 2 ≤ 1000; decide) (write_steps b3 b7 p W d hd f hf)) rfl rfl sp0) ?_
 rintro v21 L1 ⟨e, L2, rfl, ⟨rfl, rfl⟩, rfl⟩
 refine swl_app ?_
 refine s_as rfl ?_
 refine swl_sub _ (sc0 3 rfl (sc0 8 rfl .nil)) ?_
 refine swl_nn ?_
 refine swp_sr ?_
 refine s_rd (rd_load rfl rfl) ?_
 refine s_mv rfl ?_
 refine s_pu (pu_eql rfl rfl) ?_
 refine s_pu (pu_nilCheck rfl) ?_
 refine s_pu (pu_fieldAddr0 rfl) ?_
 refine s_ef0 (ef_store rfl rfl rfl) ?_
 refine swl_sub _ (sc0 8 rfl .nil) ?_
 refine swl_nn ?_
 refine swp_sr ?_
 refine s_mv rfl ?_
 refine s_as rfl ?_
 refine swl_sub _ (sc0 6 rfl .nil) ?_
 refine swl_nn ?_
 refine swp_ret ?_
 exact done_ret [FSA W.q (writeD d f).1, stH p { W with dead := decide ((writeD d f).2 = 8) }] (.tmp rfl .nil) ⟨rfl, rfl⟩ sp0
theorem live_spec (p : Nat) (W : SW) : Spec Tryz.prog 44 [pv p] [stH p W] (fun r L => r = .int .i64 (if W.dead = true then 8 else 0) ∧ L = [stH p W]) := by
 refine Spec.of 11 Tryz.func44 rfl rfl rfl ?_
 refine swp_sr ?_
 refine s_as rfl ?_
 refine swl_sub _ (sc0 0 rfl .nil) ?_
 refine swl_nn ?_
 refine swp_seq ?_
 refine swp_block ?_
 refine swp_sr ?_
 refine s_mv rfl ?_
 refine s_pu (pu_ptr_eq_nil rfl rfl) ?_
 refine s_as rfl ?_
 refine swl_sub _ (sc0 0 rfl (sc0 3 rfl .nil)) ?_
 refine swl_nn ?_
 refine swp_cond (b := _) rfl (fun h3 => by cases h3) (fun h3 => ?_)
 refine swp_sr ?_
 refine s_mv rfl ?_
 refine s_pu (pu_nilCheck rfl) ?_
 refine s_pu (pu_fieldAddr0 rfl) ?_
 refine s_rd (rd_load rfl rfl) ?_
 refine s_as rfl ?_
 refine swl_sub _ (sc0 6 rfl .nil) ?_
 refine swl_nn ?_
 refine swp_cond (b := _) rfl (fun h6 => ?_) (fun h6 => ?_)
 ·skip
  refine swp_sr ?_
  refine s_as rfl ?_
  refine swl_sub _ (sc0 2 rfl .nil) ?_
  refine swl_nn ?_
  refine swp_ret ?_
  refine block_r ?_
  refine then_r ?_
  exact done_ret [stH p W] (.tmp rfl .nil) ⟨by rw [if_pos h6]; rfl, rfl⟩ sp0
 ·skip
  refine swp_skip ?_
  refine block_n ?_
  refine then_n ?_
  refine swp_sr ?_
  refine s_as rfl ?_
  refine swl_sub _ (sc0 2 rfl .nil) ?_
  refine swl_nn ?_
  refine swp_ret ?_
  exact done_ret [stH p W] (.tmp rfl .nil) ⟨by rw [if_neg (by rw [h6]; decide)]; rfl, rfl⟩ sp0
end SX
namespace SX
open Go Go.Proofs
/-- a store and its disk -/
structure PSt where
  d : Dk
  s : St2
  dead : Bool
def addR (x : PSt) (e0 : Int) (n : Nat) (f : Fm) (s' : St2) : PSt × Int × Int :=
  if x.dead = true then (x, 0, 8) else if e0 ≠ 0 then (x, 0, e0) else if 65536 ≤ n then (x, 0, 7) else
  if (writeD x.d f).2 ≠ 0 then (⟨(writeD x.d f).1, x.s, decide ((writeD x.d f).2 = 8)⟩, 0, (writeD x.d f).2) else (⟨(writeD x.d f).1, s', false⟩, (n : Nat), 0)
def addT (x : PSt) (t : List En) : PSt × Int × Int := addR x (encErr t) x.s.1.length (1, encT t) (x.s.1 ++ [t], x.s.2)
def addC (x : PSt) (c : Cm) : PSt × Int × Int := addR x (if checkC c ≠ 0 then checkC c else if knownS x.s.1.length x.s.2.length c = false then 9 else 0) x.s.2.length (2, encC' c) (x.s.1, x.s.2 ++ [c])
section
variable {x : PSt} {e0 : Int} {n : Nat} {f : Fm} {s' : St2}
theorem addR_dead (h : x.dead = true) : addR x e0 n f s' = (x, 0, 8) := by unfold addR; rw [if_pos h]
theorem addR_err (h : x.dead = false) (h2 : e0 ≠ 0) : addR x e0 n f s' = (x, 0, e0) := by unfold addR; rw [if_neg (by rw [h]; decide), if_pos h2]
theorem addR_full (h : x.dead = false) (h2 : e0 = 0) (h3 : 65536 ≤ n) : addR x e0 n f s' = (x, 0, 7) := by unfold addR; rw [if_neg (by rw [h]; decide), if_neg (not_not_intro h2), if_pos h3]
theorem addR_wr (h : x.dead = false) (h2 : e0 = 0) (h3 : n < 65536) (h4 : (writeD x.d f).2 ≠ 0) : addR x e0 n f s' = ((⟨(writeD x.d f).1, x.s, decide ((writeD x.d f).2 = 8)⟩ : PSt), (0 : Int), (writeD x.d f).2) := by unfold addR; rw [if_neg (by rw [h]; decide), if_neg (not_not_intro h2), if_neg om0, if_pos h4]
theorem addR_ok (h : x.dead = false) (h2 : e0 = 0) (h3 : n < 65536) (h4 : (writeD x.d f).2 = 0) : addR x e0 n f s' = ((⟨(writeD x.d f).1, s', false⟩ : PSt), ((n : Nat) : Int), (0 : Int)) := by unfold addR; rw [if_neg (by rw [h]; decide), if_neg (not_not_intro h2), if_neg om0, if_neg (not_not_intro h4)]
end
/-- what a call that adds leaves -/
def AddQ (μ : PH) (W : SW) (y : PSt × Int × Int) (r : Value) (W' : SW) (μ' : PH) : Prop := Le μ μ' ∧ W'.Ok μ' ∧ W'.q = W.q ∧ W'.pl = y.1.s ∧ W'.dead = y.1.dead ∧ r = .tuple #[.int .i64 y.2.1, .int .i64 y.2.2]
theorem encErr_ok {t : List En} (h : encErr t = 0) : t.length ≤ 1024 ∧ checkE t = 0 := by
  unfold encErr at h
  split at h
  · cases h
  · exact ⟨by omega, h⟩
theorem encT_len {t : List En} (h : encErr t = 0) : (encT t).length ≤ 1048567 := by
  obtain ⟨h1, h2⟩ := encErr_ok h
  have := encEs_len [] t fun e he => (check_paths h2 e he).1
  unfold encT
  rw [List.length_append, numB_len]
  omega
theorem encC_len {c : Cm} (h : checkC c = 0) : (encC' c).length ≤ 1048567 := by
  obtain ⟨h1, _⟩ := checkC_ok h
  unfold encC'
  simp only [List.length_append, numB_len, encPs_len]
  omega
theorem SW.Ok.dead {μ : PH} {W : SW} (h : W.Ok μ) (b : Bool) : SW.Ok μ { W with dead := b } := ⟨h.tf, h.cf, h.tr, h.cr, h.tl, h.cl⟩
set_option maxHeartbeats 4000000 in
theorem addtree_spec (μ : PH) (p : Nat) (W : SW) (hW : W.Ok μ) (d : Dk) (hd : d.Ok) (v : Value) (t : List En) (hv : Row μ v 2 t.length (ens t)) (hu : U32s t) : Spec Tryz.prog 12 [pv p, v] [FSA W.q d, stH p W, ttA W, ccA W, ro μ]
  (fun r L => ∃ W' μ', AddQ μ W (addT ⟨d, W.pl, W.dead⟩ t) r W' μ' ∧ L = [FSA W'.q (addT ⟨d, W.pl, W.dead⟩ t).1.d, stH p W', ttA W', ccA W', ro μ']) := by
 have hW0 := hW
 obtain ⟨⟨A1, c1, e1⟩, ⟨A2, c2, e2⟩, _, _, hT, hC⟩ := hW
 obtain ⟨q, tv, cv, T, C, dead⟩ := W
 dsimp only at e1 e2 hT hC
 subst e1 e2
 have hlen : (SW.pl ⟨q, .slice A1 T.length c1, .slice A2 C.length c2, T, C, dead⟩).1.length = T.length := List.length_map _
 generalize hy : addT ⟨d, SW.pl ⟨q, .slice A1 T.length c1, .slice A2 C.length c2, T, C, dead⟩, dead⟩ t = y
 refine Spec.of 54 Tryz.func12 rfl rfl rfl ?_
 refine swp_sr ?_
 refine s_as rfl ?_
 refine s_as rfl ?_
 refine swl_sub _ (sc0 0 rfl (sc0 1 rfl .nil)) ?_
 refine swl_nn ?_
 refine swp_seq ?_
 refine swp_sr ?_
 refine s_mv rfl ?_
 refine s_ef (ef_fn (live_spec p ⟨q, .slice A1 T.length c1, .slice A2 C.length c2, T, C, dead⟩) rfl rfl sp0) ?_
 rintro v10 L1 ⟨rfl, rfl⟩
 refine swl_app ?_
 refine s_as rfl ?_
 refine swl_sub _ (sc0 0 rfl (sc0 1 rfl (sc0 6 rfl .nil))) ?_
 refine swl_nn ?_
 refine swp_sr ?_
 refine s_mv rfl ?_
 refine s_pu (pu_neq rfl rfl) ?_
 refine swl_sub _ (sc0 0 rfl (sc0 1 rfl (sc0 6 rfl (sc0 12 rfl .nil)))) ?_
 refine swl_nn ?_
 refine swp_cond (b := _) rfl (fun h12 => ?_) (fun h12 => ?_)
 ·skip
  refine swp_sr ?_
  refine s_mv rfl ?_
  refine s_as rfl ?_
  refine s_as rfl ?_
  refine swl_sub _ (sc0 4 rfl (sc0 5 rfl .nil)) ?_
  refine swl_nn ?_
  refine swp_ret ?_
  refine then_r ?_
  have hdd : dead = true := by
   cases dead with
   | true => rfl
   | false => simp at h12
  have ha : (⟨d, SW.pl ⟨q, .slice A1 T.length c1, .slice A2 C.length c2, T, C, dead⟩, dead⟩, 0, 8) = y := by rw [← hy]; exact (addR_dead (x := ⟨d, SW.pl ⟨q, .slice A1 T.length c1, .slice A2 C.length c2, T, C, dead⟩, dead⟩) hdd).symm
  subst ha
  exact done_ret [FSA q d, stH p ⟨q, .slice A1 T.length c1, .slice A2 C.length c2, T, C, dead⟩, ttA ⟨q, .slice A1 T.length c1, .slice A2 C.length c2, T, C, dead⟩, ccA ⟨q, .slice A1 T.length c1, .slice A2 C.length c2, T, C, dead⟩, ro μ] (.tmp rfl (.tmp rfl .nil)) ⟨⟨q, .slice A1 T.length c1, .slice A2 C.length c2, T, C, dead⟩, μ, ⟨Le.refl _, hW0, rfl, rfl, rfl, by rw [if_pos hdd]; rfl⟩, rfl⟩ sp0
 ·skip
  have hdd : dead = false := by
   cases dead with
   | true => simp at h12
   | false => rfl
  refine swp_skip ?_
  refine then_n ?_
  refine swp_sr ?_
  refine s_mv rfl ?_
  refine s_ef (ef_fn (tenc_spec μ v t hv hu) rfl rfl sp0) ?_
  rintro v16 L1 ⟨rfl, rfl⟩
  refine swl_app ?_
  refine s_mv rfl ?_
  refine s_pu (pu_extractL rfl) ?_
  refine s_pu (pu_extractL rfl) ?_
  refine s_as rfl ?_
  refine s_as rfl ?_
  refine swl_sub _ (sc0 0 rfl (sc0 1 rfl (sc0 7 rfl (sc0 8 rfl .nil)))) ?_
  refine swl_nn ?_
  refine swp_seq ?_
  refine swp_sr ?_
  refine s_mv rfl ?_
  refine s_pu (pu_eql rfl rfl) ?_
  refine s_mv rfl ?_
  refine s_split 21 rfl (fun h21 => ?_) (fun h21 => ?_)
  ·skip
   have h21' : encErr t = 0 := of_decide_eq_true h21
   obtain ⟨hl1, hl2⟩ := encErr_ok h21'
   have hev : encV t = encT t := by unfold encV; rw [if_pos h21']
   refine s_on rfl rfl ?_
   refine s_mv rfl ?_
   refine s_on rfl rfl ?_
   refine s_pu (pu_nilCheck rfl) ?_
   refine s_on rfl rfl ?_
   refine s_pu (pu_fieldAddr0 rfl) ?_
   refine s_on rfl rfl ?_
   refine s_rd (rd_load rfl rfl) ?_
   refine s_on rfl rfl ?_
   refine s_pu (pu_len rfl) ?_
   refine s_on rfl rfl ?_
   refine s_pu (pu_geq rfl rfl) ?_
   refine s_pu (pu_pick_t rfl rfl) ?_
   refine swl_sub _ (sc0 0 rfl (sc0 1 rfl (sc0 7 rfl (sc0 8 rfl (sc0 28 rfl .nil))))) ?_
   refine swl_nn ?_
   refine swp_cond (b := _) rfl (fun h28 => ?_) (fun h28 => ?_)
   ·skip
    have h28' : 65536 ≤ T.length := by have := of_decide_eq_true h28; omega
    refine swp_region ?_
    refine s_as rfl ?_
    refine swl_sub _ (sc0 0 rfl (sc0 1 rfl (sc0 7 rfl (sc0 8 rfl .nil)))) ?_
    refine swl_nn ?_
    refine swp_seq ?_
    refine swp_sr ?_
    refine s_mv rfl ?_
    refine s_pu (pu_eql rfl rfl) ?_
    refine swl_sub _ (sc0 0 rfl (sc0 1 rfl (sc0 7 rfl (sc0 8 rfl (sc0 30 rfl .nil))))) ?_
    refine swl_nn ?_
    refine swp_cond (b := _) rfl (fun h30 => by cases h30) (fun h30 => ?_)
    refine swp_skip ?_
    refine then_n ?_
    refine swp_seq ?_
    refine swp_sr ?_
    refine s_mv rfl ?_
    refine s_pu (pu_neq rfl rfl) ?_
    refine swl_sub _ (sc0 0 rfl (sc0 1 rfl (sc0 8 rfl (sc0 35 rfl .nil)))) ?_
    refine swl_nn ?_
    refine swp_cond (b := _) rfl (fun h35 => ?_) (fun h35 => by cases h35)
    refine swp_sr ?_
    refine s_mv rfl ?_
    refine s_as rfl ?_
    refine s_as rfl ?_
    refine swl_sub _ (sc0 4 rfl (sc0 5 rfl .nil)) ?_
    refine swl_nn ?_
    refine swp_ret ?_
    refine then_r ?_
    have ha : (⟨d, SW.pl ⟨q, .slice A1 T.length c1, .slice A2 C.length c2, T, C, dead⟩, dead⟩, 0, 7) = y := by rw [← hy]; exact (addR_full (x := ⟨d, SW.pl ⟨q, .slice A1 T.length c1, .slice A2 C.length c2, T, C, dead⟩, dead⟩) hdd h21' (by first | (show (SW.pl ⟨q, .slice A1 T.length c1, .slice A2 C.length c2, T, C, dead⟩).1.length < 65536; rw [hlen]; exact h28') | (show 65536 ≤ (SW.pl ⟨q, .slice A1 T.length c1, .slice A2 C.length c2, T, C, dead⟩).1.length; rw [hlen]; exact h28'))).symm
    subst ha
    exact done_ret [FSA q d, stH p ⟨q, .slice A1 T.length c1, .slice A2 C.length c2, T, C, dead⟩, ttA ⟨q, .slice A1 T.length c1, .slice A2 C.length c2, T, C, dead⟩, ccA ⟨q, .slice A1 T.length c1, .slice A2 C.length c2, T, C, dead⟩, ro μ] (.tmp rfl (.tmp rfl .nil)) ⟨⟨q, .slice A1 T.length c1, .slice A2 C.length c2, T, C, dead⟩, μ, ⟨Le.refl _, hW0, rfl, rfl, rfl, rfl⟩, rfl⟩ sp0
   ·skip
    have h28' : T.length < 65536 := by have := of_decide_eq_false h28; omega
    refine swp_skip ?_
    refine then_n ?_
    refine swp_seq ?_
    refine swp_sr ?_
    refine s_mv rfl ?_
    refine s_pu (pu_eql rfl rfl) ?_
    refine swl_sub _ (sc0 0 rfl (sc0 1 rfl (sc0 7 rfl (sc0 8 rfl (sc0 30 rfl .nil))))) ?_
    refine swl_nn ?_
    refine swp_cond (b := _) rfl (fun h30 => ?_) (fun h30 => by rw [h21'] at h30; cases h30)
    refine swp_region ?_
    refine s_mv rfl ?_
    refine s_mv rfl ?_
    refine s_ef (ef_fn (write_spec p ⟨q, .slice A1 T.length c1, .slice A2 C.length c2, T, C, dead⟩ d hd (1, encV t) (by show 0 < 1; decide) (by show 1 < 256; decide) (by rw [hev]; exact encT_len h21')) rfl rfl sp0) ?_
    rintro v33 L1 ⟨rfl, rfl⟩
    rw [hev]
    refine swl_app ?_
    dsimp only
    refine s_as rfl ?_
    refine swl_sub _ (sc0 0 rfl (sc0 1 rfl (sc0 8 rfl .nil))) ?_
    refine swl_nn ?_
    refine swp_seq ?_
    refine swp_sr ?_
    refine s_mv rfl ?_
    refine s_pu (pu_neq rfl rfl) ?_
    refine swl_sub _ (sc0 0 rfl (sc0 1 rfl (sc0 8 rfl (sc0 35 rfl .nil)))) ?_
    refine swl_nn ?_
    refine swp_cond (b := _) rfl (fun h35 => ?_) (fun h35 => ?_)
    ·skip
     refine swp_sr ?_
     refine s_mv rfl ?_
     refine s_as rfl ?_
     refine s_as rfl ?_
     refine swl_sub _ (sc0 4 rfl (sc0 5 rfl .nil)) ?_
     refine swl_nn ?_
     refine swp_ret ?_
     refine then_r ?_
     have h35' : (writeD d (1, encT t)).2 ≠ 0 := by simpa using h35
     have ha : (⟨(writeD d (1, encT t)).1, SW.pl ⟨q, .slice A1 T.length c1, .slice A2 C.length c2, T, C, dead⟩, decide ((writeD d (1, encT t)).2 = 8)⟩, 0, (writeD d (1, encT t)).2) = y := by rw [← hy]; exact (addR_wr (x := ⟨d, SW.pl ⟨q, .slice A1 T.length c1, .slice A2 C.length c2, T, C, dead⟩, dead⟩) hdd h21' (by first | (show (SW.pl ⟨q, .slice A1 T.length c1, .slice A2 C.length c2, T, C, dead⟩).1.length < 65536; rw [hlen]; exact h28') | (show 65536 ≤ (SW.pl ⟨q, .slice A1 T.length c1, .slice A2 C.length c2, T, C, dead⟩).1.length; rw [hlen]; exact h28')) h35').symm
     subst ha
     exact done_ret [FSA q (writeD d (1, encT t)).1, stH p ⟨q, .slice A1 T.length c1, .slice A2 C.length c2, T, C, decide ((writeD d (1, encT t)).2 = 8)⟩, ttA ⟨q, .slice A1 T.length c1, .slice A2 C.length c2, T, C, dead⟩, ccA ⟨q, .slice A1 T.length c1, .slice A2 C.length c2, T, C, dead⟩, ro μ] (.tmp rfl (.tmp rfl .nil)) ⟨⟨q, .slice A1 T.length c1, .slice A2 C.length c2, T, C, decide ((writeD d (1, encT t)).2 = 8)⟩, μ, ⟨Le.refl _, SW.Ok.dead hW0 _, rfl, rfl, rfl, rfl⟩, rfl⟩ sp0
    ·skip
     have h35' : (writeD d (1, encT t)).2 = 0 := by simpa using h35
     have ha : (⟨(writeD d (1, encT t)).1, ((SW.pl ⟨q, .slice A1 T.length c1, .slice A2 C.length c2, T, C, dead⟩).1 ++ [t], (SW.pl ⟨q, .slice A1 T.length c1, .slice A2 C.length c2, T, C, dead⟩).2), false⟩, ((SW.pl ⟨q, .slice A1 T.length c1, .slice A2 C.length c2, T, C, dead⟩).1.length : Int), 0) = y := by rw [← hy]; exact (addR_ok (x := ⟨d, SW.pl ⟨q, .slice A1 T.length c1, .slice A2 C.length c2, T, C, dead⟩, dead⟩) hdd h21' (by first | (show (SW.pl ⟨q, .slice A1 T.length c1, .slice A2 C.length c2, T, C, dead⟩).1.length < 65536; rw [hlen]; exact h28') | (show 65536 ≤ (SW.pl ⟨q, .slice A1 T.length c1, .slice A2 C.length c2, T, C, dead⟩).1.length; rw [hlen]; exact h28')) h35').symm
     have hd8 : decide ((writeD d (1, encT t)).2 = 8) = false := by rw [h35']; rfl
     rw [hd8]
     subst ha
     refine swp_skip ?_
     refine then_n ?_
     refine swp_seq ?_
     refine swp_draw [4] ([stH p ⟨q, .slice A1 T.length c1, .slice A2 C.length c2, T, C, false⟩]) ([FSA q (writeD d (1, encT t)).1, ro μ, ttA ⟨q, .slice A1 T.length c1, .slice A2 C.length c2, T, C, dead⟩, ccA ⟨q, .slice A1 T.length c1, .slice A2 C.length c2, T, C, dead⟩]) (Split.ent sp0) kr0 ?_
     refine d_pu 0 rfl (pu_move rfl) kr0 kr0 kr0 ?_
     refine d_pu 1 rfl (pu_move rfl) kr0 kr0 kr0 ?_
     refine d_pu 2 rfl (pu_nilCheck rfl) kr0 kr0 kr0 ?_
     refine d_pu 3 rfl (pu_fieldAddr0 rfl) kr0 kr0 kr0 ?_
     refine d_rd 4 rfl (rd_load rfl rfl) rfl kr0 kr0 kr0 ?_
     refine d_pu 5 rfl (pu_move rfl) kr0 kr0 kr0 ?_
     refine d_eft 6 rfl kr0 (ef_fn (cloneT_spec μ v t hv om0) rfl rfl sp0) ?_
     rintro v43 L1 ⟨A3, c3, rfl, rfl⟩
     refine ⟨_, ent_appC (Split.ent sp0), ?_⟩
     refine d_eft 7 rfl kr0 (ef_bldS (qs := [(0, _)]) rfl rfl rfl) ?_
     intro b44
     refine ⟨_, Split.ent sp0, ?_⟩
     refine d_fint 8 rfl kr0 kr0 (ef_append_lit (l := T.length) (m := 1) rfl rfl sp0 (by simp only [maxLen]; omega) om0) ?_
     rintro v45 -
     refine swd_factf (fun m h => own_form h) fun ⟨A45, c45, hv45⟩ => ?_
     subst hv45
     refine d_pu 9 rfl (pu_nilCheck rfl) kr0 kr0 kr0 ?_
     refine d_pu 10 rfl (pu_fieldAddr0 rfl) kr0 kr0 kr0 ?_
     refine d_fin0f 11 rfl kr0 kr0 (ef_store rfl rfl rfl) ?_
     refine d_sub _ (sc0 0 rfl .nil) ?_
     refine d_nilf kr0 ?_
     refine then_n ?_
     refine swp_seq ?_
     refine swp_share_own (μ := μ) (v := .slice A3 t.length c3) (e := 47) (n := 2) sp0 fun μ' hle hrow => ?_
     refine swp_region ?_
     refine s_mv rfl ?_
     refine s_pu (pu_nilCheck rfl) ?_
     refine s_pu (pu_fieldAddr0 rfl) ?_
     refine s_rd (rd_load rfl rfl) ?_
     refine s_pu (pu_len rfl) ?_
     refine s_pu (pu_sub_as ((T.length : Nat) : Int) rfl rfl om0 om0 om0) ?_
     refine s_as rfl ?_
     refine s_as rfl ?_
     refine swl_sub _ (sc0 4 rfl (sc0 5 rfl .nil)) ?_
     refine swl_nn ?_
     refine swp_ret ?_
     refine done_ret [FSA q (writeD d (1, encT t)).1, stH p ⟨q, .slice A45 (T.length + 1) c45, .slice A2 C.length c2, T ++ [(.slice A3 t.length c3, t)], C, false⟩, own 22 1 (.slice A45 (T.length + 1) c45) (T.length + 1) (T.flatMap tcs ++ [.slice A3 t.length c3]), ccA ⟨q, .slice A1 T.length c1, .slice A2 C.length c2, T, C, dead⟩, ro μ'] (.tmp rfl (.tmp rfl .nil)) ⟨⟨q, .slice A45 (T.length + 1) c45, .slice A2 C.length c2, T ++ [(.slice A3 t.length c3, t)], C, false⟩, μ', ⟨hle, SW.Ok.dead (Ok.addT hW0 hle hrow h28') false, rfl, ?_, rfl, ?_⟩, ?_⟩ sp0
     ·unfold SW.pl; rw [List.map_append]; rfl
     ·rw [hlen]; rfl
     ·simp only [ttA, List.length_append, List.length_singleton, List.flatMap_append]; rfl
  ·skip
   have h21' : encErr t ≠ 0 := of_decide_eq_false h21
   refine s_off rfl rfl rfl ?_
   refine s_off rfl rfl rfl ?_
   refine s_off rfl rfl rfl ?_
   refine s_off rfl rfl rfl ?_
   refine s_off rfl rfl rfl ?_
   refine s_off rfl rfl rfl ?_
   refine s_pu (pu_pick_f rfl rfl) ?_
   refine swl_sub _ (sc0 0 rfl (sc0 1 rfl (sc0 7 rfl (sc0 8 rfl (sc0 28 rfl .nil))))) ?_
   refine swl_nn ?_
   refine swp_cond (b := _) rfl (fun h28 => by cases h28) (fun h28 => ?_)
   refine swp_skip ?_
   refine then_n ?_
   refine swp_seq ?_
   refine swp_sr ?_
   refine s_mv rfl ?_
   refine s_pu (pu_eql rfl rfl) ?_
   refine swl_sub _ (sc0 0 rfl (sc0 1 rfl (sc0 7 rfl (sc0 8 rfl (sc0 30 rfl .nil))))) ?_
   refine swl_nn ?_
   refine swp_cond (b := _) rfl (fun h30 => by exact absurd (of_decide_eq_true h30) h21') (fun h30 => ?_)
   refine swp_skip ?_
   refine then_n ?_
   refine swp_seq ?_
   refine swp_sr ?_
   refine s_mv rfl ?_
   refine s_pu (pu_neq rfl rfl) ?_
   refine swl_sub _ (sc0 0 rfl (sc0 1 rfl (sc0 8 rfl (sc0 35 rfl .nil)))) ?_
   refine swl_nn ?_
   refine swp_cond (b := _) rfl (fun h35 => ?_) (fun h35 => by rw [decide_eq_false h21'] at h35; cases h35)
   refine swp_sr ?_
   refine s_mv rfl ?_
   refine s_as rfl ?_
   refine s_as rfl ?_
   refine swl_sub _ (sc0 4 rfl (sc0 5 rfl .nil)) ?_
   refine swl_nn ?_
   refine swp_ret ?_
   refine then_r ?_
   have ha : (⟨d, SW.pl ⟨q, .slice A1 T.length c1, .slice A2 C.length c2, T, C, dead⟩, dead⟩, 0, encErr t) = y := by rw [← hy]; exact (addR_err (x := ⟨d, SW.pl ⟨q, .slice A1 T.length c1, .slice A2 C.length c2, T, C, dead⟩, dead⟩) hdd h21').symm
   subst ha
   exact done_ret [FSA q d, stH p ⟨q, .slice A1 T.length c1, .slice A2 C.length c2, T, C, dead⟩, ttA ⟨q, .slice A1 T.length c1, .slice A2 C.length c2, T, C, dead⟩, ccA ⟨q, .slice A1 T.length c1, .slice A2 C.length c2, T, C, dead⟩, ro μ] (.tmp rfl (.tmp rfl .nil)) ⟨⟨q, .slice A1 T.length c1, .slice A2 C.length c2, T, C, dead⟩, μ, ⟨Le.refl _, hW0, rfl, rfl, rfl, rfl⟩, rfl⟩ sp0
end SX
namespace SX
open Go Go.Proofs
theorem comV_ok {c : Cm} (h : checkC c = 0) : comV c = encC' c := by unfold comV; rw [if_pos h]
set_option maxHeartbeats 4000000 in
theorem addcommit_spec (μ : PH) (p : Nat) (W : SW) (hW : W.Ok μ) (d : Dk) (hd : d.Ok) (v : Value) (c : Cm) (hv : Row μ v 1 c.1.length (c.1.flatMap (icsk .i64))) : Spec Tryz.prog 13 [pv p, cmV v c.2] [FSA W.q d, stH p W, ttA W, ccA W, ro μ]
  (fun r L => ∃ W' μ', AddQ μ W (addC ⟨d, W.pl, W.dead⟩ c) r W' μ' ∧ L = [FSA W'.q (addC ⟨d, W.pl, W.dead⟩ c).1.d, stH p W', ttA W', ccA W', ro μ']) := by
 have hW0 := hW
 obtain ⟨⟨A1, c1, e1⟩, ⟨A2, c2, e2⟩, _, _, hT, hC⟩ := hW
 obtain ⟨A5, c5, rfl⟩ := hv.sl
 obtain ⟨q, tv, cv, T, C, dead⟩ := W
 dsimp only at e1 e2 hT hC
 subst e1 e2
 have hlen : (SW.pl ⟨q, .slice A1 T.length c1, .slice A2 C.length c2, T, C, dead⟩).1.length = T.length := List.length_map _
 have hlen2 : (SW.pl ⟨q, .slice A1 T.length c1, .slice A2 C.length c2, T, C, dead⟩).2.length = C.length := List.length_map _
 generalize hy : addC ⟨d, SW.pl ⟨q, .slice A1 T.length c1, .slice A2 C.length c2, T, C, dead⟩, dead⟩ c = y
 unfold addC at hy
 dsimp only at hy
 rw [hlen, hlen2] at hy
 refine Spec.of 61 Tryz.func13 rfl rfl rfl ?_
 refine swp_sr ?_
 refine s_ef (ef_box rfl rfl) ?_
 intro b3
 refine s_as rfl ?_
 refine s_as rfl ?_
 refine swl_sub _ (sc0 0 rfl (sc0 3 rfl .nil)) ?_
 refine swl_nn ?_
 refine swp_seq ?_
 refine swp_sr ?_
 refine s_mv rfl ?_
 refine s_ef (ef_fn (live_spec p ⟨q, .slice A1 T.length c1, .slice A2 C.length c2, T, C, dead⟩) rfl rfl sp0) ?_
 rintro v10 L1 ⟨rfl, rfl⟩
 refine swl_app ?_
 refine s_as rfl ?_
 refine swl_sub _ (sc0 0 rfl (sc0 3 rfl (sc0 6 rfl .nil))) ?_
 refine swl_nn ?_
 refine swp_sr ?_
 refine s_mv rfl ?_
 refine s_pu (pu_neq rfl rfl) ?_
 refine swl_sub _ (sc0 0 rfl (sc0 3 rfl (sc0 6 rfl (sc0 12 rfl .nil)))) ?_
 refine swl_nn ?_
 refine swp_cond (b := _) rfl (fun h12 => ?_) (fun h12 => ?_)
 ·skip
  refine swp_sr ?_
  refine s_mv rfl ?_
  refine s_as rfl ?_
  refine s_as rfl ?_
  refine swl_sub _ (sc0 4 rfl (sc0 5 rfl .nil)) ?_
  refine swl_nn ?_
  refine swp_ret ?_
  refine then_r ?_
  have hdd : dead = true := by
   cases dead with
   | true => rfl
   | false => simp at h12
  have ha : (⟨d, SW.pl ⟨q, .slice A1 T.length c1, .slice A2 C.length c2, T, C, dead⟩, dead⟩, 0, 8) = y := by rw [← hy]; exact (addR_dead (x := ⟨d, SW.pl ⟨q, .slice A1 T.length c1, .slice A2 C.length c2, T, C, dead⟩, dead⟩) hdd).symm
  subst ha
  exact done_ret [FSA q d, stH p ⟨q, .slice A1 T.length c1, .slice A2 C.length c2, T, C, dead⟩, ttA ⟨q, .slice A1 T.length c1, .slice A2 C.length c2, T, C, dead⟩, ccA ⟨q, .slice A1 T.length c1, .slice A2 C.length c2, T, C, dead⟩, ro μ] (.tmp rfl (.tmp rfl .nil)) ⟨⟨q, .slice A1 T.length c1, .slice A2 C.length c2, T, C, dead⟩, μ, ⟨Le.refl _, hW0, rfl, rfl, rfl, by rw [if_pos hdd]; rfl⟩, rfl⟩ sp0
 ·skip
  have hdd : dead = false := by
   cases dead with
   | true => simp at h12
   | false => rfl
  refine swp_skip ?_
  refine then_n ?_
  refine swp_sr ?_
  refine s_rd (rd_loadW rfl rfl) ?_
  refine s_ef (ef_fn (cenc_spec μ (.slice A5 c.1.length c5) c hv) rfl rfl sp0) ?_
  rintro v16 L1 ⟨rfl, rfl⟩
  refine swl_app ?_
  refine s_mv rfl ?_
  refine s_pu (pu_extractL rfl) ?_
  refine s_pu (pu_extractL rfl) ?_
  refine s_as rfl ?_
  refine s_as rfl ?_
  refine swl_sub _ (sc0 0 rfl (sc0 3 rfl (sc0 7 rfl (sc0 8 rfl .nil)))) ?_
  refine swl_nn ?_
  refine swp_seq ?_
  refine swp_block ?_
  refine swp_sr ?_
  refine s_mv rfl ?_
  refine s_pu (pu_neq rfl rfl) ?_
  refine s_as rfl ?_
  refine swl_sub _ (sc0 0 rfl (sc0 3 rfl (sc0 7 rfl (sc0 8 rfl (sc0 22 rfl .nil))))) ?_
  refine swl_nn ?_
  refine swp_cond (b := _) rfl (fun h22 => ?_) (fun h22 => ?_)
  ·skip
   have h22' : checkC c ≠ 0 := by simpa using h22
   rw [if_pos h22'] at hy
   refine swp_skip ?_
   refine block_n ?_
   refine then_n ?_
   refine swp_seq ?_
   refine swp_sr ?_
   refine s_mv rfl ?_
   refine s_pu (pu_neq rfl rfl) ?_
   refine swl_sub _ (sc0 0 rfl (sc0 3 rfl (sc0 8 rfl (sc0 38 rfl .nil)))) ?_
   refine swl_nn ?_
   refine swp_cond (b := _) rfl (fun h38 => ?_) (fun h38 => by rw [decide_eq_false h22'] at h38; cases h38)
   refine swp_sr ?_
   refine s_mv rfl ?_
   refine s_as rfl ?_
   refine s_as rfl ?_
   refine swl_sub _ (sc0 4 rfl (sc0 5 rfl .nil)) ?_
   refine swl_nn ?_
   refine swp_ret ?_
   refine then_r ?_
   have ha : (⟨d, SW.pl ⟨q, .slice A1 T.length c1, .slice A2 C.length c2, T, C, dead⟩, dead⟩, 0, checkC c) = y := by rw [← hy]; exact (addR_err (x := ⟨d, SW.pl ⟨q, .slice A1 T.length c1, .slice A2 C.length c2, T, C, dead⟩, dead⟩) hdd h22').symm
   subst ha
   exact done_ret [FSA q d, stH p ⟨q, .slice A1 T.length c1, .slice A2 C.length c2, T, C, dead⟩, ttA ⟨q, .slice A1 T.length c1, .slice A2 C.length c2, T, C, dead⟩, ccA ⟨q, .slice A1 T.length c1, .slice A2 C.length c2, T, C, dead⟩, ro μ] (.tmp rfl (.tmp rfl .nil)) ⟨⟨q, .slice A1 T.length c1, .slice A2 C.length c2, T, C, dead⟩, μ, ⟨Le.refl _, hW0, rfl, rfl, rfl, rfl⟩, rfl⟩ sp0
  ·skip
   have h22' : checkC c = 0 := by simpa using h22
   rw [if_neg (not_not_intro h22')] at hy
   refine swp_sr ?_
   refine s_mv rfl ?_
   refine s_rd (rd_loadW rfl rfl) ?_
   refine s_ef (ef_fn (known_spec μ p ⟨q, .slice A1 T.length c1, .slice A2 C.length c2, T, C, dead⟩ hW0 (.slice A5 c.1.length c5) c hv) rfl rfl sp0) ?_
   rintro v28 L1 ⟨rfl, rfl⟩
   refine swl_app ?_
   refine s_pu (pu_not rfl) ?_
   refine s_as rfl ?_
   refine swl_sub _ (sc0 0 rfl (sc0 3 rfl (sc0 7 rfl (sc0 25 rfl .nil)))) ?_
   refine swl_nn ?_
   refine swp_cond (b := _) rfl (fun h25 => ?_) (fun h25 => ?_)
   ·skip
    have h25' : knownS T.length C.length c = false := by simpa using h25
    rw [if_pos h25'] at hy
    refine swp_region ?_
    refine s_as rfl ?_
    refine swl_sub _ (sc0 0 rfl (sc0 3 rfl (sc0 8 rfl .nil))) ?_
    refine swl_nil ?_
    refine block_n ?_
    refine then_n ?_
    refine swp_seq ?_
    refine swp_sr ?_
    refine s_mv rfl ?_
    refine s_pu (pu_neq rfl rfl) ?_
    refine swl_sub _ (sc0 0 rfl (sc0 3 rfl (sc0 8 rfl (sc0 38 rfl .nil)))) ?_
    refine swl_nn ?_
    refine swp_cond (b := _) rfl (fun h38 => ?_) (fun h38 => by cases h38)
    refine swp_sr ?_
    refine s_mv rfl ?_
    refine s_as rfl ?_
    refine s_as rfl ?_
    refine swl_sub _ (sc0 4 rfl (sc0 5 rfl .nil)) ?_
    refine swl_nn ?_
    refine swp_ret ?_
    refine then_r ?_
    have ha : (⟨d, SW.pl ⟨q, .slice A1 T.length c1, .slice A2 C.length c2, T, C, dead⟩, dead⟩, 0, 9) = y := by rw [← hy]; exact (addR_err (x := ⟨d, SW.pl ⟨q, .slice A1 T.length c1, .slice A2 C.length c2, T, C, dead⟩, dead⟩) hdd (by decide)).symm
    subst ha
    exact done_ret [FSA q d, stH p ⟨q, .slice A1 T.length c1, .slice A2 C.length c2, T, C, dead⟩, ttA ⟨q, .slice A1 T.length c1, .slice A2 C.length c2, T, C, dead⟩, ccA ⟨q, .slice A1 T.length c1, .slice A2 C.length c2, T, C, dead⟩, ro μ] (.tmp rfl (.tmp rfl .nil)) ⟨⟨q, .slice A1 T.length c1, .slice A2 C.length c2, T, C, dead⟩, μ, ⟨Le.refl _, hW0, rfl, rfl, rfl, rfl⟩, rfl⟩ sp0
   ·skip
    have h25' : knownS T.length C.length c = true := by simpa using h25
    rw [if_neg (by rw [h25']; decide)] at hy
    refine swp_sr ?_
    refine s_mv rfl ?_
    refine s_pu (pu_nilCheck rfl) ?_
    refine s_pu (pu_fieldAddr0 rfl) ?_
    refine s_rd (rd_load rfl rfl) ?_
    refine s_pu (pu_len rfl) ?_
    refine s_pu (pu_geq rfl rfl) ?_
    refine s_as rfl ?_
    refine swl_sub _ (sc0 0 rfl (sc0 3 rfl (sc0 7 rfl (sc0 30 rfl .nil)))) ?_
    refine swl_nn ?_
    refine swp_cond (b := _) rfl (fun h30 => ?_) (fun h30 => ?_)
    ·skip
     have h30' : 65536 ≤ C.length := by have := of_decide_eq_true h30; omega
     refine swp_region ?_
     refine s_as rfl ?_
     refine swl_sub _ (sc0 0 rfl (sc0 3 rfl (sc0 8 rfl .nil))) ?_
     refine swl_nil ?_
     refine block_n ?_
     refine then_n ?_
     refine swp_seq ?_
     refine swp_sr ?_
     refine s_mv rfl ?_
     refine s_pu (pu_neq rfl rfl) ?_
     refine swl_sub _ (sc0 0 rfl (sc0 3 rfl (sc0 8 rfl (sc0 38 rfl .nil)))) ?_
     refine swl_nn ?_
     refine swp_cond (b := _) rfl (fun h38 => ?_) (fun h38 => by cases h38)
     refine swp_sr ?_
     refine s_mv rfl ?_
     refine s_as rfl ?_
     refine s_as rfl ?_
     refine swl_sub _ (sc0 4 rfl (sc0 5 rfl .nil)) ?_
     refine swl_nn ?_
     refine swp_ret ?_
     refine then_r ?_
     have ha : (⟨d, SW.pl ⟨q, .slice A1 T.length c1, .slice A2 C.length c2, T, C, dead⟩, dead⟩, 0, 7) = y := by rw [← hy]; exact (addR_full (x := ⟨d, SW.pl ⟨q, .slice A1 T.length c1, .slice A2 C.length c2, T, C, dead⟩, dead⟩) hdd rfl h30').symm
     subst ha
     exact done_ret [FSA q d, stH p ⟨q, .slice A1 T.length c1, .slice A2 C.length c2, T, C, dead⟩, ttA ⟨q, .slice A1 T.length c1, .slice A2 C.length c2, T, C, dead⟩, ccA ⟨q, .slice A1 T.length c1, .slice A2 C.length c2, T, C, dead⟩, ro μ] (.tmp rfl (.tmp rfl .nil)) ⟨⟨q, .slice A1 T.length c1, .slice A2 C.length c2, T, C, dead⟩, μ, ⟨Le.refl _, hW0, rfl, rfl, rfl, rfl⟩, rfl⟩ sp0
    ·skip
     have h30' : C.length < 65536 := by have := of_decide_eq_false h30; omega
     have hbl := (checkC_ok h22').1
     refine swp_region ?_
     refine s_mv rfl ?_
     refine s_mv rfl ?_
     refine s_ef (ef_fn (write_spec p ⟨q, .slice A1 T.length c1, .slice A2 C.length c2, T, C, dead⟩ d hd (2, comV c) (by show 0 < 2; decide) (by show 2 < 256; decide) (by rw [comV_ok h22']; exact encC_len h22')) rfl rfl sp0) ?_
     rintro v21 L1 ⟨rfl, rfl⟩
     rw [comV_ok h22']
     refine swl_app ?_
     dsimp only
     refine s_as rfl ?_
     refine swl_sub _ (sc0 0 rfl (sc0 3 rfl (sc0 8 rfl .nil))) ?_
     refine swl_nil ?_
     refine block_n ?_
     refine then_n ?_
     refine swp_seq ?_
     refine swp_sr ?_
     refine s_mv rfl ?_
     refine s_pu (pu_neq rfl rfl) ?_
     refine swl_sub _ (sc0 0 rfl (sc0 3 rfl (sc0 8 rfl (sc0 38 rfl .nil)))) ?_
     refine swl_nn ?_
     refine swp_cond (b := _) rfl (fun h38 => ?_) (fun h38 => ?_)
     ·skip
      refine swp_sr ?_
      refine s_mv rfl ?_
      refine s_as rfl ?_
      refine s_as rfl ?_
      refine swl_sub _ (sc0 4 rfl (sc0 5 rfl .nil)) ?_
      refine swl_nn ?_
      refine swp_ret ?_
      refine then_r ?_
      have h38' : (writeD d (2, encC' c)).2 ≠ 0 := by simpa using h38
      have ha : (⟨(writeD d (2, encC' c)).1, SW.pl ⟨q, .slice A1 T.length c1, .slice A2 C.length c2, T, C, dead⟩, decide ((writeD d (2, encC' c)).2 = 8)⟩, 0, (writeD d (2, encC' c)).2) = y := by rw [← hy]; exact (addR_wr (x := ⟨d, SW.pl ⟨q, .slice A1 T.length c1, .slice A2 C.length c2, T, C, dead⟩, dead⟩) hdd rfl h30' h38').symm
      subst ha
      exact done_ret [FSA q (writeD d (2, encC' c)).1, stH p ⟨q, .slice A1 T.length c1, .slice A2 C.length c2, T, C, decide ((writeD d (2, encC' c)).2 = 8)⟩, ttA ⟨q, .slice A1 T.length c1, .slice A2 C.length c2, T, C, dead⟩, ccA ⟨q, .slice A1 T.length c1, .slice A2 C.length c2, T, C, dead⟩, ro μ] (.tmp rfl (.tmp rfl .nil)) ⟨⟨q, .slice A1 T.length c1, .slice A2 C.length c2, T, C, decide ((writeD d (2, encC' c)).2 = 8)⟩, μ, ⟨Le.refl _, SW.Ok.dead hW0 _, rfl, rfl, rfl, rfl⟩, rfl⟩ sp0
     ·skip
      have h38' : (writeD d (2, encC' c)).2 = 0 := by simpa using h38
      have ha : (⟨(writeD d (2, encC' c)).1, ((SW.pl ⟨q, .slice A1 T.length c1, .slice A2 C.length c2, T, C, dead⟩).1, (SW.pl ⟨q, .slice A1 T.length c1, .slice A2 C.length c2, T, C, dead⟩).2 ++ [c]), false⟩, ((C.length : Nat) : Int), 0) = y := by rw [← hy]; exact (addR_ok (x := ⟨d, SW.pl ⟨q, .slice A1 T.length c1, .slice A2 C.length c2, T, C, dead⟩, dead⟩) hdd rfl h30' h38').symm
      have hd8 : decide ((writeD d (2, encC' c)).2 = 8) = false := by rw [h38']; rfl
      rw [hd8]
      subst ha
      refine swp_skip ?_
      refine then_n ?_
      refine swp_seq ?_
      refine swp_draw [4, 6, 9] ([stH p ⟨q, .slice A1 T.length c1, .slice A2 C.length c2, T, C, false⟩, blk b3 25 [.slice A5 c.1.length c5, .int .i64 c.2]]) ([FSA q (writeD d (2, encC' c)).1, ro μ, ttA ⟨q, .slice A1 T.length c1, .slice A2 C.length c2, T, C, dead⟩, ccA ⟨q, .slice A1 T.length c1, .slice A2 C.length c2, T, C, dead⟩]) (Split.ent sp0) kr0 ?_
      refine d_pu 0 rfl (pu_move rfl) kr0 kr0 kr0 ?_
      refine d_pu 1 rfl (pu_move rfl) kr0 kr0 kr0 ?_
      refine d_pu 2 rfl (pu_nilCheck rfl) kr0 kr0 kr0 ?_
      refine d_pu 3 rfl (pu_fieldAddr0 rfl) kr0 kr0 kr0 ?_
      refine d_rd 4 rfl (rd_load rfl rfl) rfl kr0 kr0 kr0 ?_
      refine d_pu 5 rfl (pu_fieldAddr0 rfl) kr0 kr0 kr0 ?_
      refine d_rd 6 rfl (rd_load rfl rfl) rfl kr0 kr0 kr0 ?_
      refine d_pu 8 rfl (pu_fieldAddr0 rfl) kr0 kr0 kr0 ?_
      refine d_rd 9 rfl (rd_load rfl rfl) rfl kr0 kr0 kr0 ?_
      refine d_eft 7 rfl kr0 (ef_fn (cloneI_spec μ (.slice A5 c.1.length c5) c.1 hv om0) rfl rfl sp0) ?_
      rintro v47 L1 ⟨A3, c3, rfl, rfl⟩
      refine ⟨_, ent_appC (Split.ent sp0), ?_⟩
      refine d_pu 10 rfl (pu_bld (qs := [(0, _), (1, _)]) rfl) kr0 kr0 kr0 ?_
      refine d_eft 11 rfl kr0 (ef_bldS (qs := [(0, _)]) rfl rfl rfl) ?_
      intro b51
      refine ⟨_, Split.ent sp0, ?_⟩
      refine d_fint 12 rfl kr0 kr0 (ef_append_lit (l := C.length) (m := 1) rfl rfl sp0 (by simp only [maxLen]; omega) om0) ?_
      rintro v52 -
      refine swd_factf (fun m h => own_form h) fun ⟨A45, c45, hv45⟩ => ?_
      subst hv45
      refine d_pu 13 rfl (pu_nilCheck rfl) kr0 kr0 kr0 ?_
      refine d_pu 14 rfl (pu_fieldAddr0 rfl) kr0 kr0 kr0 ?_
      refine d_fin0f 15 rfl kr0 kr0 (ef_store rfl rfl rfl) ?_
      refine d_sub _ (sc0 0 rfl .nil) ?_
      refine d_nilf kr0 ?_
      refine then_n ?_
      refine swp_seq ?_
      refine swp_share_own (μ := μ) (v := .slice A3 c.1.length c3) (e := 3) (n := 1) sp0 fun μ' hle hrow => ?_
      refine swp_region ?_
      refine s_mv rfl ?_
      refine s_pu (pu_nilCheck rfl) ?_
      refine s_pu (pu_fieldAddr0 rfl) ?_
      refine s_rd (rd_load rfl rfl) ?_
      refine s_pu (pu_len rfl) ?_
      refine s_pu (pu_sub_as ((C.length : Nat) : Int) rfl rfl om0 om0 om0) ?_
      refine s_as rfl ?_
      refine s_as rfl ?_
      refine swl_sub _ (sc0 4 rfl (sc0 5 rfl .nil)) ?_
      refine swl_nn ?_
      refine swp_ret ?_
      refine done_ret [FSA q (writeD d (2, encC' c)).1, stH p ⟨q, .slice A1 T.length c1, .slice A45 (C.length + 1) c45, T, C ++ [(.slice A3 c.1.length c3, c)], false⟩, ttA ⟨q, .slice A1 T.length c1, .slice A2 C.length c2, T, C, dead⟩, own 25 2 (.slice A45 (C.length + 1) c45) (C.length + 1) (C.flatMap ccs ++ [.slice A3 c.1.length c3, .int .i64 c.2]), ro μ'] (.tmp rfl (.tmp rfl .nil)) ⟨⟨q, .slice A1 T.length c1, .slice A45 (C.length + 1) c45, T, C ++ [(.slice A3 c.1.length c3, c)], false⟩, μ', ⟨hle, SW.Ok.dead (Ok.addC hW0 hle hrow h30') false, rfl, ?_, rfl, rfl⟩, ?_⟩ sp0
      ·unfold SW.pl; rw [List.map_append]; rfl
      ·simp only [ccA, List.length_append, List.length_singleton, List.flatMap_append]; rfl
end SX
namespace SX
open Go Go.Proofs
def treeAt (ts : List (List En)) (n : Int) : List En × Int := if 0 ≤ n then match ts[n.toNat]? with | some t => (t, 0) | none => ([], 9) else ([], 9)
def comAt (cs : List Cm) (n : Int) : Cm × Int := if 0 ≤ n then match cs[n.toNat]? with | some c => (c, 0) | none => (([], 0), 9) else (([], 0), 9)
theorem treeAt_no {ts : List (List En)} {n : Int} (h : n < 0 ∨ (ts.length : Int) ≤ n) : treeAt ts n = ([], 9) := by
  unfold treeAt
  split
  · rw [List.getElem?_eq_none om0]
  · rfl
theorem comAt_no {cs : List Cm} {n : Int} (h : n < 0 ∨ (cs.length : Int) ≤ n) : comAt cs n = (([], 0), 9) := by
  unfold comAt
  split
  · rw [List.getElem?_eq_none om0]
  · rfl
theorem treeAt_at {ts : List (List En)} {k : Nat} {t : List En} (h : ts[k]? = some t) : treeAt ts (k : Nat) = (t, 0) := by
  unfold treeAt
  rw [if_pos (Int.natCast_nonneg k), Int.toNat_natCast, h]
theorem comAt_at {cs : List Cm} {k : Nat} {c : Cm} (h : cs[k]? = some c) : comAt cs (k : Nat) = (c, 0) := by
  unfold comAt
  rw [if_pos (Int.natCast_nonneg k), Int.toNat_natCast, h]
theorem trees_spec (p : Nat) (W : SW) (μ : PH) (hW : W.Ok μ) : Spec Tryz.prog 20 [pv p] [stH p W] (fun r L => r = .int .i64 (W.T.length : Nat) ∧ L = [stH p W]) := by
 obtain ⟨⟨A1, c1, e1⟩, ⟨A2, c2, e2⟩, _, _, hT, hC⟩ := hW
 obtain ⟨q, tv, cv, T, C, dead⟩ := W
 dsimp only at e1 e2 hT hC
 subst e1 e2
 refine Spec.of 10 Tryz.func20 rfl rfl rfl ?_
 refine swp_sr ?_
 refine s_as rfl ?_
 refine swl_sub _ (sc0 0 rfl .nil) ?_
 refine swl_nn ?_
 refine swp_seq ?_
 refine swp_sr ?_
 refine s_mv rfl ?_
 refine s_pu (pu_ptr_eq_nil rfl rfl) ?_
 refine swl_sub _ (sc0 0 rfl (sc0 4 rfl .nil)) ?_
 refine swl_nn ?_
 refine swp_cond (b := _) rfl (fun h4 => by cases h4) (fun h4 => ?_)
 refine swp_skip ?_
 refine then_n ?_
 refine swp_sr ?_
 refine s_mv rfl ?_
 refine s_pu (pu_nilCheck rfl) ?_
 refine s_pu (pu_fieldAddr0 rfl) ?_
 refine s_rd (rd_load rfl rfl) ?_
 refine s_pu (pu_len rfl) ?_
 refine s_as rfl ?_
 refine swl_sub _ (sc0 2 rfl .nil) ?_
 refine swl_nn ?_
 refine swp_ret ?_
 exact done_ret [stH p ⟨q, .slice A1 T.length c1, .slice A2 C.length c2, T, C, dead⟩] (.tmp rfl .nil) ⟨rfl, rfl⟩ sp0
theorem coms_spec (p : Nat) (W : SW) (μ : PH) (hW : W.Ok μ) : Spec Tryz.prog 22 [pv p] [stH p W] (fun r L => r = .int .i64 (W.C.length : Nat) ∧ L = [stH p W]) := by
 obtain ⟨⟨A1, c1, e1⟩, ⟨A2, c2, e2⟩, _, _, hT, hC⟩ := hW
 obtain ⟨q, tv, cv, T, C, dead⟩ := W
 dsimp only at e1 e2 hT hC
 subst e1 e2
 refine Spec.of 10 Tryz.func22 rfl rfl rfl ?_
 refine swp_sr ?_
 refine s_as rfl ?_
 refine swl_sub _ (sc0 0 rfl .nil) ?_
 refine swl_nn ?_
 refine swp_seq ?_
 refine swp_sr ?_
 refine s_mv rfl ?_
 refine s_pu (pu_ptr_eq_nil rfl rfl) ?_
 refine swl_sub _ (sc0 0 rfl (sc0 4 rfl .nil)) ?_
 refine swl_nn ?_
 refine swp_cond (b := _) rfl (fun h4 => by cases h4) (fun h4 => ?_)
 refine swp_skip ?_
 refine then_n ?_
 refine swp_sr ?_
 refine s_mv rfl ?_
 refine s_pu (pu_nilCheck rfl) ?_
 refine s_pu (pu_fieldAddr0 rfl) ?_
 refine s_rd (rd_load rfl rfl) ?_
 refine s_pu (pu_len rfl) ?_
 refine s_as rfl ?_
 refine swl_sub _ (sc0 2 rfl .nil) ?_
 refine swl_nn ?_
 refine swp_ret ?_
 exact done_ret [stH p ⟨q, .slice A1 T.length c1, .slice A2 C.length c2, T, C, dead⟩] (.tmp rfl .nil) ⟨rfl, rfl⟩ sp0
theorem dead_spec (p : Nat) (W : SW) : Spec Tryz.prog 26 [pv p] [stH p W] (fun r L => r = .bool W.dead ∧ L = [stH p W]) := by
 refine Spec.of 11 Tryz.func26 rfl rfl rfl ?_
 refine swp_sr ?_
 refine s_as rfl ?_
 refine swl_sub _ (sc0 0 rfl .nil) ?_
 refine swl_nn ?_
 refine swp_sr ?_
 refine s_mv rfl ?_
 refine s_pu (pu_ptr_ne_nil rfl rfl) ?_
 refine s_mv rfl ?_
 refine s_split 5 rfl (fun h5 => ?_) (fun h5 => by cases h5)
 refine s_on rfl rfl ?_
 refine s_mv rfl ?_
 refine s_on rfl rfl ?_
 refine s_pu (pu_nilCheck rfl) ?_
 refine s_on rfl rfl ?_
 refine s_pu (pu_fieldAddr0 rfl) ?_
 refine s_on rfl rfl ?_
 refine s_rd (rd_load rfl rfl) ?_
 refine s_pu (pu_pick_t rfl rfl) ?_
 refine s_as rfl ?_
 refine swl_sub _ (sc0 2 rfl .nil) ?_
 refine swl_nn ?_
 refine swp_ret ?_
 exact done_ret [stH p W] (.tmp rfl .nil) ⟨rfl, rfl⟩ sp0
theorem tcs_get {T : List (Value × List En)} {k : Nat} {x : Value × List En} (h : T[k]? = some x) : (T.flatMap tcs)[k * 1]? = some x.1 := by
  have := flat_get (f := tcs) (k := 1) (fun x => (rfl : (tcs x).length = 1)) T [] k x h 0 x.1 rfl
  rwa [List.append_nil, Nat.add_zero] at this
theorem ccs_get {C : List (Value × Cm)} {k : Nat} {x : Value × Cm} (h : C[k]? = some x) : (C.flatMap ccs)[k * 2]? = some x.1 ∧ (C.flatMap ccs)[k * 2 + 1]? = some (.int .i64 x.2.2) := by
  have h0 := flat_get (f := ccs) (k := 2) (fun x => (rfl : (ccs x).length = 2)) C [] k x h 0 x.1 rfl
  have h1 := flat_get (f := ccs) (k := 2) (fun x => (rfl : (ccs x).length = 2)) C [] k x h 1 (.int .i64 x.2.2) rfl
  rw [List.append_nil] at h0 h1
  exact ⟨h0, h1⟩
set_option maxHeartbeats 2000000 in
theorem tree_spec (p : Nat) (W : SW) (μ : PH) (hW : W.Ok μ) (hlt : ∀ x ∈ W.T, x.2.length ≤ 1048576) (n : Int) : Spec Tryz.prog 21 [pv p, .int .i64 n] [stH p W, ttA W, ro μ] (fun r L => ∃ A c, r = .tuple #[.slice A (treeAt W.pl.1 n).1.length c, .int .i64 (treeAt W.pl.1 n).2] ∧ L = [own 47 2 (.slice A (treeAt W.pl.1 n).1.length c) (treeAt W.pl.1 n).1.length (ens (treeAt W.pl.1 n).1), stH p W, ttA W, ro μ]) := by
 have hW0 := hW
 obtain ⟨⟨A1, c1, e1⟩, ⟨A2, c2, e2⟩, htr, hcr, hT, hC⟩ := hW
 obtain ⟨q, tv, cv, T, C, dead⟩ := W
 dsimp only at e1 e2 htr hcr hT hC hlt
 subst e1 e2
 have hlen : (SW.pl ⟨q, .slice A1 T.length c1, .slice A2 C.length c2, T, C, dead⟩).1.length = T.length := List.length_map _
 refine Spec.of 29 Tryz.func21 rfl rfl rfl ?_
 refine swp_sr ?_
 refine s_as rfl ?_
 refine s_as rfl ?_
 refine swl_sub _ (sc0 0 rfl (sc0 1 rfl .nil)) ?_
 refine swl_nn ?_
 refine swp_seq ?_
 refine swp_block ?_
 refine swp_sr ?_
 refine s_mv rfl ?_
 refine s_pu (pu_ptr_eq_nil rfl rfl) ?_
 refine s_as rfl ?_
 refine swl_sub _ (sc0 0 rfl (sc0 1 rfl (sc0 6 rfl .nil))) ?_
 refine swl_nn ?_
 refine swp_cond (b := _) rfl (fun h6 => by cases h6) (fun h6 => ?_)
 refine swp_sr ?_
 refine s_mv rfl ?_
 refine s_pu (pu_lss rfl rfl) ?_
 refine s_mv rfl ?_
 refine s_split 12 rfl (fun h12 => ?_) (fun h12 => ?_)
 ·skip
  have h12' : n < 0 := of_decide_eq_true h12
  rw [treeAt_no (.inl h12')]
  refine s_off rfl rfl rfl ?_
  refine s_off rfl rfl rfl ?_
  refine s_off rfl rfl rfl ?_
  refine s_off rfl rfl rfl ?_
  refine s_off rfl rfl rfl ?_
  refine s_off rfl rfl rfl ?_
  refine s_off rfl rfl rfl ?_
  refine s_pu (pu_pick_t rfl rfl) ?_
  refine s_as rfl ?_
  refine swl_sub _ (sc0 0 rfl (sc0 1 rfl (sc0 9 rfl .nil))) ?_
  refine swl_nn ?_
  refine swp_cond (b := _) rfl (fun h9 => ?_) (fun h9 => by cases h9)
  refine swp_sr ?_
  refine s_as rfl ?_
  refine s_as rfl ?_
  refine swl_sub _ (sc0 4 rfl (sc0 5 rfl .nil)) ?_
  refine swl_nn ?_
  refine swp_ret ?_
  refine block_r ?_
  refine then_r ?_
  exact done_retE [own 47 2 (.slice none 0 0) 0 [], stH p ⟨q, .slice A1 T.length c1, .slice A2 C.length c2, T, C, dead⟩, ttA ⟨q, .slice A1 T.length c1, .slice A2 C.length c2, T, C, dead⟩, ro μ] (.tmp rfl (.tmp rfl .nil)) ⟨none, 0, rfl, rfl⟩ own_nil_ent
 ·skip
  have h12' : 0 ≤ n := by have := of_decide_eq_false h12; omega
  refine s_on rfl rfl ?_
  refine s_mv rfl ?_
  refine s_on rfl rfl ?_
  refine s_mv rfl ?_
  refine s_on rfl rfl ?_
  refine s_pu (pu_nilCheck rfl) ?_
  refine s_on rfl rfl ?_
  refine s_pu (pu_fieldAddr0 rfl) ?_
  refine s_on rfl rfl ?_
  refine s_rd (rd_load rfl rfl) ?_
  refine s_on rfl rfl ?_
  refine s_pu (pu_len rfl) ?_
  refine s_on rfl rfl ?_
  refine s_pu (pu_geq rfl rfl) ?_
  refine s_pu (pu_pick_f rfl rfl) ?_
  refine s_as rfl ?_
  refine swl_sub _ (sc0 0 rfl (sc0 1 rfl (sc0 9 rfl .nil))) ?_
  refine swl_nn ?_
  refine swp_cond (b := _) rfl (fun h9 => ?_) (fun h9 => ?_)
  ·skip
   refine swp_sr ?_
   refine s_as rfl ?_
   refine s_as rfl ?_
   refine swl_sub _ (sc0 4 rfl (sc0 5 rfl .nil)) ?_
   refine swl_nn ?_
   refine swp_ret ?_
   refine block_r ?_
   refine then_r ?_
   have h9' : (T.length : Int) ≤ n := of_decide_eq_true h9
   rw [treeAt_no (.inr (by rw [hlen]; exact h9'))]
   exact done_retE [own 47 2 (.slice none 0 0) 0 [], stH p ⟨q, .slice A1 T.length c1, .slice A2 C.length c2, T, C, dead⟩, ttA ⟨q, .slice A1 T.length c1, .slice A2 C.length c2, T, C, dead⟩, ro μ] (.tmp rfl (.tmp rfl .nil)) ⟨none, 0, rfl, rfl⟩ own_nil_ent
  ·skip
   have h9' : ¬ (T.length : Int) ≤ n := of_decide_eq_false h9
   obtain ⟨k, rfl⟩ : ∃ k : Nat, n = (k : Int) := ⟨n.toNat, by omega⟩
   have hk : k < T.length := by omega
   obtain ⟨x, hx⟩ : ∃ x, T[k]? = some x := ⟨_, List.getElem?_eq_getElem hk⟩
   have hxt : (SW.pl ⟨q, .slice A1 T.length c1, .slice A2 C.length c2, T, C, dead⟩).1[k]? = some x.2 := by show (T.map (·.2))[k]? = _; rw [List.getElem?_map, hx]; rfl
   rw [treeAt_at hxt]
   have hxm := List.mem_of_getElem? hx
   have hxr := htr x hxm
   refine swp_fact (fun m h => own_shape (e := 22) (n := 1) (v := .slice A1 T.length c1) (l := T.length) (xs := T.flatMap tcs) tk0 h) fun hs => ?_
   obtain ⟨b, rfl⟩ : ∃ b, A1 = some ⟨b, 0, none⟩ := by
    rcases hs with ⟨_, h⟩ | ⟨b, cap, h, _⟩
    ·omega
    ·injection h with h1; exact ⟨b, h1⟩
   refine swp_skip ?_
   refine block_n ?_
   refine then_n ?_
   refine swp_sr ?_
   refine s_mv rfl ?_
   refine s_pu (pu_nilCheck rfl) ?_
   refine s_pu (pu_fieldAddr0 rfl) ?_
   refine s_rd (rd_load rfl rfl) ?_
   refine s_mv rfl ?_
   refine s_pu (pu_indexAddr (0 + k * 1) rfl rfl om0 om0 (by rw [Int.toNat_natCast])) ?_
   refine s_rd (rd_of_ld rfl (by rw [Nat.zero_add]; exact ld_ownN (e := 22) (n := 1) tk0 (tcs_get hx))) ?_
   refine s_ef (ef_fn (cloneT_spec μ x.1 x.2 hxr (hlt x hxm)) rfl rfl sp0) ?_
   rintro v28 L1 ⟨A3, c3, rfl, rfl⟩
   refine swl_app ?_
   refine s_as rfl ?_
   refine s_as rfl ?_
   refine swl_sub _ (sc0 4 rfl (sc0 5 rfl .nil)) ?_
   refine swl_nn ?_
   refine swp_ret ?_
   exact done_ret [own 47 2 (.slice A3 x.2.length c3) x.2.length (ens x.2), stH p ⟨q, .slice (some ⟨b, 0, none⟩) T.length c1, .slice A2 C.length c2, T, C, dead⟩, ttA ⟨q, .slice (some ⟨b, 0, none⟩) T.length c1, .slice A2 C.length c2, T, C, dead⟩, ro μ] (.tmp rfl (.tmp rfl .nil)) ⟨A3, c3, rfl, rfl⟩ sp0
end SX
namespace SX
open Go Go.Proofs
theorem ccs_row {C : List (Value × Cm)} {k : Nat} {x : Value × Cm} (h : C[k]? = some x) : ∀ j v, [x.1, .int .i64 x.2.2][j]? = some v → (C.flatMap ccs)[0 + k * 2 + j]? = some v := fun j v hv => by
  obtain ⟨h0, h1⟩ := ccs_get h
  rw [Nat.zero_add]
  match j, hv with
  | 0, hv => cases hv; exact h0
  | 1, hv => cases hv; exact h1
  | j + 2, hv => cases hv
set_option maxHeartbeats 2000000 in
theorem commit_spec (p : Nat) (W : SW) (μ : PH) (hW : W.Ok μ) (hlt : ∀ x ∈ W.C, x.2.1.length ≤ 1048576) (n : Int) : Spec Tryz.prog 23 [pv p, .int .i64 n] [stH p W, ccA W, ro μ] (fun r L => ∃ A c, r = .tuple #[cmV (.slice A (comAt W.pl.2 n).1.1.length c) (comAt W.pl.2 n).1.2, .int .i64 (comAt W.pl.2 n).2] ∧ L = [own 3 1 (.slice A (comAt W.pl.2 n).1.1.length c) (comAt W.pl.2 n).1.1.length ((comAt W.pl.2 n).1.1.flatMap (icsk .i64)), stH p W, ccA W, ro μ]) := by
 have hW0 := hW
 obtain ⟨⟨A1, c1, e1⟩, ⟨A2, c2, e2⟩, htr, hcr, hT, hC⟩ := hW
 obtain ⟨q, tv, cv, T, C, dead⟩ := W
 dsimp only at e1 e2 htr hcr hT hC hlt
 subst e1 e2
 have hlen : (SW.pl ⟨q, .slice A1 T.length c1, .slice A2 C.length c2, T, C, dead⟩).2.length = C.length := List.length_map _
 refine Spec.of 37 Tryz.func23 rfl rfl rfl ?_
 refine swp_sr ?_
 refine s_ef (ef_alloc) ?_
 intro b4
 refine s_as rfl ?_
 refine swl_sub _ (sc0 0 rfl (sc0 1 rfl (sc0 4 rfl .nil))) ?_
 refine swl_nn ?_
 refine swp_seq ?_
 refine swp_block ?_
 refine swp_sr ?_
 refine s_mv rfl ?_
 refine s_pu (pu_ptr_eq_nil rfl rfl) ?_
 refine s_as rfl ?_
 refine swl_sub _ (sc0 0 rfl (sc0 1 rfl (sc0 4 rfl (sc0 7 rfl .nil)))) ?_
 refine swl_nn ?_
 refine swp_cond (b := _) rfl (fun h7 => by cases h7) (fun h7 => ?_)
 refine swp_sr ?_
 refine s_mv rfl ?_
 refine s_pu (pu_lss rfl rfl) ?_
 refine s_mv rfl ?_
 refine s_split 14 rfl (fun h14 => ?_) (fun h14 => ?_)
 ·skip
  have h12' : n < 0 := of_decide_eq_true h14
  rw [comAt_no (.inl h12')]
  refine s_off rfl rfl rfl ?_
  refine s_off rfl rfl rfl ?_
  refine s_off rfl rfl rfl ?_
  refine s_off rfl rfl rfl ?_
  refine s_off rfl rfl rfl ?_
  refine s_off rfl rfl rfl ?_
  refine s_off rfl rfl rfl ?_
  refine s_pu (pu_pick_t rfl rfl) ?_
  refine s_as rfl ?_
  refine swl_sub _ (sc0 0 rfl (sc0 1 rfl (sc0 4 rfl (sc0 11 rfl .nil)))) ?_
  refine swl_nn ?_
  refine swp_cond (b := _) rfl (fun h11 => ?_) (fun h11 => by cases h11)
  refine swp_sr ?_
  refine s_pu (pu_bld (qs := []) rfl) ?_
  refine s_ef0 (ef_storeA rfl rfl rfl rfl) ?_
  refine s_as rfl ?_
  refine swl_sub _ (sc0 4 rfl (sc0 5 rfl .nil)) ?_
  refine swl_nn ?_
  refine swp_ret ?_
  refine block_r ?_
  refine then_r ?_
  exact done_retE [own 3 1 (.slice none 0 0) 0 [], stH p ⟨q, .slice A1 T.length c1, .slice A2 C.length c2, T, C, dead⟩, ccA ⟨q, .slice A1 T.length c1, .slice A2 C.length c2, T, C, dead⟩, ro μ] (.cell rfl (ld_whole rfl) (.tmp rfl .nil)) ⟨none, 0, rfl, rfl⟩ ((Split.ent' (K := [stH p ⟨q, .slice A1 T.length c1, .slice A2 C.length c2, T, C, dead⟩, ccA ⟨q, .slice A1 T.length c1, .slice A2 C.length c2, T, C, dead⟩, ro μ]) sp0).trans own_nil_ent)
 ·skip
  have h12' : 0 ≤ n := by have := of_decide_eq_false h14; omega
  refine s_on rfl rfl ?_
  refine s_mv rfl ?_
  refine s_on rfl rfl ?_
  refine s_mv rfl ?_
  refine s_on rfl rfl ?_
  refine s_pu (pu_nilCheck rfl) ?_
  refine s_on rfl rfl ?_
  refine s_pu (pu_fieldAddr0 rfl) ?_
  refine s_on rfl rfl ?_
  refine s_rd (rd_load rfl rfl) ?_
  refine s_on rfl rfl ?_
  refine s_pu (pu_len rfl) ?_
  refine s_on rfl rfl ?_
  refine s_pu (pu_geq rfl rfl) ?_
  refine s_pu (pu_pick_f rfl rfl) ?_
  refine s_as rfl ?_
  refine swl_sub _ (sc0 0 rfl (sc0 1 rfl (sc0 4 rfl (sc0 11 rfl .nil)))) ?_
  refine swl_nn ?_
  refine swp_cond (b := _) rfl (fun h11 => ?_) (fun h11 => ?_)
  ·skip
   refine swp_sr ?_
   refine s_pu (pu_bld (qs := []) rfl) ?_
   refine s_ef0 (ef_storeA rfl rfl rfl rfl) ?_
   refine s_as rfl ?_
   refine swl_sub _ (sc0 4 rfl (sc0 5 rfl .nil)) ?_
   refine swl_nn ?_
   refine swp_ret ?_
   refine block_r ?_
   refine then_r ?_
   have h9' : (C.length : Int) ≤ n := of_decide_eq_true h11
   rw [comAt_no (.inr (by rw [hlen]; exact h9'))]
   exact done_retE [own 3 1 (.slice none 0 0) 0 [], stH p ⟨q, .slice A1 T.length c1, .slice A2 C.length c2, T, C, dead⟩, ccA ⟨q, .slice A1 T.length c1, .slice A2 C.length c2, T, C, dead⟩, ro μ] (.cell rfl (ld_whole rfl) (.tmp rfl .nil)) ⟨none, 0, rfl, rfl⟩ ((Split.ent' (K := [stH p ⟨q, .slice A1 T.length c1, .slice A2 C.length c2, T, C, dead⟩, ccA ⟨q, .slice A1 T.length c1, .slice A2 C.length c2, T, C, dead⟩, ro μ]) sp0).trans own_nil_ent)
  ·skip
   have h9' : ¬ (C.length : Int) ≤ n := of_decide_eq_false h11
   obtain ⟨k, rfl⟩ : ∃ k : Nat, n = (k : Int) := ⟨n.toNat, by omega⟩
   have hk : k < C.length := by omega
   obtain ⟨x, hx⟩ : ∃ x, C[k]? = some x := ⟨_, List.getElem?_eq_getElem hk⟩
   have hxt : (SW.pl ⟨q, .slice A1 T.length c1, .slice A2 C.length c2, T, C, dead⟩).2[k]? = some x.2 := by show (C.map (·.2))[k]? = _; rw [List.getElem?_map, hx]; rfl
   rw [comAt_at hxt]
   have hxm := List.mem_of_getElem? hx
   have hxr := hcr x hxm
   obtain ⟨A6, c6, hx1⟩ := hxr.sl
   have hrow := ccs_row hx
   rw [hx1] at hrow hxr
   refine swp_fact (fun m h => own_shape (e := 25) (n := 2) (v := .slice A2 C.length c2) (l := C.length) (xs := C.flatMap ccs) tk0 h) fun hs => ?_
   obtain ⟨b, rfl⟩ : ∃ b, A2 = some ⟨b, 0, none⟩ := by
    rcases hs with ⟨_, h⟩ | ⟨b, cap, h, _⟩
    ·omega
    ·injection h with h1; exact ⟨b, h1⟩
   refine swp_skip ?_
   refine block_n ?_
   refine then_n ?_
   refine swp_sr ?_
   refine s_mv rfl ?_
   refine s_pu (pu_nilCheck rfl) ?_
   refine s_pu (pu_fieldAddr0 rfl) ?_
   refine s_rd (rd_load rfl rfl) ?_
   refine s_mv rfl ?_
   refine s_pu (pu_indexAddr (0 + k * 2) rfl rfl om0 om0 (by rw [Int.toNat_natCast])) ?_
   refine s_rd (rd_of_ld rfl (ld_ownA (e := 25) (n := 2) (vs := [.slice A6 x.2.1.length c6, .int .i64 x.2.2]) tk0 rfl hrow)) ?_
   refine s_ef (ef_alloc) ?_
   intro b6
   refine s_ef0 (ef_storeA rfl rfl rfl rfl) ?_
   refine swl_sub _ (sc0 4 rfl (sc0 6 rfl .nil)) ?_
   refine swl_nn ?_
   refine swp_seq ?_
   refine swp_draw [1, 4] ([blk b6 25 [.slice A6 x.2.1.length c6, .int .i64 x.2.2]]) ([blk b4 25 [.slice none 0 0, .int .i64 0], stH p ⟨q, .slice A1 T.length c1, .slice (some ⟨b, 0, none⟩) C.length c2, T, C, dead⟩, ccA ⟨q, .slice A1 T.length c1, .slice (some ⟨b, 0, none⟩) C.length c2, T, C, dead⟩, ro μ]) (Split.ent sp0) kr0 ?_
   refine d_pu 0 rfl (pu_fieldAddr0 rfl) kr0 kr0 kr0 ?_
   refine d_rd 1 rfl (rd_load rfl rfl) rfl kr0 kr0 kr0 ?_
   refine d_pu 3 rfl (pu_fieldAddr0 rfl) kr0 kr0 kr0 ?_
   refine d_rd 4 rfl (rd_load rfl rfl) rfl kr0 kr0 kr0 ?_
   refine d_eft 2 rfl kr0 (ef_fn (cloneI_spec μ (.slice A6 x.2.1.length c6) x.2.1 hxr (hlt x hxm)) rfl rfl sp0) ?_
   rintro v33 L1 ⟨A3, c3, rfl, rfl⟩
   refine ⟨_, ent_appC (Split.ent sp0), ?_⟩
   refine d_pu 5 rfl (pu_bld (qs := [(0, _), (1, _)]) rfl) kr0 kr0 kr0 ?_
   refine d_fin0t 6 rfl kr0 kr0 (ef_storeA rfl rfl rfl rfl) ?_
   refine d_pu 7 rfl (pu_assign rfl) kr0 kr0 kr0 ?_
   refine d_sub _ (sc0 4 rfl (sc0 5 rfl .nil)) ?_
   refine d_nilf kr0 ?_
   refine then_n ?_
   refine swp_ret ?_
   exact done_ret [own 3 1 (.slice A3 x.2.1.length c3) x.2.1.length (x.2.1.flatMap (icsk .i64)), stH p ⟨q, .slice A1 T.length c1, .slice (some ⟨b, 0, none⟩) C.length c2, T, C, dead⟩, ccA ⟨q, .slice A1 T.length c1, .slice (some ⟨b, 0, none⟩) C.length c2, T, C, dead⟩, ro μ] (.cell rfl (ld_whole rfl) (.tmp rfl .nil)) ⟨A3, c3, rfl, rfl⟩ sp0
/-- commits' parents -/
abbrev parS (s : St2) : List (List Int) := s.2.map (·.1)
set_option maxHeartbeats 2000000 in
theorem graph_spec (p : Nat) (W : SW) (μ : PH) (hW : W.Ok μ) (hlt : ∀ x ∈ W.C, x.2.1.length ≤ 1048576) : Spec Tryz.prog 19 [pv p] [stH p W, ccA W, ro μ] (fun r L => ∃ μ' G, Le μ μ' ∧ Graph μ' r G ∧ nums G = parS W.pl ∧ L = [stH p W, ccA W, ro μ']) := by
 have hW0 := hW
 obtain ⟨⟨A1, c1, e1⟩, ⟨A2, c2, e2⟩, htr, hcr, hT, hC⟩ := hW
 obtain ⟨q, tv, cv, T, C, dead⟩ := W
 dsimp only at e1 e2 htr hcr hT hC hlt
 subst e1 e2
 refine Spec.of 24 Tryz.func19 rfl rfl rfl ?_
 refine swp_sr ?_
 refine s_as rfl ?_
 refine swl_sub _ (sc0 0 rfl .nil) ?_
 refine swl_nn ?_
 refine swp_sr ?_
 refine s_as rfl ?_
 refine swl_sub _ (sc0 0 rfl (sc0 3 rfl .nil)) ?_
 refine swl_nn ?_
 refine swp_seq ?_
 refine swp_sr ?_
 refine s_mv rfl ?_
 refine s_ef (ef_fn (coms_spec p ⟨q, .slice A1 T.length c1, .slice A2 C.length c2, T, C, dead⟩ μ hW0) rfl rfl sp0) ?_
 rintro v6 L1 ⟨rfl, rfl⟩
 refine swl_app ?_
 refine s_mv rfl ?_
 refine swl_sub _ (sc0 0 rfl (sc0 3 rfl (sc0 6 rfl (sc0 7 rfl .nil)))) ?_
 refine swl_nn ?_
 refine swp_block ?_
 refine swp_ent (own_nil_ent (e := 23) (n := 1)) ?_
 refine swp_loop (ι := Nat × Value × List (Value × List Int) × PH) (fun k env L => Sub env [(0, pv p), (3, k.2.1), (6, .int .i64 (C.length : Nat)), (7, .int .i64 (k.1 : Nat))] ∧ Ent L [own 23 1 k.2.1 k.1 (k.2.2.1.flatMap gcs), stH p ⟨q, .slice A1 T.length c1, .slice A2 C.length c2, T, C, dead⟩, ccA ⟨q, .slice A1 T.length c1, .slice A2 C.length c2, T, C, dead⟩, ro k.2.2.2] ∧ k.1 ≤ C.length ∧ Le μ k.2.2.2 ∧ nums k.2.2.1 = ((C.take k.1).map (·.2)).map (·.1) ∧ (∀ x ∈ k.2.2.1, Row k.2.2.2 x.1 1 x.2.length (x.2.flatMap (icsk .i64)))) (fun k => C.length - k.1) (0, .slice none 0 0, [], μ) ⟨⟨rfl, rfl, rfl, rfl, trivial⟩, by show Ent _ [own 23 1 (.slice none 0 0) 0 [], stH p ⟨q, .slice A1 T.length c1, .slice A2 C.length c2, T, C, dead⟩, ccA ⟨q, .slice A1 T.length c1, .slice A2 C.length c2, T, C, dead⟩, ro μ]; exact Split.ent' sp0, Nat.zero_le _, Le.refl _, rfl, fun x hx => (by cases hx)⟩ ?_
 rintro ⟨k, v3, Gk, μk⟩ env L ⟨hsub, hE, hk, hle, hnk, hrk⟩
 dsimp only at hsub hE hk hle hnk hrk ⊢
 refine swp_sub _ hsub ?_
 refine swp_ent hE ?_
 clear hsub hE env L
 refine swp_sr ?_
 refine s_pu (pu_lss rfl rfl) ?_
 refine swl_sub _ (sc0 0 rfl (sc0 3 rfl (sc0 6 rfl (sc0 7 rfl (sc0 8 rfl .nil))))) ?_
 refine swl_nn ?_
 refine swp_seq ?_
 refine swp_cond (b := _) rfl (fun h8 => ?_) (fun h8 => ?_)
 ·skip
  have h8' : k < C.length := by have := of_decide_eq_true h8; omega
  obtain ⟨x, hx⟩ : ∃ x, C[k]? = some x := ⟨_, List.getElem?_eq_getElem h8'⟩
  have hxm := List.mem_of_getElem? hx
  have hxr := hcr x hxm
  have hx0 := (ccs_get hx).1
  refine swp_fact (fun m h => own_shape (e := 25) (n := 2) (v := .slice A2 C.length c2) (l := C.length) (xs := C.flatMap ccs) tk0 h) fun hs => ?_
  obtain ⟨b, hA2⟩ : ∃ b, A2 = some ⟨b, 0, none⟩ := by
   rcases hs with ⟨_, h⟩ | ⟨b, cap, h, _⟩
   ·omega
   ·injection h with h1; exact ⟨b, h1⟩
  rw [hA2]
  refine swp_skip ?_
  refine then_n ?_
  refine swp_seq ?_
  refine swp_block ?_
  refine swp_sr ?_
  refine s_mv rfl ?_
  refine s_as rfl ?_
  refine swl_sub _ (sc0 0 rfl (sc0 3 rfl (sc0 4 rfl (sc0 6 rfl (sc0 7 rfl .nil))))) ?_
  refine swl_nn ?_
  refine swp_region ?_
  refine s_mv rfl ?_
  refine s_mv rfl ?_
  refine s_pu (pu_nilCheck rfl) ?_
  refine s_pu (pu_fieldAddr0 rfl) ?_
  refine s_rd (rd_load rfl rfl) ?_
  refine s_mv rfl ?_
  refine s_pu (pu_indexAddr (0 + k * 2) rfl rfl om0 om0 (by rw [Int.toNat_natCast])) ?_
  refine s_pu (pu_fieldAddr rfl) ?_
  refine s_rd (rd_of_ld rfl (by rw [Nat.zero_add]; exact ld_ownN (e := 25) (n := 2) tk0 hx0)) ?_
  refine s_ef (ef_fn (cloneI_spec μk x.1 x.2.1 (hxr.le hle) (hlt x hxm)) rfl rfl sp0) ?_
  rintro v19 L1 ⟨A3, c3, rfl, rfl⟩
  refine swl_app ?_
  refine s_ef (ef_bldS (qs := [(0, _)]) rfl rfl rfl) ?_
  intro b20
  refine s_ef (ef_append_lit (l := k) (m := 1) rfl rfl sp0 (by simp only [maxLen]; omega) om0) ?_
  rintro v21 -
  skip
  refine s_as rfl ?_
  refine swl_sub _ (sc0 0 rfl (sc0 3 rfl (sc0 6 rfl (sc0 7 rfl .nil)))) ?_
  rw [← hA2]
  refine swl_share_own (μ := μk) (v := .slice A3 x.2.1.length c3) (e := 3) (n := 1) sp0 fun μ' hle' hrow' => ?_
  refine swl_nil ?_
  refine block_n ?_
  refine then_n ?_
  refine swp_region ?_
  refine s_pu (pu_add_as ((k + 1 : Nat) : Int) rfl rfl om0 om0 om0) ?_
  refine s_mv rfl ?_
  refine swl_sub _ (sc0 0 rfl (sc0 3 rfl (sc0 6 rfl (sc0 7 rfl .nil)))) ?_
  refine swl_nil ?_
  refine then_n ⟨(k + 1, v21, Gk ++ [(.slice A3 x.2.1.length c3, x.2.1)], μ'), ⟨⟨rfl, rfl, rfl, rfl, trivial⟩, ?_, h8', hle.trans hle', ?_, fun y hy => ?_⟩, by show C.length - (k + 1) < C.length - k; omega⟩
  ·show Ent _ [own 23 1 v21 (k + 1) ((Gk ++ [(Value.slice A3 x.2.1.length c3, x.2.1)]).flatMap gcs), stH p ⟨q, .slice A1 T.length c1, .slice A2 C.length c2, T, C, dead⟩, ccA ⟨q, .slice A1 T.length c1, .slice A2 C.length c2, T, C, dead⟩, ro μ']
   rw [show (Gk ++ [(Value.slice A3 x.2.1.length c3, x.2.1)]).flatMap gcs = Gk.flatMap gcs ++ [Value.slice A3 x.2.1.length c3] by rw [List.flatMap_append]; rfl]
   exact Split.ent' sp0
  ·show List.map (·.2) (Gk ++ [((_ : Value), x.2.1)]) = ((C.take (k + 1)).map (·.2)).map (·.1)
   rw [List.map_append, List.take_add_one, hx, List.map_append, List.map_append, ← hnk]; rfl
  ·rcases List.mem_append.1 hy with hy | hy
   ·exact (hrk y hy).le hle'
   ·obtain rfl : y = (Value.slice A3 x.2.1.length c3, x.2.1) := by simpa using hy
    exact hrow'
 ·skip
  have h8' := of_decide_eq_false h8
  obtain rfl : k = C.length := by omega
  rw [List.take_length] at hnk
  refine swp_exit ?_
  refine then_x ?_
  refine then_x ?_
  refine block_hit rfl ?_
  refine then_n ?_
  refine swp_seq ?_
  refine swp_share_own (μ := μk) (v := v3) (e := 23) (n := 1) sp0 fun μ' hle' hrow' => ?_
  refine swp_region ?_
  refine s_mv rfl ?_
  refine s_as rfl ?_
  refine swl_sub _ (sc0 2 rfl .nil) ?_
  refine swl_nn ?_
  refine swp_ret ?_
  have hGl : C.length = Gk.length := by
   have := congrArg List.length hnk
   simp only [nums, List.length_map] at this
   exact this.symm
  rw [hGl] at hrow'
  exact done_ret [stH p ⟨q, .slice A1 T.length c1, .slice A2 C.length c2, T, C, dead⟩, ccA ⟨q, .slice A1 T.length c1, .slice A2 C.length c2, T, C, dead⟩, ro μ'] (.tmp rfl .nil) ⟨μ', Gk, hle.trans hle', ⟨hrow', fun x hx => (hrk x hx).le hle'⟩, hnk, rfl⟩ sp0
end SX
namespace SX
open Go Go.Proofs
theorem knownS_eq (nT nC : Nat) (c : Cm) : knownS nT nC c = (decide (c.2 < (nT : Int)) && !(c.1.any fun p => decide ((nC : Int) ≤ p))) := rfl
set_option maxHeartbeats 2000000 in
theorem rknown_spec (μ : PH) (p : Nat) (W : SW) (hW : W.Ok μ) (pvv : Value) (c : Cm) (h : Row μ pvv 1 c.1.length (c.1.flatMap (icsk .i64))) : Spec Tryz.prog 54 [pv p, cmV pvv c.2] [rsH p W, ro μ] (fun r L => r = .bool (knownS W.T.length W.C.length c) ∧ L = [rsH p W, ro μ]) := by
 have hsm := h.small
 obtain ⟨⟨A1, c1, e1⟩, ⟨A2, c2, e2⟩, _, _, _, _⟩ := hW
 obtain ⟨q, tv, cv, T, C, dead⟩ := W
 dsimp only at e1 e2
 subst e1 e2
 refine Spec.of 32 Tryz.func54 rfl rfl rfl ?_
 refine swp_sr ?_
 refine s_ef (ef_box rfl rfl) ?_
 intro b3
 refine s_as rfl ?_
 refine swl_sub _ (sc0 0 rfl (sc0 3 rfl .nil)) ?_
 refine swl_nn ?_
 refine swp_seq ?_
 refine swp_sr ?_
 refine s_as rfl ?_
 refine swl_sub _ (sc0 0 rfl (sc0 3 rfl (sc0 5 rfl .nil))) ?_
 refine swl_nn ?_
 refine swp_block ?_
 refine swp_loop (ι := Nat) (fun i env L => Sub env [(0, pv p), (3, pv b3), (5, .int .i64 (i : Nat))] ∧ Ent L [blk b3 25 [pvv, .int .i64 c.2], rsH p ⟨q, .slice A1 T.length c1, .slice A2 C.length c2, T, C, dead⟩, ro μ] ∧ i ≤ c.1.length ∧ ∀ y ∈ c.1.take i, decide ((C.length : Int) ≤ y) = false) (fun i => c.1.length - i) 0 ⟨⟨rfl, rfl, rfl, trivial⟩, Split.ent' sp0, Nat.zero_le _, fun y hy => by simp at hy⟩ ?_
 rintro i env L ⟨hsub, hE, hi, hno⟩
 refine swp_sub _ hsub ?_
 refine swp_ent hE ?_
 clear hsub hE env L
 refine swp_seq ?_
 refine swp_sr ?_
 refine s_mv rfl ?_
 refine s_pu (pu_fieldAddr0 rfl) ?_
 refine s_rd (rd_load rfl rfl) ?_
 refine s_pu (pu_len_row h rfl) ?_
 refine s_pu (pu_lss rfl rfl) ?_
 refine swl_sub _ (sc0 0 rfl (sc0 3 rfl (sc0 5 rfl (sc0 10 rfl .nil)))) ?_
 refine swl_nn ?_
 refine swp_cond (b := _) rfl (fun h10 => ?_) (fun h10 => ?_)
 ·skip
  have h10' : i < c.1.length := by have := of_decide_eq_true h10; omega
  obtain ⟨x, hx⟩ : ∃ x, c.1[i]? = some x := ⟨_, List.getElem?_eq_getElem h10'⟩
  obtain ⟨gb, off, cap, hv, hc⟩ := int_at h hx
  refine swp_skip ?_
  refine then_n ?_
  refine swp_seq ?_
  refine swp_block ?_
  refine swp_seq ?_
  refine swp_draw [1, 4, 8] _ [] (by simp only [List.append_nil]; exact Ent.refl _) kr0 ?_
  refine d_pu 0 rfl (pu_fieldAddr0 rfl) kr0 kr0 kr0 ?_
  refine d_rd 1 rfl (rd_load rfl rfl) rfl kr0 kr0 kr0 ?_
  refine d_pu 2 rfl (pu_move rfl) kr0 kr0 kr0 ?_
  refine d_pu 3 rfl (pu_indexAddr (off + i * 1) (congrArg some hv) rfl om0 om0 (by rw [Int.toNat_natCast])) kr0 kr0 kr0 ?_
  refine d_rd 4 rfl (rd_ro rfl hc) rfl kr0 kr0 kr0 ?_
  refine d_pu 5 rfl (pu_move rfl) kr0 kr0 kr0 ?_
  refine d_pu 6 rfl (pu_nilCheck rfl) kr0 kr0 kr0 ?_
  refine d_pu 7 rfl (pu_fieldAddr0 rfl) kr0 kr0 kr0 ?_
  refine d_rd 8 rfl (rd_load rfl rfl) rfl kr0 kr0 kr0 ?_
  refine d_pu 9 rfl (pu_len rfl) kr0 kr0 kr0 ?_
  refine d_pu 10 rfl (pu_geq rfl rfl) kr0 kr0 kr0 ?_
  refine d_sub _ (sc0 0 rfl (sc0 3 rfl (sc0 5 rfl (sc0 23 rfl .nil)))) ?_
  refine d_nilt kr0 ?_
  refine then_n ?_
  refine swp_cond (b := _) rfl (fun h23 => ?_) (fun h23 => ?_)
  ·skip
   refine swp_sr ?_
   refine s_as rfl ?_
   refine swl_sub _ (sc0 4 rfl .nil) ?_
   refine swl_nn ?_
   refine swp_ret ?_
   refine block_r ?_
   refine then_r ?_
   refine then_r ?_
   refine block_r ?_
   refine then_r ?_
   have hk : knownS T.length C.length c = false := by
    rw [knownS_eq, List.any_eq_true.2 ⟨x, List.mem_of_getElem? hx, h23⟩, Bool.not_true, Bool.and_false]
   exact done_ret [rsH p ⟨q, .slice A1 T.length c1, .slice A2 C.length c2, T, C, dead⟩, ro μ] (.tmp rfl .nil) ⟨congrArg Value.bool hk.symm, rfl⟩ sp0
  ·skip
   refine swp_skip ?_
   refine block_n ?_
   refine then_n ?_
   refine swp_region ?_
   refine s_mv rfl ?_
   refine s_pu (pu_add_as ((i + 1 : Nat) : Int) rfl rfl om0 om0 om0) ?_
   refine s_as rfl ?_
   refine swl_sub _ (sc0 0 rfl (sc0 3 rfl (sc0 5 rfl .nil))) ?_
   refine swl_nil ?_
   refine then_n ⟨i + 1, ⟨⟨rfl, rfl, rfl, trivial⟩, Split.ent' sp0, h10', fun y hy => ?_⟩, by omega⟩
   rw [List.take_add_one, hx] at hy
   rcases List.mem_append.1 hy with hy | hy
   ·exact hno y hy
   ·obtain rfl : y = x := by simpa using hy
    exact h23
 ·skip
  have h10' := of_decide_eq_false h10
  obtain rfl : i = c.1.length := by omega
  rw [List.take_length] at hno
  refine swp_exit ?_
  refine then_x ?_
  refine then_x ?_
  refine block_hit rfl ?_
  refine then_n ?_
  refine swp_seq ?_
  refine swp_draw [1, 5] _ [] (by simp only [List.append_nil]; exact Ent.refl _) kr0 ?_
  refine d_pu 0 rfl (pu_fieldAddr0 rfl) kr0 kr0 kr0 ?_
  refine d_rd 1 rfl (rd_load rfl rfl) rfl kr0 kr0 kr0 ?_
  refine d_pu 2 rfl (pu_move rfl) kr0 kr0 kr0 ?_
  refine d_pu 3 rfl (pu_nilCheck rfl) kr0 kr0 kr0 ?_
  refine d_pu 4 rfl (pu_fieldAddr0 rfl) kr0 kr0 kr0 ?_
  refine d_rd 5 rfl (rd_load rfl rfl) rfl kr0 kr0 kr0 ?_
  refine d_pu 6 rfl (pu_len rfl) kr0 kr0 kr0 ?_
  refine d_pu 7 rfl (pu_lss rfl rfl) kr0 kr0 kr0 ?_
  refine d_pu 8 rfl (pu_assign rfl) kr0 kr0 kr0 ?_
  refine d_sub _ (sc0 4 rfl .nil) ?_
  refine d_nilt kr0 ?_
  refine then_n ?_
  refine swp_ret ?_
  have ha : (c.1.any fun p => decide ((C.length : Int) ≤ p)) = false := by
   rw [List.any_eq_false]
   exact fun y hy => by rw [hno y hy]; decide
  have hk : knownS T.length C.length c = decide (c.2 < (T.length : Int)) := by
   rw [knownS_eq, ha, Bool.not_false, Bool.and_true]
  exact done_ret [rsH p ⟨q, .slice A1 T.length c1, .slice A2 C.length c2, T, C, dead⟩, ro μ] (.tmp rfl .nil) ⟨congrArg Value.bool hk.symm, rfl⟩ sp0
end SX
namespace SX
open Go Go.Proofs
end SX
namespace SX
open Go Go.Proofs
end SX
namespace SX
open Go Go.Proofs
end SX
namespace SX
open Go Go.Proofs
/-! ## the document's first example -/
abbrev hel : List UInt8 := [104, 101, 108, 108, 111]
end SX
namespace SX
open Go Go.Proofs
/-! ## the document's disk -/
abbrev rF1 (f : Fl) : List Value := [.string ⟨f.bytes.toArray⟩, .int .i64 (f.safe : Nat)]
abbrev rN1 (x : Nm) : List Value := [.string x.1, .int .i64 (x.2 : Nat)]
abbrev rC1 (c : Cg) : List Value := [.string c.gone, .string c.come, .int .i64 (c.file : Nat)]
structure RX where
  fv : Value
  sv : Value
  av : Value
  wv : Value
abbrev rdC (q : Int) (fv sv av wv : Value) (fa : Int) (off : Bool) : List Value := [.int .i64 q, fv, sv, av, wv, .int .i64 fa, .bool off]
abbrev rdH (p : Nat) (d : Dk) (x : RX) : Assn := blk p 92 (rdC d.quota x.fv x.sv x.av x.wv d.falls d.off)
def RDA (p : Nat) (d : Dk) : Assn := exA fun x : RX => [rdH p d x, own 96 2 x.fv d.files.length (d.files.flatMap rF1), own 138 2 x.sv d.seen.length (d.seen.flatMap rN1), own 138 2 x.av d.safe.length (d.safe.flatMap rN1), own 99 3 x.wv d.pend.length (d.pend.flatMap rC1)]
theorem rd_close {p : Nat} {d : Dk} {x : RX} {L : List Assn} : Ent (rdH p d x :: own 96 2 x.fv d.files.length (d.files.flatMap rF1) :: own 138 2 x.sv d.seen.length (d.seen.flatMap rN1) :: own 138 2 x.av d.safe.length (d.safe.flatMap rN1) :: own 99 3 x.wv d.pend.length (d.pend.flatMap rC1) :: L) (RDA p d :: L) :=
  ent_ex (F := fun x : RX => [rdH p d x, own 96 2 x.fv d.files.length (d.files.flatMap rF1), own 138 2 x.sv d.seen.length (d.seen.flatMap rN1), own 138 2 x.av d.safe.length (d.safe.flatMap rN1), own 99 3 x.wv d.pend.length (d.pend.flatMap rC1)]) x sp0
theorem RDA.open' {p : Nat} {d : Dk} {f : FuncId} {args : List Value} {L : List Assn} {post : Value → List Assn → Prop}
    (h : ∀ x : RX, Spec Tryz.prog f args (rdH p d x :: own 96 2 x.fv d.files.length (d.files.flatMap rF1) :: own 138 2 x.sv d.seen.length (d.seen.flatMap rN1) :: own 138 2 x.av d.safe.length (d.safe.flatMap rN1) :: own 99 3 x.wv d.pend.length (d.pend.flatMap rC1) :: L) post) : Spec Tryz.prog f args (RDA p d :: L) post := Spec.exA' fun x => h x
theorem rgood_spec (s : ByteArray) : Spec Tryz.prog 40 [.string s] [] (fun r L => r = .bool (goodN s) ∧ L = []) := by
 have hb := bsize s
 refine Spec.of 28 Tryz.func40 rfl rfl rfl ?_
 refine swp_sr ?_
 refine s_as rfl ?_
 refine swl_sub _ (sc0 0 rfl .nil) ?_
 refine swl_nn ?_
 refine swp_seq ?_
 refine swp_sr ?_
 refine s_mv rfl ?_
 refine s_pu (pu_strlen rfl) ?_
 refine s_pu (pu_lss rfl rfl) ?_
 refine s_mv rfl ?_
 refine s_split 7 rfl (fun h7 => ?_) (fun h7 => ?_)
 ·skip
  refine s_off rfl rfl rfl ?_
  refine s_off rfl rfl rfl ?_
  refine s_off rfl rfl rfl ?_
  refine s_pu (pu_pick_t rfl rfl) ?_
  refine swl_sub _ (sc0 0 rfl (sc0 11 rfl .nil)) ?_
  refine swl_nn ?_
  refine swp_cond (b := _) rfl (fun h11 => ?_) (fun h11 => by cases h11)
  refine swp_sr ?_
  refine s_as rfl ?_
  refine swl_sub _ (sc0 2 rfl .nil) ?_
  refine swl_nn ?_
  refine swp_ret ?_
  refine then_r ?_
  refine done_ret [] (.tmp rfl .nil) ⟨?_, rfl⟩ sp0
  have h7' := of_decide_eq_true h7
  unfold goodN
  rw [decide_eq_false (show ¬ 1 ≤ s.size by omega)]; rfl
 ·skip
  refine s_on rfl rfl ?_
  refine s_mv rfl ?_
  refine s_on rfl rfl ?_
  refine s_pu (pu_strlen rfl) ?_
  refine s_on rfl rfl ?_
  refine s_pu (pu_gtr rfl rfl) ?_
  refine s_pu (pu_pick_f rfl rfl) ?_
  refine swl_sub _ (sc0 0 rfl (sc0 11 rfl .nil)) ?_
  refine swl_nn ?_
  refine swp_cond (b := _) rfl (fun h11 => ?_) (fun h11 => ?_)
  ·skip
   refine swp_sr ?_
   refine s_as rfl ?_
   refine swl_sub _ (sc0 2 rfl .nil) ?_
   refine swl_nn ?_
   refine swp_ret ?_
   refine then_r ?_
   refine done_ret [] (.tmp rfl .nil) ⟨?_, rfl⟩ sp0
   have h11' := of_decide_eq_true h11
   unfold goodN
   rw [decide_eq_false (show ¬ s.size ≤ 32 by omega), Bool.false_and, Bool.and_false]; rfl
  ·skip
   have h7' : 1 ≤ s.size := by have := of_decide_eq_false h7; omega
   have h11' : s.size ≤ 32 := by have := of_decide_eq_false h11; omega
   have key : goodN s = s.data.toList.all fun b => decide (33 ≤ b.toNat) && decide (b.toNat ≤ 126) := by
    unfold goodN; rw [decide_eq_true h7', decide_eq_true h11']; rfl
   refine swp_skip ?_
   refine then_n ?_
   refine swp_seq ?_
   refine swp_sr ?_
   refine s_as rfl ?_
   refine swl_sub _ (sc0 0 rfl (sc0 3 rfl .nil)) ?_
   refine swl_nn ?_
   refine swp_block ?_
   refine swp_loop (ι := Nat) (fun i env L => Sub env [(0, .string s), (3, .int .i64 (i : Nat))] ∧ Ent L [] ∧ i ≤ s.size ∧ (s.data.toList.take i).all (fun b => decide (33 ≤ b.toNat) && decide (b.toNat ≤ 126)) = true) (fun i => s.size - i) 0 ⟨⟨rfl, rfl, trivial⟩, Split.ent' sp0, Nat.zero_le _, rfl⟩ ?_
   rintro i env L ⟨hsub, hE, hi, hall⟩
   refine swp_sub _ hsub ?_
   refine swp_ent hE ?_
   clear hsub hE env L
   refine swp_seq ?_
   refine swp_sr ?_
   refine s_mv rfl ?_
   refine s_mv rfl ?_
   refine s_pu (pu_strlen rfl) ?_
   refine s_pu (pu_lss rfl rfl) ?_
   refine swl_sub _ (sc0 0 rfl (sc0 3 rfl (sc0 15 rfl .nil))) ?_
   refine swl_nn ?_
   refine swp_cond (b := _) rfl (fun h15 => ?_) (fun h15 => ?_)
   ·skip
    have h15' : i < s.size := by have := of_decide_eq_true h15; omega
    obtain ⟨b, hbb⟩ : ∃ b, s.data.toList[i]? = some b := ⟨_, List.getElem?_eq_getElem om0⟩
    have hstep : (s.data.toList.take (i + 1)).all (fun b => decide (33 ≤ b.toNat) && decide (b.toNat ≤ 126)) = (decide (33 ≤ b.toNat) && decide (b.toNat ≤ 126)) := by
     rw [List.take_add_one, hbb, List.all_append, hall]; simp
    refine swp_skip ?_
    refine then_n ?_
    refine swp_seq ?_
    refine swp_block ?_
    refine swp_sr ?_
    refine s_mv rfl ?_
    refine s_mv rfl ?_
    refine s_pu (pu_str_index rfl rfl rfl hbb) ?_
    refine s_pu (pu_lss rfl rfl) ?_
    refine s_mv rfl ?_
    refine s_split 22 rfl (fun h22 => ?_) (fun h22 => ?_)
    ·skip
     refine s_off rfl rfl rfl ?_
     refine s_off rfl rfl rfl ?_
     refine s_off rfl rfl rfl ?_
     refine s_off rfl rfl rfl ?_
     refine s_pu (pu_pick_t rfl rfl) ?_
     refine swl_sub _ (sc0 0 rfl (sc0 3 rfl (sc0 27 rfl .nil))) ?_
     refine swl_nn ?_
     refine swp_cond (b := _) rfl (fun h27 => ?_) (fun h27 => by cases h27)
     refine swp_sr ?_
     refine s_as rfl ?_
     refine swl_sub _ (sc0 2 rfl .nil) ?_
     refine swl_nn ?_
     refine swp_ret ?_
     refine block_r ?_
     refine then_r ?_
     refine then_r ?_
     refine block_r ?_
     refine then_r ?_
     refine done_ret [] (.tmp rfl .nil) ⟨?_, rfl⟩ sp0
     rw [key]
     refine congrArg Value.bool ?_
     symm
     refine Bool.eq_false_iff.2 fun hh => ?_
     have := List.all_eq_true.1 hh b (List.mem_of_getElem? hbb)
     rw [Bool.and_eq_true, decide_eq_true_eq, decide_eq_true_eq] at this
     first
      | (have h22' := of_decide_eq_true h22; omega)
      | (have h27' := of_decide_eq_true h27; omega)
    ·skip
     refine s_on rfl rfl ?_
     refine s_mv rfl ?_
     refine s_on rfl rfl ?_
     refine s_mv rfl ?_
     refine s_on rfl rfl ?_
     refine s_pu (pu_str_index rfl rfl rfl hbb) ?_
     refine s_on rfl rfl ?_
     refine s_pu (pu_gtr rfl rfl) ?_
     refine s_pu (pu_pick_f rfl rfl) ?_
     refine swl_sub _ (sc0 0 rfl (sc0 3 rfl (sc0 27 rfl .nil))) ?_
     refine swl_nn ?_
     refine swp_cond (b := _) rfl (fun h27 => ?_) (fun h27 => ?_)
     ·skip
      refine swp_sr ?_
      refine s_as rfl ?_
      refine swl_sub _ (sc0 2 rfl .nil) ?_
      refine swl_nn ?_
      refine swp_ret ?_
      refine block_r ?_
      refine then_r ?_
      refine then_r ?_
      refine block_r ?_
      refine then_r ?_
      refine done_ret [] (.tmp rfl .nil) ⟨?_, rfl⟩ sp0
      rw [key]
      refine congrArg Value.bool ?_
      symm
      refine Bool.eq_false_iff.2 fun hh => ?_
      have := List.all_eq_true.1 hh b (List.mem_of_getElem? hbb)
      rw [Bool.and_eq_true, decide_eq_true_eq, decide_eq_true_eq] at this
      first
       | (have h22' := of_decide_eq_true h22; omega)
       | (have h27' := of_decide_eq_true h27; omega)
     ·skip
      refine swp_skip ?_
      refine block_n ?_
      refine then_n ?_
      refine swp_region ?_
      refine s_mv rfl ?_
      refine s_pu (pu_add_as ((i + 1 : Nat) : Int) rfl rfl om0 om0 om0) ?_
      refine s_as rfl ?_
      refine swl_sub _ (sc0 0 rfl (sc0 3 rfl .nil)) ?_
      refine swl_nil ?_
      have h22' := of_decide_eq_false h22
      have h27' := of_decide_eq_false h27
      refine then_n ⟨i + 1, ⟨⟨rfl, rfl, trivial⟩, Split.ent' sp0, h15', ?_⟩, by omega⟩
      rw [hstep, decide_eq_true (show 33 ≤ b.toNat by omega), decide_eq_true (show b.toNat ≤ 126 by omega)]; rfl
   ·skip
    have h15' : i = s.size := by have := of_decide_eq_false h15; omega
    rw [h15', ← hb, List.take_length] at hall
    refine swp_exit ?_
    refine then_x ?_
    refine then_x ?_
    refine block_hit rfl ?_
    refine then_n ?_
    refine swp_sr ?_
    refine s_as rfl ?_
    refine swl_sub _ (sc0 2 rfl .nil) ?_
    refine swl_nn ?_
    refine swp_ret ?_
    refine done_ret [] (.tmp rfl .nil) ⟨by rw [key, hall]; rfl, rfl⟩ sp0
theorem rfind_spec (v : Value) (l : List Nm) (s : ByteArray) (_ : l.length ≤ 1048576) : Spec Tryz.prog 41 [v, .string s] [own 138 2 v l.length (l.flatMap rN1)]
  (fun r L => (∃ i : Int, r = .int .i64 i ∧ ((i < 0 ∧ findN l s = none) ∨ ∃ (k : Nat) (y : Nm), i = (k : Int) ∧ l[k]? = some y ∧ findN l s = some y.2)) ∧ L = [own 138 2 v l.length (l.flatMap rN1)]) := by
 refine Spec.fact' (fun m h => own_cap2 h) fun ⟨A, c, hv, hlc, hcm, hA, hA2⟩ => ?_
 simp only [maxLen] at hcm
 subst hv
 refine Spec.of 20 Tryz.func41 rfl rfl rfl ?_
 refine swp_sr ?_
 refine s_as rfl ?_
 refine swl_sub _ (sc0 0 rfl (sc0 1 rfl .nil)) ?_
 refine swl_nn ?_
 refine swp_seq ?_
 refine swp_sr ?_
 refine s_as rfl ?_
 refine swl_sub _ (sc0 0 rfl (sc0 1 rfl (sc0 5 rfl .nil))) ?_
 refine swl_nn ?_
 refine swp_block ?_
 refine swp_loop (ι := Nat) (fun i env L => Sub env [(0, .slice A l.length c), (1, .string s), (5, .int .i64 (i : Nat))] ∧ Ent L [own 138 2 (.slice A l.length c) l.length (l.flatMap rN1)] ∧ i ≤ l.length ∧ findN (l.take i) s = none) (fun i => l.length - i) 0 ⟨⟨rfl, rfl, rfl, trivial⟩, Split.ent' sp0, Nat.zero_le _, rfl⟩ ?_
 rintro i env L ⟨hsub, hE, hi, hn⟩
 refine swp_sub _ hsub ?_
 refine swp_ent hE ?_
 clear hsub hE env L
 refine swp_seq ?_
 refine swp_sr ?_
 refine s_mv rfl ?_
 refine s_mv rfl ?_
 refine s_pu (pu_len rfl) ?_
 refine s_pu (pu_lss rfl rfl) ?_
 refine swl_sub _ (sc0 0 rfl (sc0 1 rfl (sc0 5 rfl (sc0 9 rfl .nil)))) ?_
 refine swl_nn ?_
 refine swp_cond (b := _) rfl (fun h9 => ?_) (fun h9 => ?_)
 ·skip
  have h9' : i < l.length := by have := of_decide_eq_true h9; omega
  obtain ⟨a, ha⟩ : ∃ a, A = some a := by cases A with | none => have := hA rfl; omega | some a => exact ⟨a, rfl⟩
  obtain ⟨b, rfl⟩ := hA2 a ha
  subst ha
  obtain ⟨y, hy⟩ : ∃ y, l[i]? = some y := ⟨_, List.getElem?_eq_getElem h9'⟩
  have hcell := flat_at (f := rN1) (n := 2) (fun _ => rfl) hy 0 _ rfl
  have hdrop : l.drop i = y :: l.drop (i + 1) := by rw [List.drop_eq_getElem_cons h9', (List.getElem?_eq_some_iff.1 hy).2]
  refine swp_skip ?_
  refine then_n ?_
  refine swp_seq ?_
  refine swp_block ?_
  refine swp_sr ?_
  refine s_mv rfl ?_
  refine s_mv rfl ?_
  refine s_pu (pu_indexAddr (0 + i * 2) rfl rfl om0 om0 (by rw [Int.toNat_natCast])) ?_
  refine s_pu (pu_fieldAddr rfl) ?_
  refine s_rd (rd_own rfl tk0 (by rw [Nat.zero_add]; exact hcell)) ?_
  refine s_mv rfl ?_
  refine s_pu (pu_str_eql rfl rfl) ?_
  refine swl_sub _ (sc0 0 rfl (sc0 1 rfl (sc0 5 rfl (sc0 18 rfl .nil)))) ?_
  refine swl_nn ?_
  refine swp_cond (b := _) rfl (fun h18 => ?_) (fun h18 => ?_)
  ·skip
   refine swp_sr ?_
   refine s_mv rfl ?_
   refine s_as rfl ?_
   refine swl_sub _ (sc0 4 rfl .nil) ?_
   refine swl_nn ?_
   refine swp_ret ?_
   refine block_r ?_
   refine then_r ?_
   refine then_r ?_
   refine block_r ?_
   refine then_r ?_
   refine done_ret [own 138 2 (.slice (some ⟨b, 0, none⟩) l.length c) l.length (l.flatMap rN1)] (.tmp rfl .nil) ⟨⟨i, rfl, .inr ⟨i, y, rfl, hy, ?_⟩⟩, rfl⟩ sp0
   rw [← List.take_append_drop i l, find_app, hn, hdrop, findN_cons, if_pos h18]; rfl
  ·skip
   refine swp_skip ?_
   refine block_n ?_
   refine then_n ?_
   refine swp_region ?_
   refine s_mv rfl ?_
   refine s_pu (pu_add_as ((i + 1 : Nat) : Int) rfl rfl om0 om0 om0) ?_
   refine s_as rfl ?_
   refine swl_sub _ (sc0 0 rfl (sc0 1 rfl (sc0 5 rfl .nil))) ?_
   refine swl_nil ?_
   refine then_n ⟨i + 1, ⟨⟨rfl, rfl, rfl, trivial⟩, Split.ent' sp0, h9', ?_⟩, by omega⟩
   rw [List.take_add_one, hy, find_app, hn]
   show findN [y] s = none
   rw [findN_cons, if_neg (by rw [h18]; decide)]; rfl
 ·skip
  have h9' : i = l.length := by have := of_decide_eq_false h9; omega
  rw [h9', List.take_length] at hn
  refine swp_exit ?_
  refine then_x ?_
  refine then_x ?_
  refine block_hit rfl ?_
  refine then_n ?_
  refine swp_sr ?_
  refine s_as rfl ?_
  refine swl_sub _ (sc0 4 rfl .nil) ?_
  refine swl_nn ?_
  refine swp_ret ?_
  exact done_ret [own 138 2 (.slice A l.length c) l.length (l.flatMap rN1)] (.tmp rfl .nil) ⟨⟨-1, rfl, .inl ⟨by omega, hn⟩⟩, rfl⟩ sp0
end SX
namespace SX
open Go Go.Proofs
/-- what the number of a name's file is, or the error -/
def FileR (d : Dk) (s : ByteArray) (k e : Int) : Prop := (e ≠ 0 ∧ readD d s = ([], e) ∧ ∀ f, onFile d s f = (d, e)) ∨ (e = 0 ∧ ∃ j : Nat, k = (j : Int) ∧ findN d.seen s = some j ∧ readD d s = ((d.fl j).bytes, 0) ∧ ∀ f, onFile d s f = f j)
theorem rfile_spec (p : Nat) (d : Dk) (hd : d.Ok) (x : RX) (s : ByteArray) : Spec Tryz.prog 72 [pv p, .string s] [rdH p d x, own 138 2 x.sv d.seen.length (d.seen.flatMap rN1)] (fun r L => (∃ k e, r = .tuple #[.int .i64 k, .int .i64 e] ∧ FileR d s k e) ∧ L = [rdH p d x, own 138 2 x.sv d.seen.length (d.seen.flatMap rN1)]) := by
 have hsl := hd.seenLe
 refine Spec.pre (pre := [own 138 2 x.sv d.seen.length (d.seen.flatMap rN1), rdH p d x]) ?_ Ent.swap
 refine Spec.fact' (fun m h => own_cap2 h) fun ⟨A, c, hv, hlc, hcm, hA, hA2⟩ => ?_
 simp only [maxLen] at hcm
 refine Spec.of 27 Tryz.func72 rfl rfl rfl ?_
 refine swp_sr ?_
 refine s_as rfl ?_
 refine s_as rfl ?_
 refine swl_sub _ (sc0 0 rfl (sc0 1 rfl .nil)) ?_
 refine swl_nn ?_
 refine swp_seq ?_
 refine swp_sr ?_
 refine s_mv rfl ?_
 refine s_pu (pu_nilCheck rfl) ?_
 refine s_pu (pu_fieldAddr0 rfl) ?_
 refine s_rd (rd_load rfl rfl) ?_
 refine swl_sub _ (sc0 0 rfl (sc0 1 rfl (sc0 10 rfl .nil))) ?_
 refine swl_nn ?_
 refine swp_cond (b := _) rfl (fun h10 => ?_) (fun h10 => ?_)
 ·skip
  refine swp_sr ?_
  refine s_as rfl ?_
  refine s_as rfl ?_
  refine swl_sub _ (sc0 4 rfl (sc0 5 rfl .nil)) ?_
  refine swl_nn ?_
  refine swp_ret ?_
  refine then_r ?_
  refine done_ret [rdH p d x, own 138 2 x.sv d.seen.length (d.seen.flatMap rN1)] (.tmp rfl (.tmp rfl .nil)) ⟨⟨0, 8, rfl, .inl ⟨by decide, ?_, fun f => ?_⟩⟩, rfl⟩ sp0
  ·unfold readD; rw [if_pos h10]
  ·unfold onFile; rw [if_pos h10]
 ·skip
  have hoff : ¬ d.off = true := by rw [h10]; decide
  refine swp_skip ?_
  refine then_n ?_
  refine swp_sr ?_
  refine s_mv rfl ?_
  refine s_pu (pu_nilCheck rfl) ?_
  refine s_pu (pu_fieldAddr0 rfl) ?_
  refine s_rd (rd_load rfl rfl) ?_
  refine s_mv rfl ?_
  refine s_ef (ef_fn (rfind_spec x.sv d.seen s om0) rfl rfl sp0) ?_
  rintro v16 L1 ⟨⟨i, rfl, hi⟩, rfl⟩
  refine swl_app ?_
  refine s_as rfl ?_
  refine swl_sub _ (sc0 0 rfl (sc0 6 rfl .nil)) ?_
  refine swl_nn ?_
  refine swp_seq ?_
  refine swp_sr ?_
  refine s_mv rfl ?_
  refine s_pu (pu_lss rfl rfl) ?_
  refine swl_sub _ (sc0 0 rfl (sc0 6 rfl (sc0 18 rfl .nil))) ?_
  refine swl_nn ?_
  refine swp_cond (b := _) rfl (fun h18 => ?_) (fun h18 => ?_)
  ·skip
   refine swp_sr ?_
   refine s_as rfl ?_
   refine s_as rfl ?_
   refine swl_sub _ (sc0 4 rfl (sc0 5 rfl .nil)) ?_
   refine swl_nn ?_
   refine swp_ret ?_
   refine then_r ?_
   have h18' := of_decide_eq_true h18
   have hf : findN d.seen s = none := by
    rcases hi with ⟨_, h⟩ | ⟨k, y, h, _⟩
    ·exact h
    ·omega
   refine done_ret [rdH p d x, own 138 2 x.sv d.seen.length (d.seen.flatMap rN1)] (.tmp rfl (.tmp rfl .nil)) ⟨⟨0, 6, rfl, .inl ⟨by decide, ?_, fun f => ?_⟩⟩, rfl⟩ sp0
   ·unfold readD; rw [if_neg hoff, hf]
   ·unfold onFile; rw [if_neg hoff, hf]
  ·skip
   have h18' := of_decide_eq_false h18
   obtain ⟨k, y, rfl, hy, hf⟩ : ∃ (k : Nat) (y : Nm), i = (k : Int) ∧ d.seen[k]? = some y ∧ findN d.seen s = some y.2 := by
    rcases hi with ⟨h, _⟩ | h
    ·omega
    ·exact h
   have hk : k < d.seen.length := (List.getElem?_eq_some_iff.1 hy).1
   obtain ⟨a, ha⟩ : ∃ a, A = some a := by cases A with | none => have := hA rfl; omega | some a => exact ⟨a, rfl⟩
   obtain ⟨b, rfl⟩ := hA2 a ha
   subst ha
   have hcell := flat_at (f := rN1) (n := 2) (fun _ => rfl) hy 1 _ rfl
   rw [hv]
   refine swp_skip ?_
   refine then_n ?_
   refine swp_sr ?_
   refine s_mv rfl ?_
   refine s_pu (pu_nilCheck rfl) ?_
   refine s_pu (pu_fieldAddr0 rfl) ?_
   refine s_rd (rd_load rfl rfl) ?_
   refine s_mv rfl ?_
   refine s_pu (pu_indexAddr (0 + k * 2) (congrArg some hv) rfl om0 om0 (by rw [Int.toNat_natCast])) ?_
   refine s_pu (pu_fieldAddr rfl) ?_
   refine s_rd (rd_own rfl tk0 (by rw [Nat.zero_add]; exact hcell)) ?_
   refine s_as rfl ?_
   refine s_as rfl ?_
   refine swl_sub _ (sc0 4 rfl (sc0 5 rfl .nil)) ?_
   refine swl_nn ?_
   refine swp_ret ?_
   rw [← hv]
   refine done_ret [rdH p d x, own 138 2 x.sv d.seen.length (d.seen.flatMap rN1)] (.tmp rfl (.tmp rfl .nil)) ⟨⟨y.2, 0, rfl, .inr ⟨rfl, y.2, rfl, hf, ?_, fun f => ?_⟩⟩, rfl⟩ sp0
   ·unfold readD; rw [if_neg hoff, hf]
   ·unfold onFile; rw [if_neg hoff, hf]
theorem rstep_spec (p : Nat) (q : Int) (fv sv av wv : Value) (fa : Int) (off : Bool) (h0 : 0 ≤ fa ∧ fa ≤ 9223372036854775807) : Spec Tryz.prog 42 [pv p] [blk p 92 (rdC q fv sv av wv fa off)]
  (fun r L => (fa = 1 ∧ r = .int .i64 8 ∧ L = [blk p 92 (rdC q fv sv av wv 0 true)]) ∨ (fa ≠ 1 ∧ r = .int .i64 0 ∧ L = [blk p 92 (rdC q fv sv av wv (if 0 < fa then fa - 1 else fa) off)])) := by
 refine Spec.of 23 Tryz.func42 rfl rfl rfl ?_
 refine swp_sr ?_
 refine s_as rfl ?_
 refine swl_sub _ (sc0 0 rfl .nil) ?_
 refine swl_nn ?_
 refine swp_seq ?_
 refine swp_sr ?_
 refine s_mv rfl ?_
 refine s_pu (pu_nilCheck rfl) ?_
 refine s_pu (pu_fieldAddr0 rfl) ?_
 refine s_rd (rd_load rfl rfl) ?_
 refine s_pu (pu_gtr rfl rfl) ?_
 refine swl_sub _ (sc0 0 rfl (sc0 7 rfl .nil)) ?_
 refine swl_nn ?_
 refine swp_cond (b := _) rfl (fun h7 => ?_) (fun h7 => ?_)
 ·skip
  have h7' : 0 < fa := by have := of_decide_eq_true h7; omega
  refine swp_sr ?_
  refine s_mv rfl ?_
  refine s_pu (pu_nilCheck rfl) ?_
  refine s_pu (pu_fieldAddr0 rfl) ?_
  refine s_rd (rd_load rfl rfl) ?_
  refine s_pu (pu_sub_in rfl rfl om0 om0) ?_
  refine s_pu (pu_nilCheck rfl) ?_
  refine s_pu (pu_fieldAddr0 rfl) ?_
  refine s_ef0 (ef_store rfl rfl rfl) ?_
  refine swl_sub _ (sc0 0 rfl .nil) ?_
  refine swl_nn ?_
  refine swp_sr ?_
  refine s_mv rfl ?_
  refine s_pu (pu_nilCheck rfl) ?_
  refine s_pu (pu_fieldAddr0 rfl) ?_
  refine s_rd (rd_load rfl rfl) ?_
  refine s_pu (pu_eql rfl rfl) ?_
  refine swl_sub _ (sc0 0 rfl (sc0 19 rfl .nil)) ?_
  refine swl_nn ?_
  refine swp_cond (b := _) rfl (fun h19 => ?_) (fun h19 => ?_)
  ·skip
   have h19' : fa = 1 := by have := of_decide_eq_true h19; omega
   refine swp_sr ?_
   refine s_mv rfl ?_
   refine s_pu (pu_nilCheck rfl) ?_
   refine s_pu (pu_fieldAddr0 rfl) ?_
   refine s_ef0 (ef_store rfl rfl rfl) ?_
   refine swl_sub _ .nil ?_
   refine swl_nn ?_
   refine swp_sr ?_
   refine s_as rfl ?_
   refine swl_sub _ (sc0 2 rfl .nil) ?_
   refine swl_nn ?_
   refine swp_ret ?_
   refine then_r ?_
   refine done_retE [blk p 92 (rdC q fv sv av wv 0 true)] (.tmp rfl .nil) (.inl ⟨h19', rfl, rfl⟩) ?_
   rw [show fa - 1 = 0 by omega]; exact Ent.refl _
  ·skip
   refine swp_skip ?_
   refine then_n ?_
   refine swp_sr ?_
   refine s_as rfl ?_
   refine swl_sub _ (sc0 2 rfl .nil) ?_
   refine swl_nn ?_
   refine swp_ret ?_
   have h19' : fa ≠ 1 := by have := of_decide_eq_false h19; omega
   refine done_ret [blk p 92 (rdC q fv sv av wv (if 0 < fa then fa - 1 else fa) off)] (.tmp rfl .nil) (.inr ⟨h19', rfl, rfl⟩) (R := []) ?_
   rw [if_pos h7']; exact sp0
 ·skip
  refine swp_skip ?_
  refine then_n ?_
  refine swp_sr ?_
  refine s_as rfl ?_
  refine swl_sub _ (sc0 2 rfl .nil) ?_
  refine swl_nn ?_
  refine swp_ret ?_
  have h7' : ¬ 0 < fa := by have := of_decide_eq_false h7; omega
  refine done_ret [blk p 92 (rdC q fv sv av wv (if 0 < fa then fa - 1 else fa) off)] (.tmp rfl .nil) (.inr ⟨by omega, rfl, rfl⟩) (R := []) ?_
  rw [if_neg h7']; exact sp0
set_option maxHeartbeats 2000000 in
theorem changed_spec (v : Value) (l : List Nm) (hl : l.length ≤ 1048576) (c : Cg) : Spec Tryz.prog 88 [v, .agg (rC1 c).toArray] [own 138 2 v l.length (l.flatMap rN1)]
  (fun r L => (∃ A c', r = .slice A (chgN l c).length c') ∧ L = [own 138 2 r (chgN l c).length ((chgN l c).flatMap rN1), own 138 2 v l.length (l.flatMap rN1)]) := by
 refine Spec.fact' (fun m h => own_cap2 h) fun ⟨A, cap, hv, hlc, hcm, hA, hA2⟩ => ?_
 simp only [maxLen] at hcm
 subst hv
 refine Spec.of 50 Tryz.func88 rfl rfl rfl ?_
 refine swp_sr ?_
 refine s_ef (ef_box rfl rfl) ?_
 intro b3
 refine s_as rfl ?_
 refine swl_sub _ (sc0 0 rfl (sc0 3 rfl .nil)) ?_
 refine swl_nn ?_
 refine swp_sr ?_
 refine s_as rfl ?_
 refine swl_sub _ (sc0 0 rfl (sc0 3 rfl (sc0 5 rfl .nil))) ?_
 refine swl_nn ?_
 refine swp_seq ?_
 refine swp_sr ?_
 refine s_as rfl ?_
 refine swl_sub _ (sc0 0 rfl (sc0 3 rfl (sc0 5 rfl (sc0 6 rfl .nil)))) ?_
 refine swl_nn ?_
 refine swp_block ?_
 refine swp_ent (own_nil_ent (e := 138) (n := 2)) ?_
 refine swp_loop (ι := Nat) (fun i env L => ∃ u, Sub env [(0, .slice A l.length cap), (3, pv b3), (5, u), (6, .int .i64 (i : Nat))] ∧ Ent L [own 138 2 u ((l.take i).filter (keepN c)).length (((l.take i).filter (keepN c)).flatMap rN1), own 138 2 (.slice A l.length cap) l.length (l.flatMap rN1), blk b3 99 (rC1 c)] ∧ i ≤ l.length) (fun i => l.length - i) 0 ⟨.slice none 0 0, ⟨rfl, rfl, rfl, rfl, trivial⟩, (show Ent _ [own 138 2 (.slice none 0 0) 0 [], own 138 2 (.slice A l.length cap) l.length (l.flatMap rN1), blk b3 99 (rC1 c)] from Split.ent' sp0), Nat.zero_le _⟩ ?_
 rintro i env L ⟨u, hsub, hE, hi⟩
 refine swp_sub _ hsub ?_
 refine swp_ent hE ?_
 clear hsub hE env L
 have hfl : ((l.take i).filter (keepN c)).length ≤ 1048576 := by
  have h1 := List.length_filter_le (keepN c) (l.take i)
  rw [List.length_take] at h1; omega
 refine swp_seq ?_
 refine swp_sr ?_
 refine s_mv rfl ?_
 refine s_mv rfl ?_
 refine s_pu (pu_len rfl) ?_
 refine s_pu (pu_lss rfl rfl) ?_
 refine swl_sub _ (sc0 0 rfl (sc0 3 rfl (sc0 5 rfl (sc0 6 rfl (sc0 10 rfl .nil))))) ?_
 refine swl_nn ?_
 refine swp_cond (b := _) rfl (fun h10 => ?_) (fun h10 => ?_)
 ·skip
  have h10' : i < l.length := by have := of_decide_eq_true h10; omega
  obtain ⟨a, ha⟩ : ∃ a, A = some a := by cases A with | none => have := hA rfl; omega | some a => exact ⟨a, rfl⟩
  obtain ⟨b, rfl⟩ := hA2 a ha
  subst ha
  obtain ⟨y, hy⟩ : ∃ y, l[i]? = some y := ⟨_, List.getElem?_eq_getElem h10'⟩
  have hat := flat_at (f := rN1) (n := 2) (fun _ => rfl) hy
  have hcell := hat 0 _ rfl
  have htk : (l.take (i + 1)).filter (keepN c) = (l.take i).filter (keepN c) ++ (if keepN c y = true then [y] else []) := by
   rw [List.take_add_one, hy, List.filter_append]
   congr 1
   by_cases hk : keepN c y = true
   ·rw [if_pos hk]; simp [hk]
   ·rw [if_neg hk]; simp [hk]
  refine swp_skip ?_
  refine then_n ?_
  refine swp_seq ?_
  refine swp_block ?_
  refine swp_seq ?_
  refine swp_draw [4, 6, 13, 15] _ [] (by simp only [List.append_nil]; exact Ent.refl _) kr0 ?_
  refine d_pu 0 rfl (pu_move rfl) kr0 kr0 kr0 ?_
  refine d_pu 1 rfl (pu_move rfl) kr0 kr0 kr0 ?_
  refine d_pu 2 rfl (pu_indexAddr (0 + i * 2) rfl rfl om0 om0 (by rw [Int.toNat_natCast])) kr0 kr0 kr0 ?_
  refine d_pu 3 rfl (pu_fieldAddr rfl) kr0 kr0 kr0 ?_
  refine d_rd 4 rfl (rd_own rfl tk0 (by rw [Nat.zero_add]; exact hcell)) rfl kr0 kr0 kr0 ?_
  refine d_pu 5 rfl (pu_fieldAddr0 rfl) kr0 kr0 kr0 ?_
  refine d_rd 6 rfl (rd_load rfl rfl) rfl kr0 kr0 kr0 ?_
  refine d_pu 7 rfl (pu_str_neq rfl rfl) kr0 kr0 kr0 ?_
  refine d_pu 8 rfl (pu_move rfl) kr0 kr0 kr0 ?_
  refine d_split 21 rfl (fun h21 => ?_) (fun h21 => ?_)
  ·skip
   refine d_pu_on 9 rfl rfl rfl (pu_move rfl) kr0 kr0 kr0 ?_
   refine d_pu_on 10 rfl rfl rfl (pu_move rfl) kr0 kr0 kr0 ?_
   refine d_pu_on 11 rfl rfl rfl (pu_indexAddr (0 + i * 2) rfl rfl om0 om0 (by rw [Int.toNat_natCast])) kr0 kr0 kr0 ?_
   refine d_pu_on 12 rfl rfl rfl (pu_fieldAddr rfl) kr0 kr0 kr0 ?_
   refine d_rd_on 13 rfl rfl rfl (rd_own rfl tk0 (by rw [Nat.zero_add]; exact hcell)) rfl kr0 kr0 kr0 ?_
   refine d_pu_on 14 rfl rfl rfl (pu_fieldAddr0 rfl) kr0 kr0 kr0 ?_
   refine d_rd_on 15 rfl rfl rfl (rd_load rfl rfl) rfl kr0 kr0 kr0 ?_
   refine d_pu_on 16 rfl rfl rfl (pu_str_neq rfl rfl) kr0 kr0 kr0 ?_
   refine d_pu 17 rfl (pu_pick_t rfl rfl) kr0 kr0 kr0 ?_
   refine d_sub _ (sc0 0 rfl (sc0 3 rfl (sc0 5 rfl (sc0 6 rfl (sc0 30 rfl .nil))))) ?_
   refine d_nilt kr0 ?_
   refine then_n ?_
   refine swp_cond (b := _) rfl (fun h30 => ?_) (fun h30 => ?_)
   ·skip
    refine swp_region ?_
    refine s_mv rfl ?_
    refine s_mv rfl ?_
    refine s_mv rfl ?_
    refine s_pu (pu_indexAddr (0 + i * 2) rfl rfl om0 om0 (by rw [Int.toNat_natCast])) ?_
    refine s_rd (rd_ownA (vs := rN1 y) rfl tk0 rfl (fun j v hj => by rw [Nat.zero_add]; exact hat j v hj)) ?_
    refine s_ef (ef_bldS (qs := [(0, _)]) rfl rfl rfl) ?_
    intro b36
    refine s_ef (ef_append_lit (l := ((l.take i).filter (keepN c)).length) (m := 1) rfl rfl sp0 (by simp only [maxLen]; omega) om0) ?_
    rintro v' hv'
    skip
    refine s_as rfl ?_
    refine swl_sub _ (sc0 0 rfl (sc0 3 rfl (sc0 5 rfl (sc0 6 rfl .nil)))) ?_
    refine swl_nil ?_
    refine block_n ?_
    refine then_n ?_
    refine swp_region ?_
    refine s_mv rfl ?_
    refine s_pu (pu_add_as ((i + 1 : Nat) : Int) rfl rfl om0 om0 om0) ?_
    refine s_as rfl ?_
    refine swl_sub _ (sc0 0 rfl (sc0 3 rfl (sc0 5 rfl (sc0 6 rfl .nil)))) ?_
    refine swl_nil ?_
    have hk : keepN c y = true := by unfold keepN; rw [not_t h21, not_t h30]; rfl
    refine then_n ⟨i + 1, ⟨v', ⟨rfl, rfl, rfl, rfl, trivial⟩, ?_, h10'⟩, by omega⟩
    rw [htk, if_pos hk, List.length_append, List.flatMap_append]
    simp only [List.length_singleton, List.flatMap_singleton]
    exact Split.ent' sp0
   ·skip
    refine swp_skip ?_
    refine block_n ?_
    refine then_n ?_
    refine swp_region ?_
    refine s_mv rfl ?_
    refine s_pu (pu_add_as ((i + 1 : Nat) : Int) rfl rfl om0 om0 om0) ?_
    refine s_as rfl ?_
    refine swl_sub _ (sc0 0 rfl (sc0 3 rfl (sc0 5 rfl (sc0 6 rfl .nil)))) ?_
    refine swl_nil ?_
    have hk : keepN c y = false := by unfold keepN; rw [not_f h30]; simp
    refine then_n ⟨i + 1, ⟨u, ⟨rfl, rfl, rfl, rfl, trivial⟩, ?_, h10'⟩, by omega⟩
    rw [htk, if_neg (by rw [hk]; decide), List.append_nil]
    exact Split.ent' sp0
  ·skip
   refine d_off 9 rfl rfl rfl rfl kr0 kr0 kr0 ?_
   refine d_off 10 rfl rfl rfl rfl kr0 kr0 kr0 ?_
   refine d_off 11 rfl rfl rfl rfl kr0 kr0 kr0 ?_
   refine d_off 12 rfl rfl rfl rfl kr0 kr0 kr0 ?_
   refine d_off 13 rfl rfl rfl rfl kr0 kr0 kr0 ?_
   refine d_off 14 rfl rfl rfl rfl kr0 kr0 kr0 ?_
   refine d_off 15 rfl rfl rfl rfl kr0 kr0 kr0 ?_
   refine d_off 16 rfl rfl rfl rfl kr0 kr0 kr0 ?_
   refine d_pu 17 rfl (pu_pick_f rfl rfl) kr0 kr0 kr0 ?_
   refine d_sub _ (sc0 0 rfl (sc0 3 rfl (sc0 5 rfl (sc0 6 rfl (sc0 30 rfl .nil))))) ?_
   refine d_nilt kr0 ?_
   refine then_n ?_
   refine swp_cond (b := _) rfl (fun h30 => by cases h30) (fun h30 => ?_)
   refine swp_skip ?_
   refine block_n ?_
   refine then_n ?_
   refine swp_region ?_
   refine s_mv rfl ?_
   refine s_pu (pu_add_as ((i + 1 : Nat) : Int) rfl rfl om0 om0 om0) ?_
   refine s_as rfl ?_
   refine swl_sub _ (sc0 0 rfl (sc0 3 rfl (sc0 5 rfl (sc0 6 rfl .nil)))) ?_
   refine swl_nil ?_
   have hk : keepN c y = false := by unfold keepN; rw [not_f h21]; rfl
   refine then_n ⟨i + 1, ⟨u, ⟨rfl, rfl, rfl, rfl, trivial⟩, ?_, h10'⟩, by omega⟩
   rw [htk, if_neg (by rw [hk]; decide), List.append_nil]
   exact Split.ent' sp0
 ·skip
  have h10' : i = l.length := by have := of_decide_eq_false h10; omega
  subst h10'
  rw [List.take_length] at hfl ⊢
  refine swp_fact (fun m h => own_form h) fun hform => ?_
  refine swp_exit ?_
  refine then_x ?_
  refine then_x ?_
  refine block_hit rfl ?_
  refine then_n ?_
  refine swp_seq ?_
  refine swp_sr ?_
  refine s_pu (pu_fieldAddr0 rfl) ?_
  refine s_rd (rd_load rfl rfl) ?_
  refine s_pu (pu_str_neq rfl rfl) ?_
  refine swl_sub _ (sc0 3 rfl (sc0 5 rfl (sc0 40 rfl .nil))) ?_
  refine swl_nn ?_
  refine swp_cond (b := _) rfl (fun h40 => ?_) (fun h40 => ?_)
  ·skip
   refine swp_region ?_
   refine s_mv rfl ?_
   refine s_pu (pu_fieldAddr0 rfl) ?_
   refine s_rd (rd_load rfl rfl) ?_
   refine s_pu (pu_fieldAddr0 rfl) ?_
   refine s_rd (rd_load rfl rfl) ?_
   refine s_pu (pu_bld (qs := [(0, _), (1, _)]) rfl) ?_
   refine s_ef (ef_bldS (qs := [(0, _)]) rfl rfl rfl) ?_
   intro b47
   refine s_ef (ef_append_lit (l := (l.filter (keepN c)).length) (m := 1) rfl rfl sp0 (by simp only [maxLen]; omega) om0) ?_
   rintro v' hv'
   skip
   refine s_as rfl ?_
   refine swl_sub _ (sc0 5 rfl .nil) ?_
   refine swl_nn ?_
   refine swp_sr ?_
   refine s_mv rfl ?_
   refine s_as rfl ?_
   refine swl_sub _ (sc0 4 rfl .nil) ?_
   refine swl_nn ?_
   refine swp_ret ?_
   have hk : strEq c.come nos = false := not_t h40
   have key : chgN l c = l.filter (keepN c) ++ [(c.come, c.file)] := by unfold chgN; rw [if_neg (by rw [hk]; decide)]
   rw [key, List.length_append, List.flatMap_append]
   simp only [List.length_singleton, List.flatMap_singleton]
   exact done_ret [own 138 2 v' ((l.filter (keepN c)).length + 1) ((l.filter (keepN c)).flatMap rN1 ++ [.string c.come, .int .i64 (c.file : Nat)]), own 138 2 (.slice A l.length cap) l.length (l.flatMap rN1)] (.tmp rfl .nil) ⟨by obtain ⟨g, c', h⟩ := hv' (by decide); exact ⟨_, _, h⟩, rfl⟩ sp0
  ·skip
   refine swp_skip ?_
   refine then_n ?_
   refine swp_sr ?_
   refine s_mv rfl ?_
   refine s_as rfl ?_
   refine swl_sub _ (sc0 4 rfl .nil) ?_
   refine swl_nn ?_
   refine swp_ret ?_
   have hk : strEq c.come nos = true := not_f h40
   have key : chgN l c = l.filter (keepN c) := by unfold chgN; rw [if_pos hk, List.append_nil]
   rw [key]
   exact done_ret [own 138 2 u (l.filter (keepN c)).length ((l.filter (keepN c)).flatMap rN1), own 138 2 (.slice A l.length cap) l.length (l.flatMap rN1)] (.tmp rfl .nil) ⟨hform, rfl⟩ sp0
end SX
namespace SX
open Go Go.Proofs
theorem own_pos {e n : Nat} {v : Value} {l : Nat} {xs : List Value} {L : List Assn} {m : PH} (h : Sat (own e n v l xs :: L) m) (hl : 0 < l) : ∃ b c, v = .slice (some ⟨b, 0, none⟩) l c ∧ l ≤ c ∧ c ≤ 9223372036854775807 := by
  obtain ⟨A, c, hv, h1, h2, h3, h4⟩ := own_cap2 h
  simp only [maxLen] at h2
  cases A with
  | none => have := h3 rfl; omega
  | some a => obtain ⟨b, rfl⟩ := h4 a rfl; exact ⟨b, c, hv, h1, by omega⟩
theorem set_safe : ∀ {l : List Fl} {k : Nat} {f : Fl}, l[k]? = some f → ∀ s : Nat, (l.flatMap rF1).set (0 + k * 2 + 1) (.int .i64 (s : Nat)) = (l.set k ⟨f.bytes, s⟩).flatMap rF1
  | [], _, _, h, _ => by cases h
  | g :: l, 0, f, h, s => by
    simp at h; subst h; rfl
  | g :: l, k + 1, f, h, s => by
    have ih := set_safe (l := l) (k := k) (by simpa using h) s
    rw [List.set_cons_succ, List.flatMap_cons, List.flatMap_cons, ← ih, show 0 + (k + 1) * 2 + 1 = (0 + k * 2 + 1) + 2 by omega]; rfl
theorem set_bytes : ∀ {l : List Fl} {k : Nat} {f : Fl}, l[k]? = some f → ∀ B : List UInt8, (l.flatMap rF1).set (0 + k * 2 + 0) (.string ⟨B.toArray⟩) = (l.set k ⟨B, f.safe⟩).flatMap rF1
  | [], _, _, h, _ => by cases h
  | g :: l, 0, f, h, s => by
    simp at h; subst h; rfl
  | g :: l, k + 1, f, h, s => by
    have ih := set_bytes (l := l) (k := k) (by simpa using h) s
    rw [List.set_cons_succ, List.flatMap_cons, List.flatMap_cons, ← ih, show 0 + (k + 1) * 2 + 0 = (0 + k * 2 + 0) + 2 by omega]; rfl
theorem fl_at {d : Dk} {k : Nat} (h : k < d.files.length) : d.files[k]? = some (d.fl k) := by
  unfold Dk.fl; rw [List.getElem?_eq_getElem h]; rfl
theorem file_lt {d : Dk} (hd : d.Ok) {s : ByteArray} {k : Nat} (h : findN d.seen s = some k) : k < d.files.length := (hd.seenOk.good _ (findN_mem h)).2
theorem tsize (l : List UInt8) : (⟨l.toArray⟩ : ByteArray).size = l.length := by show l.toArray.size = _; simp
theorem str_app (l : List UInt8) (t : ByteArray) : (⟨l.toArray⟩ : ByteArray) ++ t = ⟨(l ++ t.data.toList).toArray⟩ := by
  apply ByteArray.ext
  rw [ByteArray.data_append]
  apply Array.toList_inj.1
  simp
theorem rnew_spec (q : Int) : Spec Tryz.prog 10 [.int .i64 q] [] (fun r L => (¬ newOk q ∧ r = .tuple #[.pointer none, .int .i64 1] ∧ L = []) ∨ (newOk q ∧ ∃ p, r = .tuple #[pv p, .int .i64 0] ∧ L = [RDA p (newD q)])) := by
 refine Spec.of 13 Tryz.func10 rfl rfl rfl ?_
 refine swp_sr ?_
 refine s_as rfl ?_
 refine s_as rfl ?_
 refine swl_sub _ (sc0 0 rfl .nil) ?_
 refine swl_nn ?_
 refine swp_seq ?_
 refine swp_sr ?_
 refine s_mv rfl ?_
 refine s_pu (pu_lss rfl rfl) ?_
 refine s_mv rfl ?_
 refine s_split 6 rfl (fun h6 => ?_) (fun h6 => ?_)
 ·skip
  refine s_off rfl rfl rfl ?_
  refine s_off rfl rfl rfl ?_
  refine s_pu (pu_pick_t rfl rfl) ?_
  refine swl_sub _ (sc0 0 rfl (sc0 9 rfl .nil)) ?_
  refine swl_nn ?_
  refine swp_cond (b := _) rfl (fun h9 => ?_) (fun h9 => by cases h9)
  refine swp_sr ?_
  refine s_as rfl ?_
  refine s_as rfl ?_
  refine swl_sub _ (sc0 2 rfl (sc0 3 rfl .nil)) ?_
  refine swl_nn ?_
  refine swp_ret ?_
  refine then_r ?_
  exact done_ret [] (.tmp rfl (.tmp rfl .nil)) (.inl ⟨fun h => by have := of_decide_eq_true h6; have := h.1; omega, rfl, rfl⟩) sp0
 ·skip
  refine s_on rfl rfl ?_
  refine s_mv rfl ?_
  refine s_on rfl rfl ?_
  refine s_pu (pu_gtr rfl rfl) ?_
  refine s_pu (pu_pick_f rfl rfl) ?_
  refine swl_sub _ (sc0 0 rfl (sc0 9 rfl .nil)) ?_
  refine swl_nn ?_
  refine swp_cond (b := _) rfl (fun h9 => ?_) (fun h9 => ?_)
  ·skip
   refine swp_sr ?_
   refine s_as rfl ?_
   refine s_as rfl ?_
   refine swl_sub _ (sc0 2 rfl (sc0 3 rfl .nil)) ?_
   refine swl_nn ?_
   refine swp_ret ?_
   refine then_r ?_
   exact done_ret [] (.tmp rfl (.tmp rfl .nil)) (.inl ⟨fun h => by have := of_decide_eq_true h9; have := h.2; omega, rfl, rfl⟩) sp0
  ·skip
   refine swp_skip ?_
   refine then_n ?_
   refine swp_sr ?_
   refine s_mv rfl ?_
   refine s_pu (pu_bld (qs := [(0, _)]) rfl) ?_
   refine s_ef (ef_box rfl rfl) ?_
   intro b12
   refine s_as rfl ?_
   refine s_as rfl ?_
   refine swl_sub _ (sc0 2 rfl (sc0 3 rfl .nil)) ?_
   refine swl_nn ?_
   refine swp_ret ?_
   refine done_retE [RDA b12 (newD q)] (.tmp rfl (.tmp rfl .nil)) (.inr ⟨⟨by have := of_decide_eq_false h6; omega, by have := of_decide_eq_false h9; omega⟩, b12, rfl, rfl⟩) ?_
   refine Ent.trans (own_nil_ent (e := 99) (n := 3)) ?_
   refine Ent.trans (own_nil_ent (e := 138) (n := 2)) ?_
   refine Ent.trans (own_nil_ent (e := 138) (n := 2)) ?_
   refine Ent.trans (own_nil_ent (e := 96) (n := 2)) ?_
   exact Ent.trans (Split.ent' (K := [blk b12 92 [.int .i64 q, .slice none 0 0, .slice none 0 0, .slice none 0 0, .slice none 0 0, .int .i64 0, .bool false], own 96 2 (.slice none 0 0) 0 [], own 138 2 (.slice none 0 0) 0 [], own 138 2 (.slice none 0 0) 0 [], own 99 3 (.slice none 0 0) 0 []]) sp0) (rd_close (d := newD q) (x := ⟨.slice none 0 0, .slice none 0 0, .slice none 0 0, .slice none 0 0⟩))
theorem rchange_spec (p : Nat) (q : Int) (fv sv av wv : Value) (fa : Int) (off : Bool) (l : List Nm) (ps : List Cg) (hl : l.length ≤ 1048576) (hp : ps.length ≤ 1048576) (c : Cg) :
  Spec Tryz.prog 43 [pv p, .agg (rC1 c).toArray] [blk p 92 (rdC q fv sv av wv fa off), own 138 2 sv l.length (l.flatMap rN1), own 99 3 wv ps.length (ps.flatMap rC1)]
   (fun _ L => ∃ sv' wv', L = [blk p 92 (rdC q fv sv' av wv' fa off), own 138 2 sv' (chgN l c).length ((chgN l c).flatMap rN1), own 99 3 wv' (ps ++ [c]).length ((ps ++ [c]).flatMap rC1)]) := by
 have hps : (ps ++ [c]).flatMap rC1 = ps.flatMap rC1 ++ rC1 c := by rw [List.flatMap_append, List.flatMap_singleton]
 have hpl : (ps ++ [c]).length = ps.length + 1 := by rw [List.length_append]; rfl
 refine Spec.of 23 Tryz.func43 rfl rfl rfl ?_
 refine swp_sr ?_
 refine s_ef (ef_box rfl rfl) ?_
 intro b3
 refine swl_sub _ (sc0 0 rfl (sc0 3 rfl .nil)) ?_
 refine swl_nn ?_
 refine swp_seq ?_
 refine swp_draw [4, 5] _ [] (by simp only [List.append_nil]; exact Ent.refl _) kr0 ?_
 refine d_pu 0 rfl (pu_move rfl) kr0 kr0 kr0 ?_
 refine d_pu 1 rfl (pu_move rfl) kr0 kr0 kr0 ?_
 refine d_pu 2 rfl (pu_nilCheck rfl) kr0 kr0 kr0 ?_
 refine d_pu 3 rfl (pu_fieldAddr0 rfl) kr0 kr0 kr0 ?_
 refine d_rd 4 rfl (rd_load rfl rfl) rfl kr0 kr0 kr0 ?_
 refine d_rd 5 rfl (rd_loadW rfl rfl) rfl kr0 kr0 kr0 ?_
 refine d_fint 6 rfl kr0 kr0 (ef_fn (changed_spec sv l hl c) rfl rfl sp0) ?_
 rintro v10 L1 ⟨⟨A1, c1, rfl⟩, rfl⟩
 refine swd_app ?_
 refine d_pu 7 rfl (pu_nilCheck rfl) kr0 kr0 kr0 ?_
 refine d_pu 8 rfl (pu_fieldAddr0 rfl) kr0 kr0 kr0 ?_
 refine d_fin0f 9 rfl kr0 kr0 (ef_store rfl rfl rfl) ?_
 refine d_sub _ (sc0 0 rfl (sc0 3 rfl .nil)) ?_
 refine d_nilf kr0 ?_
 refine then_n ?_
 refine swp_draw [4, 5] _ [] (by simp only [List.append_nil]; exact Ent.refl _) kr0 ?_
 refine d_pu 0 rfl (pu_move rfl) kr0 kr0 kr0 ?_
 refine d_pu 1 rfl (pu_move rfl) kr0 kr0 kr0 ?_
 refine d_pu 2 rfl (pu_nilCheck rfl) kr0 kr0 kr0 ?_
 refine d_pu 3 rfl (pu_fieldAddr0 rfl) kr0 kr0 kr0 ?_
 refine d_rd 4 rfl (rd_load rfl rfl) rfl kr0 kr0 kr0 ?_
 refine d_rd 5 rfl (rd_loadW rfl rfl) rfl kr0 kr0 kr0 ?_
 refine d_eft 6 rfl kr0 (ef_bldS (qs := [(0, _)]) rfl rfl rfl) ?_
 intro b19
 refine ⟨_, Split.ent sp0, ?_⟩
 refine d_fint 7 rfl kr0 kr0 (ef_append_lit (l := ps.length) (m := 1) (news := rC1 c) rfl rfl sp0 (by simp only [maxLen]; omega) om0) ?_
 rintro w' hw'
 obtain ⟨g7, c7, rfl⟩ := hw' (by decide)
 refine d_pu 8 rfl (pu_nilCheck rfl) kr0 kr0 kr0 ?_
 refine d_pu 9 rfl (pu_fieldAddr0 rfl) kr0 kr0 kr0 ?_
 refine d_fin0f 10 rfl kr0 kr0 (ef_store rfl rfl rfl) ?_
 refine d_sub _ .nil ?_
 refine d_nilf kr0 ?_
 rw [hps, hpl]
 exact done_end [blk p 92 (rdC q fv (.slice A1 (chgN l c).length c1) av (.slice (some ⟨g7, 0, none⟩) (ps.length + 1) c7) fa off), own 138 2 (.slice A1 (chgN l c).length c1) (chgN l c).length ((chgN l c).flatMap rN1), own 99 3 (.slice (some ⟨g7, 0, none⟩) (ps.length + 1) c7) (ps.length + 1) (ps.flatMap rC1 ++ rC1 c)] .nil ⟨_, _, rfl⟩ sp0
end SX
