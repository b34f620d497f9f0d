/- A part of the proof: walks of the program's functions, and the rules by which they go. -/
import Derived.Test.YtllgakmdhjgmoaaGreatBb704a07b
import Derived.Test.YtllgakmdhjgmoaaGreatB44548fbd
import Derived.Test.YtllgakmdhjgmoaaGreatBf4676a3f
namespace SX
open Go Go.Proofs
theorem srtS_strict {xs : List ByteArray} (h : xs.Nodup) : (srtS xs).Pairwise fun a b => strLt a b = true := by
  have h2 : (srtS xs).Nodup := (srtS_self xs).nodup_iff.2 h
  refine ((srtS_pw xs).and h2).imp fun {a b} ⟨h1, h3⟩ => ?_
  rcases strLt_total a b with k | k | k
  · exact k
  · exact absurd k h3
  · rw [k] at h1; cases h1
theorem flat_take_succ {T : List ByteArray} {j : Nat} {s : ByteArray} (h : T[j]? = some s) : (T.take j).flatMap scsv ++ [.string s] = (T.take (j + 1)).flatMap scsv := by
  rw [List.take_add_one, h, List.flatMap_append]; rfl
set_option maxHeartbeats 4000000 in
theorem rnames_spec (p : Nat) (d : Dk) (hd : d.Ok) (fv sv av wv : Value) : Spec Tryz.prog 68 [pv p] [blk p 92 (rdC d.quota fv sv av wv d.falls d.off), own 138 2 sv d.seen.length (d.seen.flatMap rN1)] (fun r L => L = [own 9 1 r (namesD d).length ((namesD d).flatMap scsv), blk p 92 (rdC d.quota fv sv av wv d.falls d.off), own 138 2 sv d.seen.length (d.seen.flatMap rN1)]) := by
 have hsl := hd.seenLe
 obtain ⟨T, hT⟩ : ∃ T, T = srtS (d.seen.map (·.1)) := ⟨_, rfl⟩
 have hTl : T.length = d.seen.length := by rw [hT, srtS_len, List.length_map]
 have hne : ∀ x ∈ d.seen.map (·.1), x ≠ ⟨#[]⟩ := fun x hx => by
  obtain ⟨y, hy, rfl⟩ := List.mem_map.1 hx
  intro e
  have := goodN_ne (hd.seenOk.good y hy).1
  rw [e, strEq_refl] at this; cases this
 have hsel : ∀ j, j ≤ T.length → selS (lastS T j) (d.seen.map (·.1)) = (T[j]?).getD ⟨#[]⟩ := fun j hj => selS_at (by rw [hT]; exact srtS_self _) (by rw [hT]; exact srtS_strict hd.seenOk.nodup) hne hj
 refine Spec.pre (pre := [own 138 2 sv d.seen.length (d.seen.flatMap rN1), blk p 92 (rdC d.quota fv sv av wv d.falls d.off)]) ?_ (Split.ent' sp0)
 refine Spec.fact' (fun m h => own_cap2 h) fun ⟨A, c, hv, hlc, hcm, hA, hA2⟩ => ?_
 simp only [maxLen] at hcm
 subst hv
 refine Spec.of 51 Tryz.func68 rfl rfl rfl ?_
 refine swp_sr ?_
 refine s_as rfl ?_
 refine swl_sub _ (sc0 0 rfl .nil) ?_
 refine swl_nn ?_
 refine swp_sr ?_
 refine s_as rfl ?_
 refine swl_sub _ (sc0 0 rfl (sc0 3 rfl .nil)) ?_
 refine swl_nn ?_
 refine swp_seq ?_
 refine swp_sr ?_
 refine s_mv rfl ?_
 refine s_pu (pu_nilCheck rfl) ?_
 refine s_pu (pu_fieldAddr0 rfl) ?_
 refine s_rd (rd_load rfl rfl) ?_
 refine swl_sub _ (sc0 0 rfl (sc0 3 rfl (sc0 11 rfl .nil))) ?_
 refine swl_nn ?_
 refine swp_cond (b := _) rfl (fun h11 => ?_) (fun h11 => ?_)
 ·skip
  refine swp_sr ?_
  refine s_mv rfl ?_
  refine s_as rfl ?_
  refine swl_sub _ (sc0 2 rfl .nil) ?_
  refine swl_nn ?_
  refine swp_ret ?_
  refine then_r ?_
  have key : namesD d = [] := by unfold namesD; rw [if_pos h11]
  rw [key]
  refine done_retE [own 9 1 (.slice none 0 0) 0 [], blk p 92 (rdC d.quota fv (.slice A d.seen.length c) av wv d.falls d.off), own 138 2 (.slice A d.seen.length c) d.seen.length (d.seen.flatMap rN1)] (.tmp rfl .nil) rfl ?_
  exact (Split.ent' (K := [blk p 92 (rdC d.quota fv (.slice A d.seen.length c) av wv d.falls d.off), own 138 2 (.slice A d.seen.length c) d.seen.length (d.seen.flatMap rN1)]) sp0).trans own_nil_ent
 ·skip
  refine swp_skip ?_
  refine then_n ?_
  refine swp_sr ?_
  refine s_as rfl ?_
  refine swl_sub _ (sc0 0 rfl (sc0 3 rfl (sc0 4 rfl .nil))) ?_
  refine swl_nn ?_
  refine swp_block ?_
  have key : namesD d = T := by unfold namesD; rw [if_neg (by rw [h11]; decide), hT]
  refine swp_ent (own_nil_ent (e := 9) (n := 1)) ?_
  refine swp_loop (ι := Nat) (fun j env L => ∃ v, Sub env [(0, pv p), (3, v), (4, .string (lastS T j))] ∧ Ent L [own 9 1 v (T.take j).length ((T.take j).flatMap scsv), blk p 92 (rdC d.quota fv (.slice A d.seen.length c) av wv d.falls d.off), own 138 2 (.slice A d.seen.length c) d.seen.length (d.seen.flatMap rN1)] ∧ j ≤ T.length) (fun j => T.length - j) 0 ⟨.slice none 0 0, ⟨rfl, rfl, rfl, trivial⟩, (show Ent _ [own 9 1 (.slice none 0 0) 0 [], blk p 92 (rdC d.quota fv (.slice A d.seen.length c) av wv d.falls d.off), own 138 2 (.slice A d.seen.length c) d.seen.length (d.seen.flatMap rN1)] from Split.ent' sp0), Nat.zero_le _⟩ ?_
  rintro j env L ⟨v, hsub, hE, hj⟩
  refine swp_sub _ hsub ?_
  refine swp_ent hE ?_
  clear hsub hE env L
  refine swp_block ?_
  refine swp_sr ?_
  refine s_as rfl ?_
  refine swl_sub _ (sc0 0 rfl (sc0 3 rfl (sc0 4 rfl (sc0 5 rfl .nil)))) ?_
  refine swl_nn ?_
  refine swp_seq ?_
  refine swp_sr ?_
  refine s_as rfl ?_
  refine swl_sub _ (sc0 0 rfl (sc0 3 rfl (sc0 4 rfl (sc0 5 rfl (sc0 6 rfl .nil))))) ?_
  refine swl_nn ?_
  refine swp_block ?_
  refine swp_loop (ι := Nat) (fun i env L => Sub env [(0, pv p), (3, v), (4, .string (lastS T j)), (5, .string (selS (lastS T j) ((d.seen.map (·.1)).take i))), (6, .int .i64 (i : Nat))] ∧ Ent L [own 9 1 v (T.take j).length ((T.take j).flatMap scsv), blk p 92 (rdC d.quota fv (.slice A d.seen.length c) av wv d.falls d.off), own 138 2 (.slice A d.seen.length c) d.seen.length (d.seen.flatMap rN1)] ∧ i ≤ d.seen.length) (fun i => d.seen.length - i) 0 ⟨⟨rfl, rfl, rfl, rfl, rfl, trivial⟩, Split.ent' sp0, Nat.zero_le _⟩ ?_
  rintro i env L ⟨hsub, hE, hi⟩
  refine swp_sub _ hsub ?_
  refine swp_ent hE ?_
  clear hsub hE env L
  refine swp_seq ?_
  refine swp_sr ?_
  refine s_mv rfl ?_
  refine s_mv rfl ?_
  refine s_pu (pu_nilCheck rfl) ?_
  refine s_pu (pu_fieldAddr0 rfl) ?_
  refine s_rd (rd_load rfl rfl) ?_
  refine s_pu (pu_len rfl) ?_
  refine s_pu (pu_lss rfl rfl) ?_
  refine swl_sub _ (sc0 0 rfl (sc0 3 rfl (sc0 4 rfl (sc0 5 rfl (sc0 6 rfl (sc0 19 rfl .nil)))))) ?_
  refine swl_nn ?_
  refine swp_cond (b := _) rfl (fun h19 => ?_) (fun h19 => ?_)
  ·skip
   have h19' : i < d.seen.length := by have := of_decide_eq_true h19; omega
   obtain ⟨a, ha⟩ : ∃ a, A = some a := by cases A with | none => have := hA rfl; omega | some a => exact ⟨a, rfl⟩
   obtain ⟨b, rfl⟩ := hA2 a ha
   subst ha
   obtain ⟨y, hy⟩ : ∃ y, d.seen[i]? = some y := ⟨_, List.getElem?_eq_getElem h19'⟩
   have hcell := flat_at (f := rN1) (n := 2) (fun _ => rfl) hy 0 _ rfl
   have hstep := selS_succ (xs := d.seen.map (·.1)) (lastS T j) (show (d.seen.map (·.1))[i]? = some y.1 by rw [List.getElem?_map, hy]; rfl)
   generalize hr : selS (lastS T j) ((d.seen.map (·.1)).take i) = r at hstep ⊢
   refine swp_skip ?_
   refine then_n ?_
   refine swp_seq ?_
   refine swp_block ?_
   refine swp_sr ?_
   refine s_mv rfl ?_
   refine s_pu (pu_nilCheck rfl) ?_
   refine s_pu (pu_fieldAddr0 rfl) ?_
   refine s_rd (rd_load rfl rfl) ?_
   refine s_mv rfl ?_
   refine s_pu (pu_indexAddr (0 + i * 2) rfl rfl om0 om0 (by rw [Int.toNat_natCast])) ?_
   refine s_pu (pu_fieldAddr rfl) ?_
   refine s_rd (rd_own rfl tk0 (by rw [Nat.zero_add]; exact hcell)) ?_
   refine s_as rfl ?_
   refine swl_sub _ (sc0 0 rfl (sc0 3 rfl (sc0 4 rfl (sc0 5 rfl (sc0 6 rfl (sc0 7 rfl .nil)))))) ?_
   refine swl_nn ?_
   refine swp_sr ?_
   refine s_mv rfl ?_
   refine s_mv rfl ?_
   refine s_pu (pu_str_gtr rfl rfl) ?_
   refine s_mv rfl ?_
   refine s_split 33 rfl (fun h33 => ?_) (fun h33 => ?_)
   ·skip
    refine s_on rfl rfl ?_
    refine s_mv rfl ?_
    refine s_on rfl rfl ?_
    refine s_pu (pu_str_eql rfl rfl) ?_
    refine s_on rfl rfl ?_
    refine s_mv rfl ?_
    refine s_split 36 rfl (fun h36 => ?_) (fun h36 => ?_)
    ·skip
     refine s_off rfl rfl rfl ?_
     refine s_off rfl rfl rfl ?_
     refine s_off rfl rfl rfl ?_
     refine s_on rfl rfl ?_
     refine s_pu (pu_pick_t rfl rfl) ?_
     refine s_pu (pu_pick_t rfl rfl) ?_
     refine swl_sub _ (sc0 0 rfl (sc0 3 rfl (sc0 4 rfl (sc0 5 rfl (sc0 6 rfl (sc0 7 rfl (sc0 41 rfl .nil))))))) ?_
     refine swl_nn ?_
     refine swp_cond (b := _) rfl (fun h41 => ?_) (fun h41 => by cases h41)
     refine swp_region ?_
     refine s_mv rfl ?_
     refine s_as rfl ?_
     refine swl_sub _ (sc0 0 rfl (sc0 3 rfl (sc0 4 rfl (sc0 5 rfl (sc0 6 rfl .nil))))) ?_
     refine swl_nil ?_
     refine block_n ?_
     refine then_n ?_
     refine swp_region ?_
     refine s_mv rfl ?_
     refine s_pu (pu_add_as ((i + 1 : Nat) : Int) rfl rfl om0 om0 om0) ?_
     refine s_as rfl ?_
     refine swl_sub _ (sc0 0 rfl (sc0 3 rfl (sc0 4 rfl (sc0 5 rfl (sc0 6 rfl .nil))))) ?_
     refine swl_nil ?_
     have e : updS (lastS T j) r y.1 = y.1 := by unfold updS; rw [gt_lt] at h33; rw [if_pos ⟨h33, .inl (strEq_iff.1 h36)⟩]
     rw [e] at hstep
     exact then_n ⟨i + 1, ⟨⟨rfl, rfl, rfl, by rw [hstep]; rfl, rfl, trivial⟩, Split.ent' sp0, h19'⟩, by omega⟩
    ·skip
     refine s_on rfl rfl ?_
     refine s_mv rfl ?_
     refine s_on rfl rfl ?_
     refine s_mv rfl ?_
     refine s_on rfl rfl ?_
     refine s_pu (pu_str_lss rfl rfl) ?_
     refine s_on rfl rfl ?_
     refine s_pu (pu_pick_f rfl rfl) ?_
     refine s_pu (pu_pick_t rfl rfl) ?_
     refine swl_sub _ (sc0 0 rfl (sc0 3 rfl (sc0 4 rfl (sc0 5 rfl (sc0 6 rfl (sc0 7 rfl (sc0 41 rfl .nil))))))) ?_
     refine swl_nn ?_
     refine swp_cond (b := _) rfl (fun h41 => ?_) (fun h41 => ?_)
     ·skip
      refine swp_region ?_
      refine s_mv rfl ?_
      refine s_as rfl ?_
      refine swl_sub _ (sc0 0 rfl (sc0 3 rfl (sc0 4 rfl (sc0 5 rfl (sc0 6 rfl .nil))))) ?_
      refine swl_nil ?_
      refine block_n ?_
      refine then_n ?_
      refine swp_region ?_
      refine s_mv rfl ?_
      refine s_pu (pu_add_as ((i + 1 : Nat) : Int) rfl rfl om0 om0 om0) ?_
      refine s_as rfl ?_
      refine swl_sub _ (sc0 0 rfl (sc0 3 rfl (sc0 4 rfl (sc0 5 rfl (sc0 6 rfl .nil))))) ?_
      refine swl_nil ?_
      have e : updS (lastS T j) r y.1 = y.1 := by unfold updS; rw [gt_lt] at h33; rw [if_pos ⟨h33, .inr h41⟩]
      rw [e] at hstep
      exact then_n ⟨i + 1, ⟨⟨rfl, rfl, rfl, by rw [hstep]; rfl, rfl, trivial⟩, Split.ent' sp0, h19'⟩, by omega⟩
     ·skip
      refine swp_skip ?_
      refine block_n ?_
      refine then_n ?_
      refine swp_region ?_
      refine s_mv rfl ?_
      refine s_pu (pu_add_as ((i + 1 : Nat) : Int) rfl rfl om0 om0 om0) ?_
      refine s_as rfl ?_
      refine swl_sub _ (sc0 0 rfl (sc0 3 rfl (sc0 4 rfl (sc0 5 rfl (sc0 6 rfl .nil))))) ?_
      refine swl_nil ?_
      have e : updS (lastS T j) r y.1 = r := by unfold updS; rw [if_neg (fun q => q.2.elim (fun q => by rw [strEq_iff.2 q] at h36; cases h36) (fun q => by rw [q] at h41; cases h41))]
      rw [e] at hstep
      exact then_n ⟨i + 1, ⟨⟨rfl, rfl, rfl, by rw [hstep]; rfl, rfl, trivial⟩, Split.ent' sp0, h19'⟩, by omega⟩
   ·skip
    refine s_off rfl rfl rfl ?_
    refine s_off rfl rfl rfl ?_
    refine s_off rfl rfl rfl ?_
    refine s_off rfl rfl rfl ?_
    refine s_off rfl rfl rfl ?_
    refine s_off rfl rfl rfl ?_
    refine s_off rfl rfl rfl ?_
    refine s_pu (pu_pick_f rfl rfl) ?_
    refine swl_sub _ (sc0 0 rfl (sc0 3 rfl (sc0 4 rfl (sc0 5 rfl (sc0 6 rfl (sc0 7 rfl (sc0 41 rfl .nil))))))) ?_
    refine swl_nn ?_
    refine swp_cond (b := _) rfl (fun h41 => by cases h41) (fun h41 => ?_)
    refine swp_skip ?_
    refine block_n ?_
    refine then_n ?_
    refine swp_region ?_
    refine s_mv rfl ?_
    refine s_pu (pu_add_as ((i + 1 : Nat) : Int) rfl rfl om0 om0 om0) ?_
    refine s_as rfl ?_
    refine swl_sub _ (sc0 0 rfl (sc0 3 rfl (sc0 4 rfl (sc0 5 rfl (sc0 6 rfl .nil))))) ?_
    refine swl_nil ?_
    have e : updS (lastS T j) r y.1 = r := by unfold updS; rw [gt_lt] at h33; rw [if_neg (fun q => by rw [q.1] at h33; cases h33)]
    rw [e] at hstep
    exact then_n ⟨i + 1, ⟨⟨rfl, rfl, rfl, by rw [hstep]; rfl, rfl, trivial⟩, Split.ent' sp0, h19'⟩, by omega⟩
  ·skip
   have h19' : i = d.seen.length := by have := of_decide_eq_false h19; omega
   have hfin : selS (lastS T j) ((d.seen.map (·.1)).take i) = (T[j]?).getD ⟨#[]⟩ := by rw [h19', List.take_of_length_le (by rw [List.length_map]; omega)]; exact hsel j hj
   rw [hfin]
   refine swp_exit ?_
   refine then_x ?_
   refine then_x ?_
   refine block_hit rfl ?_
   refine then_n ?_
   refine swp_seq ?_
   refine swp_sr ?_
   refine s_mv rfl ?_
   refine s_pu (pu_str_eql rfl rfl) ?_
   refine swl_sub _ (sc0 0 rfl (sc0 3 rfl (sc0 5 rfl (sc0 44 rfl .nil)))) ?_
   refine swl_nn ?_
   refine swp_cond (b := _) rfl (fun h44 => ?_) (fun h44 => ?_)
   ·skip
    have hjT : j = T.length := by
     have h44' := strEq_iff.1 h44
     by_cases hc : j < T.length
     ·rw [List.getElem?_eq_getElem hc, Option.getD_some] at h44'
      have hperm : T.Perm (d.seen.map (·.1)) := by rw [hT]; exact srtS_self _
      have hm : T[j] ∈ d.seen.map (·.1) := hperm.mem_iff.1 (List.getElem_mem hc)
      exact absurd h44' (hne _ hm)
     ·omega
    refine swp_sr ?_
    refine s_mv rfl ?_
    refine s_as rfl ?_
    refine swl_sub _ (sc0 2 rfl .nil) ?_
    refine swl_nn ?_
    refine swp_ret ?_
    refine then_r ?_
    refine block_r ?_
    refine then_r ?_
    refine block_r ?_
    rw [key]
    rw [hjT, List.take_length]
    refine done_ret [own 9 1 v T.length (T.flatMap scsv), blk p 92 (rdC d.quota fv (.slice A d.seen.length c) av wv d.falls d.off), own 138 2 (.slice A d.seen.length c) d.seen.length (d.seen.flatMap rN1)] (.tmp rfl .nil) rfl sp0
   ·skip
    have hjT : j < T.length := by
     by_cases hc : j < T.length
     ·exact hc
     ·rw [List.getElem?_eq_none om0, Option.getD_none, strEq_refl] at h44; cases h44
    have hTj : T[j]? = some ((T[j]?).getD ⟨#[]⟩) := by rw [List.getElem?_eq_getElem hjT]; rfl
    have hlast : lastS T (j + 1) = (T[j]?).getD ⟨#[]⟩ := by unfold lastS; rw [if_neg om0]; rfl
    have htl : (T.take j).length = j := by rw [List.length_take]; omega
    refine swp_skip ?_
    refine then_n ?_
    refine swp_sr ?_
    refine s_mv rfl ?_
    refine s_mv rfl ?_
    refine s_ef (ef_bldS (qs := [(0, _)]) rfl rfl rfl) ?_
    intro b48
    refine s_ef (ef_append_lit (l := (T.take j).length) (m := 1) rfl rfl sp0 (by simp only [maxLen]; omega) om0) ?_
    rintro v' hv'
    skip
    refine s_as rfl ?_
    refine swl_sub _ (sc0 0 rfl (sc0 3 rfl (sc0 5 rfl .nil))) ?_
    refine swl_nn ?_
    refine swp_region ?_
    refine s_mv rfl ?_
    refine s_as rfl ?_
    refine swl_sub _ (sc0 0 rfl (sc0 3 rfl (sc0 4 rfl .nil))) ?_
    refine swl_nil ?_
    refine block_n ?_
    refine then_n ⟨j + 1, ⟨v', ⟨rfl, rfl, by rw [hlast]; rfl, trivial⟩, ?_, hjT⟩, by omega⟩
    rw [← flat_take_succ hTj, show (T.take (j + 1)).length = (T.take j).length + 1 by rw [List.length_take, List.length_take]; omega]
    exact Split.ent' sp0
end SX
namespace SX
open Go Go.Proofs
set_option maxHeartbeats 4000000 in
theorem rsame_spec (v u : Value) (xs : List ByteArray) (_ : xs.length ≤ 1048576) : Spec Tryz.prog 66 [v, u] [own 9 1 v xs.length (xs.flatMap scsv), own 9 1 u xs.length (xs.flatMap scsv)] (fun r L => r = .bool true ∧ L = [own 9 1 v xs.length (xs.flatMap scsv), own 9 1 u xs.length (xs.flatMap scsv)]) := by
 refine Spec.fact' (fun m h => own_cap2 h) fun ⟨A, c, hv, hlc, hcm, hA, hA2⟩ => ?_
 refine Spec.pre (pre := [own 9 1 u xs.length (xs.flatMap scsv), own 9 1 v xs.length (xs.flatMap scsv)]) ?_ Ent.swap
 refine Spec.fact' (fun m h => own_cap2 h) fun ⟨A', c', hv', hlc', hcm', hA', hA2'⟩ => ?_
 simp only [maxLen] at hcm hcm'
 subst hv hv'
 refine Spec.of 26 Tryz.func66 rfl rfl rfl ?_
 refine swp_sr ?_
 refine s_as rfl ?_
 refine swl_sub _ (sc0 0 rfl (sc0 1 rfl .nil)) ?_
 refine swl_nn ?_
 refine swp_seq ?_
 refine swp_sr ?_
 refine s_mv rfl ?_
 refine s_pu (pu_len rfl) ?_
 refine s_mv rfl ?_
 refine s_pu (pu_len rfl) ?_
 refine s_pu (pu_neq rfl rfl) ?_
 refine swl_sub _ (sc0 0 rfl (sc0 1 rfl (sc0 10 rfl .nil))) ?_
 refine swl_nn ?_
 refine swp_cond (b := _) rfl (fun h10 => by simp at h10) (fun h10 => ?_)
 refine swp_skip ?_
 refine then_n ?_
 refine swp_seq ?_
 refine swp_sr ?_
 refine s_as rfl ?_
 refine swl_sub _ (sc0 0 rfl (sc0 1 rfl (sc0 5 rfl .nil))) ?_
 refine swl_nn ?_
 refine swp_block ?_
 refine swp_loop (ι := Nat) (fun i env L => Sub env [(0, .slice A xs.length c), (1, .slice A' xs.length c'), (5, .int .i64 (i : Nat))] ∧ Ent L [own 9 1 (.slice A' xs.length c') xs.length (xs.flatMap scsv), own 9 1 (.slice A xs.length c) xs.length (xs.flatMap scsv)] ∧ i ≤ xs.length) (fun i => xs.length - i) 0 ⟨⟨rfl, rfl, rfl, trivial⟩, Split.ent' sp0, Nat.zero_le _⟩ ?_
 rintro i env L ⟨hsub, hE, hi⟩
 refine swp_sub _ hsub ?_
 refine swp_ent hE ?_
 clear hsub hE env L
 refine swp_seq ?_
 refine swp_sr ?_
 refine s_mv rfl ?_
 refine s_mv rfl ?_
 refine s_pu (pu_len rfl) ?_
 refine s_pu (pu_lss rfl rfl) ?_
 refine swl_sub _ (sc0 0 rfl (sc0 1 rfl (sc0 5 rfl (sc0 14 rfl .nil)))) ?_
 refine swl_nn ?_
 refine swp_cond (b := _) rfl (fun h14 => ?_) (fun h14 => ?_)
 ·skip
  have h14' : i < xs.length := by have := of_decide_eq_true h14; omega
  obtain ⟨a, ha⟩ : ∃ a, A = some a := by cases A with | none => have := hA rfl; omega | some a => exact ⟨a, rfl⟩
  obtain ⟨b, rfl⟩ := hA2 a ha
  subst ha
  obtain ⟨a', ha'⟩ : ∃ a, A' = some a := by cases A' with | none => have := hA' rfl; omega | some a => exact ⟨a, rfl⟩
  obtain ⟨b', rfl⟩ := hA2' a' ha'
  subst ha'
  obtain ⟨y, hy⟩ : ∃ y, xs[i]? = some y := ⟨_, List.getElem?_eq_getElem h14'⟩
  have hcell := flat_at (f := scsv) (n := 1) (fun _ => rfl) hy 0 _ rfl
  refine swp_skip ?_
  refine then_n ?_
  refine swp_seq ?_
  refine swp_block ?_
  refine swp_seq ?_
  refine swp_draw [3, 7] _ [] (by simp only [List.append_nil]; exact Ent.refl _) kr0 ?_
  refine d_pu 0 rfl (pu_move rfl) kr0 kr0 kr0 ?_
  refine d_pu 1 rfl (pu_move rfl) kr0 kr0 kr0 ?_
  refine d_pu 2 rfl (pu_indexAddr (0 + i * 1) rfl rfl om0 om0 (by rw [Int.toNat_natCast])) kr0 kr0 kr0 ?_
  refine d_rd 3 rfl (rd_own rfl tk0 (by rw [Nat.zero_add]; exact hcell)) rfl kr0 kr0 kr0 ?_
  refine d_pu 4 rfl (pu_move rfl) kr0 kr0 kr0 ?_
  refine d_pu 5 rfl (pu_move rfl) kr0 kr0 kr0 ?_
  refine d_pu 6 rfl (pu_indexAddr (0 + i * 1) rfl rfl om0 om0 (by rw [Int.toNat_natCast])) kr0 kr0 kr0 ?_
  refine d_rd 7 rfl (rd_own rfl tk0 (by rw [Nat.zero_add]; exact hcell)) rfl kr0 kr0 kr0 ?_
  refine d_pu 8 rfl (pu_str_neq rfl rfl) kr0 kr0 kr0 ?_
  refine d_sub _ (sc0 0 rfl (sc0 1 rfl (sc0 5 rfl (sc0 25 rfl .nil)))) ?_
  refine d_nilt kr0 ?_
  refine then_n ?_
  refine swp_cond (b := _) rfl (fun h25 => by rw [strEq_refl] at h25; cases h25) (fun h25 => ?_)
  refine swp_skip ?_
  refine block_n ?_
  refine then_n ?_
  refine swp_region ?_
  refine s_mv rfl ?_
  refine s_pu (pu_add_as ((i + 1 : Nat) : Int) rfl rfl om0 om0 om0) ?_
  refine s_as rfl ?_
  refine swl_sub _ (sc0 0 rfl (sc0 1 rfl (sc0 5 rfl .nil))) ?_
  refine swl_nil ?_
  exact then_n ⟨i + 1, ⟨⟨rfl, rfl, rfl, trivial⟩, Split.ent' sp0, h14'⟩, by omega⟩
 ·skip
  refine swp_exit ?_
  refine then_x ?_
  refine then_x ?_
  refine block_hit rfl ?_
  refine then_n ?_
  refine swp_sr ?_
  refine s_as rfl ?_
  refine swl_sub _ (sc0 4 rfl .nil) ?_
  refine swl_nn ?_
  refine swp_ret ?_
  exact done_ret [own 9 1 (.slice A xs.length c) xs.length (xs.flatMap scsv), own 9 1 (.slice A' xs.length c') xs.length (xs.flatMap scsv)] (.tmp rfl .nil) ⟨rfl, rfl⟩ sp0
theorem namesD_le {d : Dk} (hd : d.Ok) : (namesD d).length ≤ 64 := by
  unfold namesD
  split
  · exact Nat.zero_le _
  · rw [srtS_len, List.length_map]; exact hd.seenLe
end SX
namespace SX
open Go Go.Proofs
/-- both stores -/
abbrev Two : Type := Nat × SW × Nat × SW
def twoL : Two → List Assn := fun x => [stH x.1 x.2.1, ttA x.2.1, ccA x.2.1, rsH x.2.2.1 x.2.2.2, ttA x.2.2.2, ccA x.2.2.2]
def stO : Option Two → Assn
  | none => star []
  | some x => star (twoL x)
def svP (o : Option Two) : Option Addr := o.map fun x => ⟨x.1, 0, none⟩
def wvP (o : Option Two) : Option Addr := o.map fun x => ⟨x.2.2.1, 0, none⟩
abbrev svO (o : Option Two) : Value := .pointer (svP o)
abbrev wvO (o : Option Two) : Value := .pointer (wvP o)
theorem sw_none (o : Option Two) : (svP o).isNone = (wvP o).isNone := by cases o <;> rfl
/-- both stores have this -/
def TwoOk (μ : PH) (pd pr : Nat) (s : St2) (dead : Bool) (x : Two) : Prop := x.2.1.Ok μ ∧ x.2.2.2.Ok μ ∧ x.2.1.q = pd ∧ x.2.2.2.q = pr ∧ x.2.1.pl = s ∧ x.2.2.2.pl = s ∧ x.2.1.dead = dead ∧ x.2.2.2.dead = dead
abbrev prA (pp pd pr : Nat) (sv wv : Value) : Assn := blk pp 75 [pv pd, sv, wv, pv pr]
/-- what opening leaves of a pair -/
def POpen (μ : PH) (pd pr : Nat) (d : Dk) (o : Option Two) (μ' : PH) : Prop := Le μ μ' ∧ (((openD d).2 ≠ 0 ∧ o = none) ∨ ((openD d).2 = 0 ∧ ∃ x, o = some x ∧ TwoOk μ' pd pr (openS d) false x))
set_option maxHeartbeats 4000000 in
theorem popen_spec (μ : PH) (pp pd pr : Nat) (sv wv : Value) (d : Dk) (hd : d.Ok) (m : Nat) (hw : Within m d) (hm : m ≤ 990000) : Spec Tryz.prog 33 [pv pp] [prA pp pd pr sv wv, FSA pd d, RDA pr d, ro μ]
  (fun r L => r = .bool true ∧ ∃ o μ', POpen μ pd pr d o μ' ∧ L = [prA pp pd pr (svO o) (wvO o), FSA pd (openD d).1, RDA pr (openD d).1, stO o, ro μ']) := by
 refine Spec.of 41 Tryz.func33 rfl rfl rfl ?_
 refine swp_sr ?_
 refine s_as rfl ?_
 refine swl_sub _ (sc0 0 rfl .nil) ?_
 refine swl_nn ?_
 refine swp_sr ?_
 refine s_mv rfl ?_
 refine s_pu (pu_nilCheck rfl) ?_
 refine s_pu (pu_fieldAddr0 rfl) ?_
 refine s_rd (rd_load rfl rfl) ?_
 refine s_ef (ef_fn (open_spec μ pd d hd (few_of hw om0)) rfl rfl sp0) ?_
 rintro v12 L1 ⟨p, W, μ1, e, hq, rfl, rfl⟩
 refine swl_app ?_
 refine s_mv rfl ?_
 refine s_pu (pu_extractL rfl) ?_
 refine s_pu (pu_extractL rfl) ?_
 refine s_as rfl ?_
 refine s_as rfl ?_
 refine swl_sub _ (sc0 0 rfl (sc0 3 rfl (sc0 4 rfl .nil))) ?_
 refine swl_nn ?_
 refine swp_sr ?_
 refine s_mv rfl ?_
 refine s_pu (pu_nilCheck rfl) ?_
 refine s_pu (pu_fieldAddr0 rfl) ?_
 refine s_rd (rd_load rfl rfl) ?_
 refine s_ef (ef_fn (ropen_spec μ1 pr d hd m hw hm) rfl rfl sp0) ?_
 rintro v20 L1 ⟨w, V, μ2, e2, hq2, rfl, rfl⟩
 refine swl_app ?_
 refine s_mv rfl ?_
 refine s_pu (pu_extractL rfl) ?_
 refine s_pu (pu_extractL rfl) ?_
 refine s_as rfl ?_
 refine s_as rfl ?_
 refine swl_sub _ (sc0 0 rfl (sc0 3 rfl (sc0 4 rfl (sc0 5 rfl (sc0 6 rfl .nil))))) ?_
 refine swl_nn ?_
 refine swp_seq ?_
 obtain ⟨l1, hW, hWq, hWd, he, hWp⟩ := hq
 obtain ⟨l2, hV, hVq, hVd, he2, hVp⟩ := hq2
 subst he he2
 obtain ⟨o, ho, hsv, hwv, hE⟩ : ∃ o, POpen μ pd pr d o μ2 ∧ (if (openD d).2 = 0 then pv p else .pointer none) = svO o ∧ (if (openD d).2 = 0 then pv w else .pointer none) = wvO o ∧ ∀ {L : List Assn}, Ent (stH p W :: ttA W :: ccA W :: rsH w V :: ttA V :: ccA V :: L) (stO o :: L) := by
  by_cases h : (openD d).2 = 0
  ·refine ⟨some (p, W, w, V), ⟨l1.trans l2, .inr ⟨h, _, rfl, hW.le l2, hV, hWq, hVq, hWp h, hVp h, hWd, hVd⟩⟩, by rw [if_pos h]; rfl, by rw [if_pos h]; rfl, ?_⟩
   intro L
   exact star_close (K := [stH p W, ttA W, ccA W, rsH w V, ttA V, ccA V]) (L := L)
  ·refine ⟨none, ⟨l1.trans l2, .inl ⟨h, rfl⟩⟩, by rw [if_neg h]; rfl, by rw [if_neg h]; rfl, ?_⟩
   intro L
   exact (Ent.drop.trans (Ent.drop.trans (Ent.drop.trans (Ent.drop.trans (Ent.drop.trans Ent.drop))))).trans (star_close (K := []) (L := L))
 rw [hsv, hwv]
 refine swp_ent (Split.ent' (K := [stH p W, ttA W, ccA W, rsH w V, ttA V, ccA V, prA pp pd pr sv wv, FSA pd (openD d).1, RDA pr (openD d).1, ro μ2]) sp0) ?_
 refine swp_ent hE ?_
 refine swp_region ?_
 refine s_mv rfl ?_
 refine s_mv rfl ?_
 refine s_mv rfl ?_
 refine s_mv rfl ?_
 refine s_pu (pu_nilCheck rfl) ?_
 refine s_pu (pu_fieldAddr0 rfl) ?_
 refine s_ef0 (ef_store rfl rfl rfl) ?_
 refine s_pu (pu_nilCheck rfl) ?_
 refine s_pu (pu_fieldAddr0 rfl) ?_
 refine s_ef0 (ef_store rfl rfl rfl) ?_
 refine swl_sub _ (sc0 3 rfl (sc0 4 rfl (sc0 5 rfl (sc0 6 rfl .nil)))) ?_
 refine swl_nn ?_
 refine swp_sr ?_
 refine s_mv rfl ?_
 refine s_mv rfl ?_
 refine s_pu (pu_eql rfl rfl) ?_
 refine s_mv rfl ?_
 refine s_split 34 rfl (fun h34 => ?_) (fun h34 => by simp at h34)
 refine s_on rfl rfl ?_
 refine s_mv rfl ?_
 refine s_on rfl rfl ?_
 refine s_pu (pu_ptr_eq_nil rfl rfl) ?_
 refine s_on rfl rfl ?_
 refine s_mv rfl ?_
 refine s_on rfl rfl ?_
 refine s_pu (pu_ptr_eq_nil rfl rfl) ?_
 refine s_on rfl rfl ?_
 refine s_pu (pu_bool_eq rfl rfl) ?_
 refine s_pu (pu_pick_t rfl rfl) ?_
 refine s_as rfl ?_
 refine swl_sub _ (sc0 2 rfl .nil) ?_
 refine swl_nn ?_
 refine swp_ret ?_
 refine done_ret [prA pp pd pr (svO o) (wvO o), FSA pd (openD d).1, RDA pr (openD d).1, stO o, ro μ2] (.tmp rfl .nil) ⟨?_, o, μ2, ho, rfl⟩ sp0
 rw [sw_none]
 cases (wvP o).isNone <;> rfl
end SX
namespace SX
open Go Go.Proofs
def SmallS (s : St2) : Prop := (∀ t ∈ s.1, t.length ≤ 1048576) ∧ ∀ c ∈ s.2, c.1.length ≤ 1048576
theorem SmallS.w {W : SW} (h : SmallS W.pl) : W.Small := ⟨fun x hx => h.1 x.2 (List.mem_map.2 ⟨x, hx, rfl⟩), fun x hx => h.2 x.2 (List.mem_map.2 ⟨x, hx, rfl⟩)⟩
def OptOk (μ : PH) (pd pr : Nat) (o : Option (St2 × Bool)) (t : Option Two) : Prop := match o, t with
  | none, none => True
  | some y, some x => TwoOk μ pd pr y.1 y.2 x ∧ SmallS y.1
  | _, _ => False
theorem TwoOk.le {μ μ' : PH} {pd pr : Nat} {s : St2} {dead : Bool} {x : Two} (h : TwoOk μ pd pr s dead x) (k : Le μ μ') : TwoOk μ' pd pr s dead x := ⟨h.1.le k, h.2.1.le k, h.2.2⟩
theorem OptOk.le {μ μ' : PH} {pd pr : Nat} {o : Option (St2 × Bool)} {t : Option Two} (h : OptOk μ pd pr o t) (k : Le μ μ') : OptOk μ' pd pr o t := by
  cases o with
  | none => cases t with
    | none => trivial
    | some x => exact h
  | some y => cases t with
    | none => exact h
    | some x => exact ⟨h.1.le k, h.2⟩
set_option maxHeartbeats 8000000 in
theorem ptold_spec (μ : PH) (pp pd pr : Nat) (o : Option Two) (d : Dk) (hd : d.Ok) (m : Nat) (hw : Within m d) (hm : m ≤ 990000) (y : Option (St2 × Bool)) (ho : OptOk μ pd pr y o) :
  Spec Tryz.prog 30 [pv pp] [prA pp pd pr (svO o) (wvO o), FSA pd d, RDA pr d, stO o, ro μ] (fun r L => r = .bool true ∧ ∃ μ', Le μ μ' ∧ L = [prA pp pd pr (svO o) (wvO o), FSA pd d, RDA pr d, stO o, ro μ']) := by
 have hnl := namesD_le hd
 refine Spec.of 79 Tryz.func30 rfl rfl rfl ?_
 refine swp_sr ?_
 refine s_as rfl ?_
 refine swl_sub _ (sc0 0 rfl .nil) ?_
 refine swl_nn ?_
 refine swp_sr ?_
 refine s_mv rfl ?_
 refine s_pu (pu_nilCheck rfl) ?_
 refine s_pu (pu_fieldAddr0 rfl) ?_
 refine s_rd (rd_load rfl rfl) ?_
 refine s_ef (ef_fn (read_spec pd d hd logN) rfl rfl sp0) ?_
 rintro v12 L1 ⟨rfl, rfl⟩
 refine swl_app ?_
 refine s_mv rfl ?_
 refine s_pu (pu_extractL rfl) ?_
 refine s_pu (pu_extractL rfl) ?_
 refine s_as rfl ?_
 refine s_as rfl ?_
 refine swl_sub _ (sc0 0 rfl (sc0 3 rfl (sc0 4 rfl .nil))) ?_
 refine swl_nn ?_
 refine swp_sr ?_
 refine s_mv rfl ?_
 refine s_pu (pu_nilCheck rfl) ?_
 refine s_pu (pu_fieldAddr0 rfl) ?_
 refine s_rd (rd_load rfl rfl) ?_
 refine s_ef (ef_fn (rread_spec pr d hd (few_of hw om0) logN) rfl rfl sp0) ?_
 rintro v20 L1 ⟨rfl, rfl⟩
 refine swl_app ?_
 refine s_mv rfl ?_
 refine s_pu (pu_extractL rfl) ?_
 refine s_pu (pu_extractL rfl) ?_
 refine s_as rfl ?_
 refine s_as rfl ?_
 refine swl_sub _ (sc0 0 rfl (sc0 3 rfl (sc0 4 rfl (sc0 5 rfl (sc0 6 rfl .nil))))) ?_
 refine swl_nn ?_
 refine swp_seq ?_
 refine swp_seq ?_
 refine swp_front (A := RDA pr d) tk0 ?_
 refine swp_ex fun ⟨fv, sv, av, wv⟩ => ?_
 refine swp_app ?_
 dsimp only
 refine swp_ent (Split.ent' (K := [blk pr 92 (rdC d.quota fv sv av wv d.falls d.off), own 96 2 fv d.files.length (d.files.flatMap rF1), own 138 2 sv d.seen.length (d.seen.flatMap rN1), own 138 2 av d.safe.length (d.safe.flatMap rN1), own 99 3 wv d.pend.length (d.pend.flatMap rC1), prA pp pd pr (svO o) (wvO o), FSA pd d, stO o, ro μ]) sp0) ?_
 refine swp_draw [12, 17, 20, 27, 32] ([prA pp pd pr (svO o) (wvO o), blk pr 92 (rdC d.quota fv sv av wv d.falls d.off)]) ([own 96 2 fv d.files.length (d.files.flatMap rF1), own 138 2 sv d.seen.length (d.seen.flatMap rN1), own 138 2 av d.safe.length (d.safe.flatMap rN1), own 99 3 wv d.pend.length (d.pend.flatMap rC1), FSA pd d, stO o, ro μ]) (Split.ent sp0) kr0 ?_
 refine d_pu 0 rfl (pu_move rfl) kr0 kr0 kr0 ?_
 refine d_pu 1 rfl (pu_move rfl) kr0 kr0 kr0 ?_
 refine d_pu 2 rfl (pu_str_neq rfl rfl) kr0 kr0 kr0 ?_
 refine d_pu 3 rfl (pu_move rfl) kr0 kr0 kr0 ?_
 refine d_split 26 rfl (fun h26 => by simp [strEq_refl] at h26) (fun h26 => ?_)
 refine d_pu_on 4 rfl rfl rfl (pu_move rfl) kr0 kr0 kr0 ?_
 refine d_pu_on 5 rfl rfl rfl (pu_move rfl) kr0 kr0 kr0 ?_
 refine d_pu_on 6 rfl rfl rfl (pu_neq rfl rfl) kr0 kr0 kr0 ?_
 refine d_pu 7 rfl (pu_pick_f rfl rfl) kr0 kr0 kr0 ?_
 refine d_pu 8 rfl (pu_move rfl) kr0 kr0 kr0 ?_
 refine d_split 31 rfl (fun h31 => by simp at h31) (fun h31 => ?_)
 refine d_pu_on 9 rfl rfl rfl (pu_move rfl) kr0 kr0 kr0 ?_
 refine d_pu_on 10 rfl rfl rfl (pu_nilCheck rfl) kr0 kr0 kr0 ?_
 refine d_pu_on 11 rfl rfl rfl (pu_fieldAddr0 rfl) kr0 kr0 kr0 ?_
 refine d_rd_on 12 rfl rfl rfl (rd_load rfl rfl) rfl kr0 kr0 kr0 ?_
 refine d_pu_on 14 rfl rfl rfl (pu_move rfl) kr0 kr0 kr0 ?_
 refine d_pu_on 15 rfl rfl rfl (pu_nilCheck rfl) kr0 kr0 kr0 ?_
 refine d_pu_on 16 rfl rfl rfl (pu_fieldAddr0 rfl) kr0 kr0 kr0 ?_
 refine d_rd_on 17 rfl rfl rfl (rd_load rfl rfl) rfl kr0 kr0 kr0 ?_
 refine d_pu_on 18 rfl rfl rfl (pu_nilCheck rfl) kr0 kr0 kr0 ?_
 refine d_pu_on 19 rfl rfl rfl (pu_fieldAddr0 rfl) kr0 kr0 kr0 ?_
 refine d_rd_on 20 rfl rfl rfl (rd_load rfl rfl) rfl kr0 kr0 kr0 ?_
 refine d_amb [13] kr0 rfl ?_
 refine dA_ef 13 rfl (GOn.some rfl rfl) (ef_fn (off_spec pd d) rfl rfl sp0) ?_
 rintro v36 L1 ⟨rfl, rfl⟩
 refine ⟨_, ent_appC (Split.ent sp0), ?_⟩
 refine d_pu_on 21 rfl rfl rfl (pu_bool_ne rfl rfl) kr0 kr0 kr0 ?_
 refine d_pu 22 rfl (pu_pick_f rfl rfl) kr0 kr0 kr0 ?_
 refine d_pu 23 rfl (pu_move rfl) kr0 kr0 kr0 ?_
 refine d_split 46 rfl (fun h46 => by simp at h46) (fun h46 => ?_)
 refine d_pu_on 24 rfl rfl rfl (pu_move rfl) kr0 kr0 kr0 ?_
 refine d_pu_on 25 rfl rfl rfl (pu_nilCheck rfl) kr0 kr0 kr0 ?_
 refine d_pu_on 26 rfl rfl rfl (pu_fieldAddr0 rfl) kr0 kr0 kr0 ?_
 refine d_rd_on 27 rfl rfl rfl (rd_load rfl rfl) rfl kr0 kr0 kr0 ?_
 refine d_pu_on 29 rfl rfl rfl (pu_move rfl) kr0 kr0 kr0 ?_
 refine d_pu_on 30 rfl rfl rfl (pu_nilCheck rfl) kr0 kr0 kr0 ?_
 refine d_pu_on 31 rfl rfl rfl (pu_fieldAddr0 rfl) kr0 kr0 kr0 ?_
 refine d_rd_on 32 rfl rfl rfl (rd_load rfl rfl) rfl kr0 kr0 kr0 ?_
 refine d_amb [28] kr0 rfl ?_
 refine dA_ef 28 rfl (GOn.some rfl rfl) (ef_fn (names_spec pd d hd) rfl rfl sp0) ?_
 rintro v51 L1 rfl
 refine ⟨_, ent_appC (Split.ent sp0), ?_⟩
 refine d_amb [33] kr0 rfl ?_
 refine dA_fint 33 rfl (GOn.some rfl rfl) kr0 (ef_fn (rnames_spec pr d hd fv sv av wv) rfl rfl sp0) ?_
 rintro v56 L1 rfl
 refine swd_app ?_
 refine d_amb [34] kr0 rfl ?_
 refine dA_finf 34 rfl (GOn.some rfl rfl) kr0 (ef_fn (rsame_spec v51 v56 (namesD d) om0) rfl rfl sp0) ?_
 rintro v57 L1 ⟨rfl, rfl⟩
 refine swd_app ?_
 refine d_pu_on 35 rfl rfl rfl (pu_not rfl) kr0 kr0 kr0 ?_
 refine d_pu 36 rfl (pu_pick_f rfl rfl) kr0 kr0 kr0 ?_
 refine d_sub _ (sc0 0 rfl (sc0 59 rfl .nil)) ?_
 refine d_nilf kr0 ?_
 refine then_n ?_
 refine swp_cond (b := _) rfl (fun h59 => by cases h59) (fun h59 => ?_)
 refine swp_skip ?_
 refine then_n ?_
 refine swp_seq ?_
 refine swp_seq ?_
 refine swp_ent (Split.ent' (K := [blk pr 92 (rdC d.quota fv sv av wv d.falls d.off), own 96 2 fv d.files.length (d.files.flatMap rF1), own 138 2 sv d.seen.length (d.seen.flatMap rN1), own 138 2 av d.safe.length (d.safe.flatMap rN1), own 99 3 wv d.pend.length (d.pend.flatMap rC1), prA pp pd pr (svO o) (wvO o), FSA pd d, stO o, ro μ]) sp0) ?_
 refine swp_ent (rd_close (x := ⟨fv, sv, av, wv⟩)) ?_
 refine swp_region ?_
 refine s_mv rfl ?_
 refine s_pu (pu_nilCheck rfl) ?_
 refine s_pu (pu_fieldAddr0 rfl) ?_
 refine s_rd (rd_load rfl rfl) ?_
 refine s_pu (pu_ptr_eq_nil rfl rfl) ?_
 refine swl_sub _ (sc0 0 rfl (sc0 64 rfl .nil)) ?_
 refine swl_nn ?_
 refine swp_cond (b := _) rfl (fun h64 => ?_) (fun h64 => ?_)
 ·skip
  refine swp_sr ?_
  refine s_mv rfl ?_
  refine s_pu (pu_nilCheck rfl) ?_
  refine s_pu (pu_fieldAddr0 rfl) ?_
  refine s_rd (rd_load rfl rfl) ?_
  refine s_pu (pu_ptr_eq_nil rfl rfl) ?_
  refine s_as rfl ?_
  refine swl_sub _ (sc0 2 rfl .nil) ?_
  refine swl_nn ?_
  refine swp_ret ?_
  refine then_r ?_
  exact done_ret [prA pp pd pr (svO o) (wvO o), FSA pd d, RDA pr d, stO o, ro μ] (.tmp rfl .nil) ⟨by rw [sw_none, h64]; rfl, μ, Le.refl _, rfl⟩ sp0
 ·skip
  obtain ⟨x, rfl⟩ : ∃ x, o = some x := by
   cases o with
   | none => cases h64
   | some x => exact ⟨x, rfl⟩
  obtain ⟨s, dead, ht, hsm⟩ : ∃ s dead, TwoOk μ pd pr s dead x ∧ SmallS s := by
   cases y with
   | none => exact ho.elim
   | some y => exact ⟨y.1, y.2, ho.1, ho.2⟩
  obtain ⟨hA, hB, _, _, hpa, hpb, hda, hdb⟩ := ht
  have hsame : sameW x.2.1 x.2.2.2 = true := by unfold sameW; exact decide_eq_true ⟨by rw [hpa, hpb], by rw [hda, hdb]⟩
  refine swp_front (A := stO (some x)) tk0 ?_
  refine swp_ent (star_ent (K := twoL x)) ?_
  simp only [twoL, List.cons_append, List.nil_append]
  refine swp_skip ?_
  refine then_n ?_
  refine swp_seq ?_
  refine swp_draw [3, 7] _ [] (by simp only [List.append_nil]; exact Ent.refl _) kr0 ?_
  refine d_pu 0 rfl (pu_move rfl) kr0 kr0 kr0 ?_
  refine d_pu 1 rfl (pu_nilCheck rfl) kr0 kr0 kr0 ?_
  refine d_pu 2 rfl (pu_fieldAddr0 rfl) kr0 kr0 kr0 ?_
  refine d_rd 3 rfl (rd_load rfl rfl) rfl kr0 kr0 kr0 ?_
  refine d_pu 4 rfl (pu_move rfl) kr0 kr0 kr0 ?_
  refine d_pu 5 rfl (pu_nilCheck rfl) kr0 kr0 kr0 ?_
  refine d_pu 6 rfl (pu_fieldAddr0 rfl) kr0 kr0 kr0 ?_
  refine d_rd 7 rfl (rd_load rfl rfl) rfl kr0 kr0 kr0 ?_
  refine d_fint 8 rfl kr0 kr0 (ef_fn (lsame_spec μ x.1 x.2.2.1 x.2.1 x.2.2.2 hA hB (SmallS.w (by rw [hpa]; exact hsm)) (SmallS.w (by rw [hpb]; exact hsm))) rfl rfl sp0) ?_
  rintro v78 L1 ⟨μ', hl, rfl, rfl⟩
  refine swd_app ?_
  refine d_pu 9 rfl (pu_assign rfl) kr0 kr0 kr0 ?_
  refine d_sub _ (sc0 2 rfl .nil) ?_
  refine d_nilf kr0 ?_
  refine then_n ?_
  refine swp_ret ?_
  refine done_retE [prA pp pd pr (svO (some x)) (wvO (some x)), FSA pd d, RDA pr d, stO (some x), ro μ'] (.tmp rfl .nil) ⟨by rw [hsame]; rfl, μ', hl, rfl⟩ ?_
  refine (Split.ent' (K := [stH x.1 x.2.1, ttA x.2.1, ccA x.2.1, rsH x.2.2.1 x.2.2.2, ttA x.2.2.2, ccA x.2.2.2, prA pp pd pr (svO (some x)) (wvO (some x)), FSA pd d, RDA pr d, ro μ']) sp0).trans ?_
  exact (star_close (K := twoL x) (L := [prA pp pd pr (svO (some x)) (wvO (some x)), FSA pd d, RDA pr d, ro μ'])).trans (Ent.perm (by
   refine List.Perm.trans (List.Perm.swap _ _ _) (List.Perm.cons _ ?_)
   refine List.Perm.trans (List.Perm.swap _ _ _) (List.Perm.cons _ ?_)
   exact List.Perm.swap _ _ _))
end SX
namespace SX
open Go Go.Proofs
theorem decL_len (s : List UInt8) : ∀ (n : Nat) (first : Bool) (last : List UInt8) (pos : Nat) (l : List En) (q : Nat), decL s n first last pos = some (l, q) → l.length = n
  | 0, _, _, _, l, q, h => by
    rw [decL] at h
    cases h; rfl
  | n + 1, first, last, pos, l, q, h => by
    rw [decL] at h
    cases he : entP s first last pos with
    | none => rw [he] at h; cases h
    | some x =>
      obtain ⟨x, p'⟩ := x
      rw [he] at h
      dsimp only at h
      cases hd : decL s n false x.1 p' with
      | none => rw [hd] at h; cases h
      | some y =>
        obtain ⟨l', q'⟩ := y
        rw [hd] at h
        cases h
        rw [List.length_cons, decL_len s n false x.1 p' l' _ hd]
theorem decT_small {s : List UInt8} {t : List En} (h : decT s = some t) : t.length ≤ 1024 := by
  unfold decT at h
  split at h
  · cases h
  split at h
  · cases h
  rename_i h1 h2
  cases hd : decL s (valB (s.take 2)) true [] 2 with
  | none => rw [hd] at h; cases h
  | some y =>
    obtain ⟨l, q⟩ := y
    rw [hd] at h
    dsimp only at h
    split at h
    · cases h
      rw [decL_len _ _ _ _ _ _ _ hd]; omega
    · cases h
theorem decC_small {s : List UInt8} {c : Cm} (h : decC s = some c) : c.1.length ≤ 16 := by
  unfold decC at h
  split at h
  · cases h
  split at h
  · cases h
  split at h
  · cases h
  split at h
  · cases h
  rename_i h1 h2 h3 h4
  cases h
  exact (checkC_ok (by simpa using h4)).1
theorem SmallS.addT {s : St2} (h : SmallS s) {t : List En} (ht : t.length ≤ 1048576) : SmallS (s.1 ++ [t], s.2) := ⟨fun x hx => by
  rcases List.mem_append.1 hx with hx | hx
  · exact h.1 x hx
  · obtain rfl : x = t := by simpa using hx
    exact ht, h.2⟩
theorem SmallS.addC {s : St2} (h : SmallS s) {c : Cm} (hc : c.1.length ≤ 1048576) : SmallS (s.1, s.2 ++ [c]) := ⟨h.1, fun x hx => by
  rcases List.mem_append.1 hx with hx | hx
  · exact h.2 x hx
  · obtain rfl : x = c := by simpa using hx
    exact hc⟩
theorem stand1_small {s s' : St2} {f : Fm} (h : SmallS s) (hs : stand1 s f = some s') : SmallS s' := by
  unfold stand1 at hs
  split at hs
  · cases hd : decT f.2 with
    | none => rw [hd] at hs; cases hs
    | some t =>
      rw [hd] at hs
      dsimp only at hs
      split at hs
      · cases hs
      · cases hs; exact h.addT (by have := decT_small hd; omega)
  · split at hs
    · cases hd : decC f.2 with
      | none => rw [hd] at hs; cases hs
      | some c =>
        rw [hd] at hs
        dsimp only at hs
        split at hs
        · cases hs
        · cases hs; exact h.addC (by have := decC_small hd; omega)
    · cases hs
theorem runS_small : ∀ {s : St2} {l : List Fm}, SmallS s → SmallS (runS s l).1
  | s, [], h => h
  | s, f :: l, h => by
    rw [runS]
    cases hs : stand1 s f with
    | none => exact h
    | some s' => exact runS_small (stand1_small h hs)
theorem openS_small (d : Dk) : SmallS (openS d) := runS_small ⟨fun t ht => by (cases ht), fun c hc => by (cases hc)⟩
theorem addR_small {x : PSt} {e0 : Int} {n : Nat} {f : Fm} {s' : St2} (h : SmallS x.s) (h2 : e0 = 0 → SmallS s') : SmallS (addR x e0 n f s').1.s := by
  unfold addR
  split
  · exact h
  · split
    · exact h
    · rename_i h3
      split
      · exact h
      · split
        · exact h
        · exact h2 (by simpa using h3)
theorem addT_small {x : PSt} (h : SmallS x.s) (t : List En) : SmallS (addT x t).1.s := addR_small h fun h0 => h.addT (by have := (encErr_ok h0).1; omega)
theorem addC_small {x : PSt} (h : SmallS x.s) (c : Cm) : SmallS (addC x c).1.s := addR_small h fun h0 => h.addC (by
  by_cases hc : checkC c = 0
  · have := (checkC_ok hc).1; omega
  · rw [if_pos hc] at h0; exact absurd h0 hc)
theorem writeD_in {m : Nat} {d : Dk} (h : Within m d) (f : Fm) : Within m (writeD d f).1 := by
  unfold writeD
  split
  · exact appendD_in h _ _
  · exact syncD_in (appendD_in h _ _) _
theorem addR_in {m : Nat} {x : PSt} {e0 : Int} {n : Nat} {f : Fm} {s' : St2} (h : Within m x.d) : Within m (addR x e0 n f s').1.d := by
  unfold addR
  repeat' split
  · exact h
  · exact h
  · exact h
  · exact writeD_in h f
  · exact writeD_in h f
theorem addT_in {m : Nat} {x : PSt} (h : Within m x.d) (t : List En) : Within m (addT x t).1.d := addR_in h
theorem addC_in {m : Nat} {x : PSt} (h : Within m x.d) (c : Cm) : Within m (addC x c).1.d := addR_in h
theorem settle_in {m : Nat} {d : Dk} (h : Within m d) (n len : Nat) : Within m (settleD d n len).1 := by
  rw [settle_two]
  split
  · exact settle2_in h n len
  · exact syncNamesD_in (settle2_in h n len)
theorem open_in {m : Nat} {d : Dk} (h : Within m d) : Within (m + 1) (openD d).1 := by
  unfold openD
  split
  · unfold freshD
    split
    · exact createD_in h _
    · exact syncNamesD_in (createD_in h _)
  · split
    · exact h.mono om0
    · exact (settle_in h _ _).mono om0
end SX
namespace SX
open Go Go.Proofs
theorem pu_conv_w {P : Program} {env : Env} {s t : TypeId} {ks k k' : IntKind} [hs : TInt P s ks] [ht : TInt P t k'] {x : Operand} {n m : Int} (h : k'.wrap n = m) (hx : evalE env x = some (.int k n)) : Pu P env (.convert s t x) (.int k' m) := by
  have := pu_conv (P := P) (s := s) (t := t) (k' := k') hx
  rwa [h] at this
theorem wrap_u64_nat (n : Int) : ∃ a : Nat, IntKind.u64.wrap n = (a : Int) ∧ a < 18446744073709551616 := by
  have h1 : 0 ≤ n % 18446744073709551616 := Int.emod_nonneg _ (by decide)
  have h2 : n % 18446744073709551616 < 18446744073709551616 := Int.emod_lt_of_pos _ (by decide)
  refine ⟨(n % 18446744073709551616).toNat, ?_, by omega⟩
  show n % (2 ^ 64) = _
  rw [show (2 : Int) ^ 64 = 18446744073709551616 from by decide]
  omega
theorem POpen.opt {μ μ' : PH} {pd pr : Nat} {d : Dk} {o : Option Two} (h : POpen μ pd pr d o μ') : ∃ y, OptOk μ' pd pr y o := by
  obtain ⟨_, ⟨_, rfl⟩ | ⟨_, x, rfl, h2⟩⟩ := h
  · exact ⟨none, trivial⟩
  · exact ⟨some (openS d, false), h2, openS_small d⟩
theorem two_close {sa sb : Nat} {Wa Wb : SW} {A B C D : Assn} : Ent [stH sa Wa, ttA Wa, ccA Wa, rsH sb Wb, ttA Wb, ccA Wb, A, B, C, D] [A, B, C, stO (some (sa, Wa, sb, Wb)), D] :=
  (star_close (K := twoL (sa, Wa, sb, Wb)) (L := [A, B, C, D])).trans (Ent.perm (by
    refine List.Perm.trans (List.Perm.swap _ _ _) (List.Perm.cons _ ?_)
    refine List.Perm.trans (List.Perm.swap _ _ _) (List.Perm.cons _ ?_)
    exact List.Perm.swap _ _ _))
abbrev moreN : ByteArray := ⟨#[109, 111, 114, 101]⟩
/-- what a step leaves -/
def StepQ (μ : PH) (pp pd pr m : Nat) (L : List Assn) : Prop := ∃ d y o μ', Le μ μ' ∧ d.Ok ∧ Within (m + 4) d ∧ OptOk μ' pd pr y o ∧ L = [prA pp pd pr (svO o) (wvO o), FSA pd d, RDA pr d, stO o, ro μ']
set_option maxHeartbeats 16000000 in
theorem pstep_spec (μ : PH) (pp pd pr : Nat) (o : Option Two) (d : Dk) (hd : d.Ok) (m : Nat) (hw : Within m d) (hm : m ≤ 980000) (y : Option (St2 × Bool)) (ho : OptOk μ pd pr y o) (op : OpS) (hop : op.Ok μ) :
  Spec Tryz.prog 29 [pv pp, .agg (oscs op).toArray] [prA pp pd pr (svO o) (wvO o), FSA pd d, RDA pr d, stO o, ro μ] (fun r L => r = .bool true ∧ StepQ μ pp pd pr m L) := by
 have hk8 := hop.kd
 obtain ⟨tA, tc, htv⟩ := hop.tr.sl
 obtain ⟨cA, cc, hcv⟩ := hop.cr.sl
 obtain ⟨kA, kc, hkv⟩ := hop.kr.sl
 obtain ⟨kind, tv, t, cv, c, n, fn, kv, keep⟩ := op
 dsimp only at htv hcv hkv hk8
 subst htv hcv hkv
 have hfw := few_of hw om0
 refine Spec.of 189 Tryz.func29 rfl rfl rfl ?_
 refine swp_sr ?_
 refine s_ef (ef_box rfl rfl) ?_
 intro b3
 refine s_as rfl ?_
 refine swl_sub _ (sc0 0 rfl (sc0 3 rfl .nil)) ?_
 refine swl_nn ?_
 refine swp_seq ?_
 refine swp_sr ?_
 refine s_pu (pu_fieldAddr0 rfl) ?_
 refine s_rd (rd_load rfl rfl) ?_
 refine s_pu (pu_rem_nat (a := kind) (b := 8) rfl rfl (by decide)) ?_
 refine swl_sub _ (sc0 0 rfl (sc0 3 rfl (sc0 16 rfl .nil))) ?_
 refine swl_nn ?_
 refine swp_block ?_
 refine swp_sr ?_
 refine s_pu (pu_eql rfl rfl) ?_
 refine s_as rfl ?_
 refine swl_sub _ (sc0 0 rfl (sc0 3 rfl (sc0 16 rfl (sc0 17 rfl .nil)))) ?_
 refine swl_nn ?_
 refine swp_cond (b := _) rfl (fun h17 => ?_) (fun h17 => ?_)
 ·skip
  refine swp_seq ?_
  refine swp_draw [3, 5] _ [] (by simp only [List.append_nil]; exact Ent.refl _) kr0 ?_
  refine d_pu 0 rfl (pu_move rfl) kr0 kr0 kr0 ?_
  refine d_pu 1 rfl (pu_nilCheck rfl) kr0 kr0 kr0 ?_
  refine d_pu 2 rfl (pu_fieldAddr0 rfl) kr0 kr0 kr0 ?_
  refine d_rd 3 rfl (rd_load rfl rfl) rfl kr0 kr0 kr0 ?_
  refine d_pu 4 rfl (pu_fieldAddr0 rfl) kr0 kr0 kr0 ?_
  refine d_rd 5 rfl (rd_load rfl rfl) rfl kr0 kr0 kr0 ?_
  refine d_fint 6 rfl kr0 kr0 (ef_fn (fall_spec pd d n) rfl rfl sp0) ?_
  rintro v25 L1 rfl
  refine swd_app ?_
  refine d_sub _ (sc0 0 rfl (sc0 3 rfl .nil)) ?_
  refine d_nilf kr0 ?_
  refine then_n ?_
  refine swp_seq ?_
  refine swp_draw [3, 5] _ [] (by simp only [List.append_nil]; exact Ent.refl _) kr0 ?_
  refine d_pu 0 rfl (pu_move rfl) kr0 kr0 kr0 ?_
  refine d_pu 1 rfl (pu_nilCheck rfl) kr0 kr0 kr0 ?_
  refine d_pu 2 rfl (pu_fieldAddr0 rfl) kr0 kr0 kr0 ?_
  refine d_rd 3 rfl (rd_load rfl rfl) rfl kr0 kr0 kr0 ?_
  refine d_pu 4 rfl (pu_fieldAddr0 rfl) kr0 kr0 kr0 ?_
  refine d_rd 5 rfl (rd_load rfl rfl) rfl kr0 kr0 kr0 ?_
  refine d_fint 6 rfl kr0 kr0 (ef_fn (rfall_spec pr d n) rfl rfl sp0) ?_
  rintro v32 L1 rfl
  refine swd_app ?_
  refine d_sub _ .nil ?_
  refine d_nilf kr0 ?_
  refine then_n ?_
  refine swp_sr ?_
  refine s_as rfl ?_
  refine swl_sub _ (sc0 4 rfl .nil) ?_
  refine swl_nn ?_
  refine swp_ret ?_
  refine block_r ?_
  refine then_r ?_
  exact done_ret [prA pp pd pr (svO o) (wvO o), FSA pd (fallD d n), RDA pr (fallD d n), stO o, ro μ] (.tmp rfl .nil) ⟨rfl, fallD d n, y, o, μ, Le.refl _, fallD_ok hd hop.nr.2, (fallD_in hw n).mono om0, ho, rfl⟩ sp0
 ·skip
  refine swp_sr ?_
  refine s_pu (pu_eql rfl rfl) ?_
  refine s_as rfl ?_
  refine swl_sub _ (sc0 0 rfl (sc0 3 rfl (sc0 16 rfl (sc0 33 rfl .nil)))) ?_
  refine swl_nn ?_
  refine swp_cond (b := _) rfl (fun h33 => ?_) (fun h33 => ?_)
  ·skip
   refine swp_seq ?_
   refine swp_draw [3, 5] _ [] (by simp only [List.append_nil]; exact Ent.refl _) kr0 ?_
   refine d_pu 0 rfl (pu_move rfl) kr0 kr0 kr0 ?_
   refine d_pu 1 rfl (pu_nilCheck rfl) kr0 kr0 kr0 ?_
   refine d_pu 2 rfl (pu_fieldAddr0 rfl) kr0 kr0 kr0 ?_
   refine d_rd 3 rfl (rd_load rfl rfl) rfl kr0 kr0 kr0 ?_
   refine d_pu 4 rfl (pu_fieldAddr0 rfl) kr0 kr0 kr0 ?_
   refine d_rd 5 rfl (rd_loadX rfl rfl rfl) rfl kr0 kr0 kr0 ?_
   refine d_fint 6 rfl kr0 kr0 (ef_fn (crash_spec μ pd d hd fn (.slice kA keep.length kc) keep hop.kr hfw) rfl rfl sp0) ?_
   rintro v41 L1 ⟨μ1, l1, rfl⟩
   refine swd_app ?_
   refine d_sub _ (sc0 0 rfl (sc0 3 rfl .nil)) ?_
   refine d_nilf kr0 ?_
   refine then_n ?_
   refine swp_seq ?_
   refine swp_draw [3, 5] _ [] (by simp only [List.append_nil]; exact Ent.refl _) kr0 ?_
   refine d_pu 0 rfl (pu_move rfl) kr0 kr0 kr0 ?_
   refine d_pu 1 rfl (pu_nilCheck rfl) kr0 kr0 kr0 ?_
   refine d_pu 2 rfl (pu_fieldAddr0 rfl) kr0 kr0 kr0 ?_
   refine d_rd 3 rfl (rd_load rfl rfl) rfl kr0 kr0 kr0 ?_
   refine d_pu 4 rfl (pu_fieldAddr0 rfl) kr0 kr0 kr0 ?_
   refine d_rd 5 rfl (rd_loadX rfl rfl rfl) rfl kr0 kr0 kr0 ?_
   refine d_fint 6 rfl kr0 kr0 (ef_fn (rcrash_spec μ1 pr d hd hfw fn (.slice kA keep.length kc) keep (hop.kr.le l1)) rfl rfl sp0) ?_
   rintro v48 L1 rfl
   refine swd_app ?_
   refine d_sub _ (sc0 0 rfl (sc0 3 rfl .nil)) ?_
   refine d_nilf kr0 ?_
   refine then_n ?_
   refine swp_cut (fun env L => ∃ d2 μ2 sv wv, d2.Ok ∧ Within (m + 2) d2 ∧ Le μ μ2 ∧ Sub env [(0, pv pp)] ∧ Ent L [prA pp pd pr sv wv, FSA pd d2, RDA pr d2, ro μ2]) ?_ ?_
   ·skip
    refine swp_seq ?_
    have hd1 := crashD_ok hd fn keep
    have hw1 := crashD_in hw fn keep
    generalize crashD d fn keep = d1 at *
    refine swp_region ?_
    refine s_pu (pu_fieldAddr0 rfl) ?_
    refine s_rd (rd_load rfl rfl) ?_
    refine s_pu (pu_gtr rfl rfl) ?_
    refine swl_sub _ (sc0 0 rfl (sc0 3 rfl (sc0 51 rfl .nil))) ?_
    refine swl_nn ?_
    refine swp_cond (b := _) rfl (fun h51 => ?_) (fun h51 => ?_)
    ·skip
     refine swp_seq ?_
     refine swp_draw [3, 5] _ [] (by simp only [List.append_nil]; exact Ent.refl _) kr0 ?_
     refine d_pu 0 rfl (pu_move rfl) kr0 kr0 kr0 ?_
     refine d_pu 1 rfl (pu_nilCheck rfl) kr0 kr0 kr0 ?_
     refine d_pu 2 rfl (pu_fieldAddr0 rfl) kr0 kr0 kr0 ?_
     refine d_rd 3 rfl (rd_load rfl rfl) rfl kr0 kr0 kr0 ?_
     refine d_pu 4 rfl (pu_fieldAddr0 rfl) kr0 kr0 kr0 ?_
     refine d_rd 5 rfl (rd_load rfl rfl) rfl kr0 kr0 kr0 ?_
     refine d_fint 6 rfl kr0 kr0 (ef_fn (fall_spec pd d1 n) rfl rfl sp0) ?_
     rintro v58 L1 rfl
     refine swd_app ?_
     refine d_sub _ (sc0 0 rfl (sc0 3 rfl .nil)) ?_
     refine d_nilf kr0 ?_
     refine then_n ?_
     refine swp_seq ?_
     refine swp_draw [3, 5] _ [] (by simp only [List.append_nil]; exact Ent.refl _) kr0 ?_
     refine d_pu 0 rfl (pu_move rfl) kr0 kr0 kr0 ?_
     refine d_pu 1 rfl (pu_nilCheck rfl) kr0 kr0 kr0 ?_
     refine d_pu 2 rfl (pu_fieldAddr0 rfl) kr0 kr0 kr0 ?_
     refine d_rd 3 rfl (rd_load rfl rfl) rfl kr0 kr0 kr0 ?_
     refine d_pu 4 rfl (pu_fieldAddr0 rfl) kr0 kr0 kr0 ?_
     refine d_rd 5 rfl (rd_load rfl rfl) rfl kr0 kr0 kr0 ?_
     refine d_fint 6 rfl kr0 kr0 (ef_fn (rfall_spec pr d1 n) rfl rfl sp0) ?_
     rintro v65 L1 rfl
     refine swd_app ?_
     refine d_sub _ (sc0 0 rfl (sc0 3 rfl .nil)) ?_
     refine d_nilf kr0 ?_
     refine then_n ?_
     refine swp_seq ?_
     refine swp_seq ?_
     have hd2 := fallD_ok hd1 hop.nr.2
     have hw2 := fallD_in hw1 n
     dsimp only at hd2 hw2
     generalize fallD d1 n = d2 at *
     refine swp_region ?_
     refine s_mv rfl ?_
     refine s_ef (ef_fn (popen_spec μ1 pp pd pr (svO o) (wvO o) d2 hd2 m hw2 om0) rfl rfl sp0) ?_
     rintro v67 L1 ⟨rfl, o2, μ2, hpo, rfl⟩
     obtain ⟨y2, hy2⟩ := hpo.opt
     have l2 := hpo.1
     refine swl_app ?_
     refine s_pu (pu_not rfl) ?_
     refine s_mv rfl ?_
     refine s_split 69 rfl (fun h69 => by cases h69) (fun h69 => ?_)
     refine s_on rfl rfl ?_
     refine s_mv rfl ?_
     refine s_on rfl rfl ?_
     refine s_ef (ef_fn (ptold_spec μ2 pp pd pr o2 (openD d2).1 (open_ok hd2) (m + 1) (open_in hw2) om0 y2 hy2) rfl rfl sp0) ?_
     rintro v71 L1 ⟨rfl, μ3, l3, rfl⟩
     refine swl_app ?_
     refine s_on rfl rfl ?_
     refine s_pu (pu_not rfl) ?_
     refine s_pu (pu_pick_f rfl rfl) ?_
     refine swl_sub _ (sc0 0 rfl (sc0 3 rfl (sc0 73 rfl .nil))) ?_
     refine swl_nn ?_
     refine swp_cond (b := _) rfl (fun h73 => by cases h73) (fun h73 => ?_)
     refine swp_skip ?_
     refine then_n ?_
     refine swp_seq ?_
     refine swp_draw [3, 5] _ [] (by simp only [List.append_nil]; exact Ent.refl _) kr0 ?_
     refine d_pu 0 rfl (pu_move rfl) kr0 kr0 kr0 ?_
     refine d_pu 1 rfl (pu_nilCheck rfl) kr0 kr0 kr0 ?_
     refine d_pu 2 rfl (pu_fieldAddr0 rfl) kr0 kr0 kr0 ?_
     refine d_rd 3 rfl (rd_load rfl rfl) rfl kr0 kr0 kr0 ?_
     refine d_pu 4 rfl (pu_fieldAddr0 rfl) kr0 kr0 kr0 ?_
     refine d_rd 5 rfl (rd_loadX rfl rfl rfl) rfl kr0 kr0 kr0 ?_
     refine d_fint 6 rfl kr0 kr0 (ef_fn (crash_spec μ3 pd (openD d2).1 (open_ok hd2) fn (.slice kA keep.length kc) keep (hop.kr.le (l1.trans (l2.trans l3))) (few_of (open_in hw2) om0)) rfl rfl sp0) ?_
     rintro v80 L1 ⟨μ4, l4, rfl⟩
     refine swd_app ?_
     refine d_sub _ (sc0 0 rfl (sc0 3 rfl .nil)) ?_
     refine d_nilf kr0 ?_
     refine then_n ?_
     refine swp_draw [3, 5] _ [] (by simp only [List.append_nil]; exact Ent.refl _) kr0 ?_
     refine d_pu 0 rfl (pu_move rfl) kr0 kr0 kr0 ?_
     refine d_pu 1 rfl (pu_nilCheck rfl) kr0 kr0 kr0 ?_
     refine d_pu 2 rfl (pu_fieldAddr0 rfl) kr0 kr0 kr0 ?_
     refine d_rd 3 rfl (rd_load rfl rfl) rfl kr0 kr0 kr0 ?_
     refine d_pu 4 rfl (pu_fieldAddr0 rfl) kr0 kr0 kr0 ?_
     refine d_rd 5 rfl (rd_loadX rfl rfl rfl) rfl kr0 kr0 kr0 ?_
     refine d_fint 6 rfl kr0 kr0 (ef_fn (rcrash_spec μ4 pr (openD d2).1 (open_ok hd2) (few_of (open_in hw2) om0) fn (.slice kA keep.length kc) keep (hop.kr.le (l1.trans (l2.trans (l3.trans l4))))) rfl rfl sp0) ?_
     rintro v87 L1 rfl
     refine swd_app ?_
     refine d_sub _ (sc0 0 rfl .nil) ?_
     refine d_nilf kr0 ?_
     exact then_n ⟨crashD (openD d2).1 fn keep, μ4, svO o2, wvO o2, crashD_ok (open_ok hd2) _ _, crashD_in ((open_in hw2).mono om0) _ _, l1.trans (l2.trans (l3.trans l4)), ⟨rfl, trivial⟩, Split.ent' sp0⟩
    ·skip
     refine swp_skip ?_
     exact then_n ⟨d1, μ1, svO o, wvO o, hd1, hw1.mono om0, l1, ⟨rfl, trivial⟩, Split.ent' sp0⟩
   rintro env L ⟨d2, μ2, sv, wv, hd2, hw2, l2, hsub, hE⟩
   refine swp_sub _ hsub ?_
   refine swp_ent hE ?_
   clear hsub hE env L
   refine swp_sr ?_
   refine s_mv rfl ?_
   refine s_ef (ef_fn (popen_spec μ2 pp pd pr sv wv d2 hd2 (m + 2) hw2 om0) rfl rfl sp0) ?_
   rintro v89 L1 ⟨rfl, o2, μ3, hpo, rfl⟩
   refine swl_app ?_
   refine s_as rfl ?_
   refine swl_sub _ (sc0 4 rfl .nil) ?_
   refine swl_nn ?_
   refine swp_ret ?_
   refine block_r ?_
   refine then_r ?_
   obtain ⟨y2, hy2⟩ := hpo.opt
   exact done_ret [prA pp pd pr (svO o2) (wvO o2), FSA pd (openD d2).1, RDA pr (openD d2).1, stO o2, ro μ3] (.tmp rfl .nil) ⟨rfl, (openD d2).1, y2, o2, μ3, l2.trans hpo.1, open_ok hd2, (open_in hw2).mono om0, hy2, rfl⟩ sp0
  ·skip
   refine swp_sr ?_
   refine s_pu (pu_eql rfl rfl) ?_
   refine s_as rfl ?_
   refine swl_sub _ (sc0 0 rfl (sc0 3 rfl (sc0 90 rfl .nil))) ?_
   refine swl_nn ?_
   refine swp_cond (b := _) rfl (fun h90 => ?_) (fun h90 => ?_)
   ·skip
    obtain ⟨a, ha, ha2⟩ := wrap_u64_nat n
    have hkk : a % 200 < 200 := Nat.mod_lt _ (by decide)
    refine swp_sr ?_
    refine s_pu (pu_fieldAddr0 rfl) ?_
    refine s_rd (rd_load rfl rfl) ?_
    refine s_pu (pu_conv_w ha rfl) ?_
    refine s_pu (pu_rem_nat (a := a) (b := 200) rfl rfl (by decide)) ?_
    refine s_ef (ef_make1 (a % 200) rfl rfl rfl om0 (by simp only [maxLen]; omega)) ?_
    rintro b96
    generalize a % 200 = k at *
    have hbz : List.replicate k (Value.int .u8 0) = bcs (List.replicate k 0) ++ [] := by
     rw [List.append_nil]
     clear hkk
     induction k with
     | zero => rfl
     | succ k ih => rw [List.replicate_succ, List.replicate_succ, ih]; rfl
    rw [hbz]
    refine s_rd (rd_bytes (List.replicate k 0) (by rw [List.length_replicate]; rfl) tk0) ?_
    refine s_as rfl ?_
    refine swl_sub _ (sc0 0 rfl (sc0 5 rfl .nil)) ?_
    refine swl_nn ?_
    refine swp_seq ?_
    rw [show (⟨(List.replicate k (0 : UInt8)).toArray⟩ : ByteArray) = str (List.replicate k 0) from rfl]
    refine swp_ent (Split.ent' (K := [prA pp pd pr (svO o) (wvO o), FSA pd d, RDA pr d, stO o, ro μ]) sp0) ?_
    have hz : (List.replicate k (0 : UInt8)).length ≤ 1048576 := by rw [List.length_replicate]; omega
    generalize List.replicate k (0 : UInt8) = zs at *
    have hd1 := createD_ok hd moreN
    have hw1 := createD_in hw moreN
    refine swp_draw [3, 8, 15, 21] ([prA pp pd pr (svO o) (wvO o)]) ([FSA pd d, RDA pr d, stO o, ro μ]) (Split.ent sp0) kr0 ?_
    refine d_pu 0 rfl (pu_move rfl) kr0 kr0 kr0 ?_
    refine d_pu 1 rfl (pu_nilCheck rfl) kr0 kr0 kr0 ?_
    refine d_pu 2 rfl (pu_fieldAddr0 rfl) kr0 kr0 kr0 ?_
    refine d_rd 3 rfl (rd_load rfl rfl) rfl kr0 kr0 kr0 ?_
    refine d_pu 5 rfl (pu_move rfl) kr0 kr0 kr0 ?_
    refine d_pu 6 rfl (pu_nilCheck rfl) kr0 kr0 kr0 ?_
    refine d_pu 7 rfl (pu_fieldAddr0 rfl) kr0 kr0 kr0 ?_
    refine d_rd 8 rfl (rd_load rfl rfl) rfl kr0 kr0 kr0 ?_
    refine d_eft 4 rfl kr0 (ef_fn (create_spec pd d hd hfw moreN) rfl rfl sp0) ?_
    rintro v102 L1 ⟨rfl, rfl⟩
    refine ⟨_, ent_appC (Split.ent sp0), ?_⟩
    refine d_eft 9 rfl kr0 (ef_fn (rcreate_spec pr d hd hfw moreN) rfl rfl sp0) ?_
    rintro v107 L1 ⟨rfl, rfl⟩
    refine ⟨_, ent_appC (Split.ent sp0), ?_⟩
    refine d_pu 10 rfl (pu_eql rfl rfl) kr0 kr0 kr0 ?_
    refine d_pu 11 rfl (pu_move rfl) kr0 kr0 kr0 ?_
    refine d_split 109 rfl (fun h109 => ?_) (fun h109 => by simp at h109)
    refine d_pu_on 12 rfl rfl rfl (pu_move rfl) kr0 kr0 kr0 ?_
    refine d_pu_on 13 rfl rfl rfl (pu_nilCheck rfl) kr0 kr0 kr0 ?_
    refine d_pu_on 14 rfl rfl rfl (pu_fieldAddr0 rfl) kr0 kr0 kr0 ?_
    refine d_rd_on 15 rfl rfl rfl (rd_load rfl rfl) rfl kr0 kr0 kr0 ?_
    refine d_pu_on 16 rfl rfl rfl (pu_move rfl) kr0 kr0 kr0 ?_
    refine d_pu_on 18 rfl rfl rfl (pu_move rfl) kr0 kr0 kr0 ?_
    refine d_pu_on 19 rfl rfl rfl (pu_nilCheck rfl) kr0 kr0 kr0 ?_
    refine d_pu_on 20 rfl rfl rfl (pu_fieldAddr0 rfl) kr0 kr0 kr0 ?_
    refine d_rd_on 21 rfl rfl rfl (rd_load rfl rfl) rfl kr0 kr0 kr0 ?_
    refine d_pu_on 22 rfl rfl rfl (pu_move rfl) kr0 kr0 kr0 ?_
    refine d_amb [17] kr0 rfl ?_
    refine dA_ef 17 rfl (GOn.some rfl rfl) (ef_fn (append_l pd (createD d moreN).1 hd1 moreN zs hz) rfl rfl sp0) ?_
    rintro v115 L1 ⟨rfl, rfl⟩
    refine ⟨_, ent_appC (Split.ent sp0), ?_⟩
    refine d_amb [23] kr0 rfl ?_
    refine dA_fint 23 rfl (GOn.some rfl rfl) kr0 (ef_fn (rappend_l pr (createD d moreN).1 hd1 (few_of hw1 om0) moreN zs hz) rfl rfl sp0) ?_
    rintro v121 L1 ⟨rfl, rfl⟩
    refine swd_app ?_
    refine d_pu_on 24 rfl rfl rfl (pu_eql rfl rfl) kr0 kr0 kr0 ?_
    refine d_pu 25 rfl (pu_pick_t rfl rfl) kr0 kr0 kr0 ?_
    refine d_pu 26 rfl (pu_assign rfl) kr0 kr0 kr0 ?_
    refine d_sub _ (sc0 4 rfl .nil) ?_
    refine d_nilf kr0 ?_
    refine then_n ?_
    refine swp_ret ?_
    refine block_r ?_
    refine then_r ?_
    exact done_ret [prA pp pd pr (svO o) (wvO o), FSA pd (appendD (createD d moreN).1 moreN zs).1, RDA pr (appendD (createD d moreN).1 moreN zs).1, stO o, ro μ] (.tmp rfl .nil) ⟨by simp; rfl, (appendD (createD d moreN).1 moreN zs).1, y, o, μ, Le.refl _, appendD_ok hd1 _ _, (appendD_in hw1 _ _).mono om0, ho, rfl⟩ sp0
   ·skip
    refine swp_skip ?_
    refine block_n ?_
    refine then_n ?_
    refine swp_seq ?_
    refine swp_sr ?_
    refine s_mv rfl ?_
    refine s_pu (pu_nilCheck rfl) ?_
    refine s_pu (pu_fieldAddr0 rfl) ?_
    refine s_rd (rd_load rfl rfl) ?_
    refine s_pu (pu_ptr_eq_nil rfl rfl) ?_
    refine swl_sub _ (sc0 0 rfl (sc0 3 rfl (sc0 128 rfl .nil))) ?_
    refine swl_nn ?_
    refine swp_cond (b := _) rfl (fun h128 => ?_) (fun h128 => ?_)
    ·skip
     refine swp_sr ?_
     refine s_as rfl ?_
     refine swl_sub _ (sc0 4 rfl .nil) ?_
     refine swl_nn ?_
     refine swp_ret ?_
     refine then_r ?_
     exact done_ret [prA pp pd pr (svO o) (wvO o), FSA pd d, RDA pr d, stO o, ro μ] (.tmp rfl .nil) ⟨rfl, d, y, o, μ, Le.refl _, hd, hw.mono om0, ho, rfl⟩ sp0
    ·skip
     obtain ⟨x, rfl⟩ : ∃ x, o = some x := by
      cases o with
      | none => cases h128
      | some x => exact ⟨x, rfl⟩
     obtain ⟨s, dead, ht, hsm⟩ : ∃ s dead, TwoOk μ pd pr s dead x ∧ SmallS s := by
      cases y with
      | none => exact ho.elim
      | some y => exact ⟨y.1, y.2, ho.1, ho.2⟩
     obtain ⟨sa, Wa, sb, Wb⟩ := x
     obtain ⟨hA, hB, hqa, hqb, hpa, hpb, hda, hdb⟩ := ht
     dsimp only at hA hB hqa hqb hpa hpb hda hdb
     subst hqa hqb
     refine swp_front (A := stO (some (sa, Wa, sb, Wb))) tk0 ?_
     refine swp_ent (star_ent (K := twoL (sa, Wa, sb, Wb))) ?_
     simp only [twoL, List.cons_append, List.nil_append]
     rw [show svO (some (sa, Wa, sb, Wb)) = pv sa from rfl, show wvO (some (sa, Wa, sb, Wb)) = pv sb from rfl]
     refine swp_skip ?_
     refine then_n ?_
     refine swp_seq ?_
     refine swp_sr ?_
     refine s_pu (pu_fieldAddr0 rfl) ?_
     refine s_rd (rd_load rfl rfl) ?_
     refine s_pu (pu_rem_nat (a := kind) (b := 8) rfl rfl (by decide)) ?_
     refine s_pu (pu_lss rfl rfl) ?_
     refine swl_sub _ (sc0 0 rfl (sc0 3 rfl (sc0 132 rfl .nil))) ?_
     refine swl_nn ?_
     refine swp_cond (b := _) rfl (fun h132 => ?_) (fun h132 => ?_)
     ·skip
      refine swp_seq ?_
      refine swp_draw [3, 5] _ [] (by simp only [List.append_nil]; exact Ent.refl _) kr0 ?_
      refine d_pu 0 rfl (pu_move rfl) kr0 kr0 kr0 ?_
      refine d_pu 1 rfl (pu_nilCheck rfl) kr0 kr0 kr0 ?_
      refine d_pu 2 rfl (pu_fieldAddr0 rfl) kr0 kr0 kr0 ?_
      refine d_rd 3 rfl (rd_load rfl rfl) rfl kr0 kr0 kr0 ?_
      refine d_pu 4 rfl (pu_fieldAddr0 rfl) kr0 kr0 kr0 ?_
      refine d_rd 5 rfl (rd_load rfl rfl) rfl kr0 kr0 kr0 ?_
      refine d_fint 6 rfl kr0 kr0 (ef_fn (addtree_spec μ sa Wa hA d hd (.slice tA t.length tc) t hop.tr hop.tu) rfl rfl sp0) ?_
      rintro v140 L1 ⟨Wa', μ1, hqA, rfl⟩
      rw [hpa, hda] at hqA
      rw [hpa, hda]
      have hz1 := addT_ok (x := ⟨d, s, dead⟩) hd t
      have hz2 := addT_in (x := ⟨d, s, dead⟩) hw t
      have hz3 := addT_small (x := ⟨d, s, dead⟩) hsm t
      obtain ⟨l1, hA', q1, p1, d1, rfl⟩ := hqA
      refine swd_app ?_
      refine d_pu 7 rfl (pu_move rfl) kr0 kr0 kr0 ?_
      refine d_pu 8 rfl (pu_extractL rfl) kr0 kr0 kr0 ?_
      refine d_pu 9 rfl (pu_extractL rfl) kr0 kr0 kr0 ?_
      refine d_pu 10 rfl (pu_assign rfl) kr0 kr0 kr0 ?_
      refine d_pu 11 rfl (pu_assign rfl) kr0 kr0 kr0 ?_
      refine d_sub _ (sc0 0 rfl (sc0 3 rfl (sc0 6 rfl (sc0 7 rfl .nil)))) ?_
      refine d_nilf kr0 ?_
      refine then_n ?_
      refine swp_seq ?_
      refine swp_draw [3, 5] _ [] (by simp only [List.append_nil]; exact Ent.refl _) kr0 ?_
      refine d_pu 0 rfl (pu_move rfl) kr0 kr0 kr0 ?_
      refine d_pu 1 rfl (pu_nilCheck rfl) kr0 kr0 kr0 ?_
      refine d_pu 2 rfl (pu_fieldAddr0 rfl) kr0 kr0 kr0 ?_
      refine d_rd 3 rfl (rd_load rfl rfl) rfl kr0 kr0 kr0 ?_
      refine d_pu 4 rfl (pu_fieldAddr0 rfl) kr0 kr0 kr0 ?_
      refine d_rd 5 rfl (rd_load rfl rfl) rfl kr0 kr0 kr0 ?_
      refine d_fint 6 rfl kr0 kr0 (ef_fn (raddtree_spec μ1 sb Wb (hB.le l1) d hd m hw om0 (.slice tA t.length tc) t (hop.tr.le l1) hop.tu) rfl rfl sp0) ?_
      rintro v150 L1 ⟨Wb', μ2, hqB, rfl⟩
      rw [hpb, hdb] at hqB
      rw [hpb, hdb]
      obtain ⟨l2, hB', q2, p2, d2, rfl⟩ := hqB
      refine swd_app ?_
      refine d_pu 7 rfl (pu_move rfl) kr0 kr0 kr0 ?_
      refine d_pu 8 rfl (pu_extractL rfl) kr0 kr0 kr0 ?_
      refine d_pu 9 rfl (pu_extractL rfl) kr0 kr0 kr0 ?_
      refine d_pu 10 rfl (pu_assign rfl) kr0 kr0 kr0 ?_
      refine d_pu 11 rfl (pu_assign rfl) kr0 kr0 kr0 ?_
      refine d_sub _ (sc0 6 rfl (sc0 7 rfl (sc0 8 rfl (sc0 9 rfl .nil)))) ?_
      refine d_nilf kr0 ?_
      refine then_n ?_
      refine swp_seq ?_
      generalize addT ⟨d, s, dead⟩ t = z at *
      refine swp_region ?_
      refine s_mv rfl ?_
      refine s_mv rfl ?_
      refine s_pu (pu_eql rfl rfl) ?_
      refine s_mv rfl ?_
      refine s_split 156 rfl (fun h156 => ?_) (fun h156 => by simp at h156)
      refine s_on rfl rfl ?_
      refine s_mv rfl ?_
      refine s_on rfl rfl ?_
      refine s_mv rfl ?_
      refine s_on rfl rfl ?_
      refine s_pu (pu_eql rfl rfl) ?_
      refine s_pu (pu_pick_t rfl rfl) ?_
      refine s_as rfl ?_
      refine swl_sub _ (sc0 4 rfl .nil) ?_
      refine swl_nn ?_
      refine swp_ret ?_
      refine then_r ?_
      refine done_retE [prA pp Wa.q Wb.q (svO (some (sa, Wa', sb, Wb'))) (wvO (some (sa, Wa', sb, Wb'))), FSA Wa.q z.1.d, RDA Wb.q z.1.d, stO (some (sa, Wa', sb, Wb')), ro μ2] (.tmp rfl .nil) ⟨by simp; rfl, z.1.d, some (z.1.s, z.1.dead), some (sa, Wa', sb, Wb'), μ2, l1.trans l2, hz1, hz2.mono om0, ⟨⟨hA'.le l2, hB', q1, q2, p1, p2, d1, d2⟩, hz3⟩, rfl⟩ ?_
      rw [← q1, ← q2]
      rw [show svO (some (sa, Wa', sb, Wb')) = pv sa from rfl, show wvO (some (sa, Wa', sb, Wb')) = pv sb from rfl]
      exact (Split.ent' (K := [stH sa Wa', ttA Wa', ccA Wa', rsH sb Wb', ttA Wb', ccA Wb', prA pp Wa'.q Wb'.q (pv sa) (pv sb), FSA Wa'.q z.1.d, RDA Wb'.q z.1.d, ro μ2]) sp0).trans two_close
     ·skip
      refine swp_skip ?_
      refine then_n ?_
      refine swp_seq ?_
      refine swp_draw [3, 5] _ [] (by simp only [List.append_nil]; exact Ent.refl _) kr0 ?_
      refine d_pu 0 rfl (pu_move rfl) kr0 kr0 kr0 ?_
      refine d_pu 1 rfl (pu_nilCheck rfl) kr0 kr0 kr0 ?_
      refine d_pu 2 rfl (pu_fieldAddr0 rfl) kr0 kr0 kr0 ?_
      refine d_rd 3 rfl (rd_load rfl rfl) rfl kr0 kr0 kr0 ?_
      refine d_pu 4 rfl (pu_fieldAddr0 rfl) kr0 kr0 kr0 ?_
      refine d_rd 5 rfl (rd_loadX rfl rfl rfl) rfl kr0 kr0 kr0 ?_
      refine d_fint 6 rfl kr0 kr0 (ef_fn (addcommit_spec μ sa Wa hA d hd (.slice cA c.1.length cc) c hop.cr) rfl rfl sp0) ?_
      rintro v168 L1 ⟨Wa', μ1, hqA, rfl⟩
      rw [hpa, hda] at hqA
      rw [hpa, hda]
      have hz1 := addC_ok (x := ⟨d, s, dead⟩) hd c
      have hz2 := addC_in (x := ⟨d, s, dead⟩) hw c
      have hz3 := addC_small (x := ⟨d, s, dead⟩) hsm c
      obtain ⟨l1, hA', q1, p1, d1, rfl⟩ := hqA
      refine swd_app ?_
      refine d_pu 7 rfl (pu_move rfl) kr0 kr0 kr0 ?_
      refine d_pu 8 rfl (pu_extractL rfl) kr0 kr0 kr0 ?_
      refine d_pu 9 rfl (pu_extractL rfl) kr0 kr0 kr0 ?_
      refine d_pu 10 rfl (pu_assign rfl) kr0 kr0 kr0 ?_
      refine d_pu 11 rfl (pu_assign rfl) kr0 kr0 kr0 ?_
      refine d_sub _ (sc0 0 rfl (sc0 3 rfl (sc0 10 rfl (sc0 11 rfl .nil)))) ?_
      refine d_nilf kr0 ?_
      refine then_n ?_
      refine swp_seq ?_
      refine swp_draw [3, 5] _ [] (by simp only [List.append_nil]; exact Ent.refl _) kr0 ?_
      refine d_pu 0 rfl (pu_move rfl) kr0 kr0 kr0 ?_
      refine d_pu 1 rfl (pu_nilCheck rfl) kr0 kr0 kr0 ?_
      refine d_pu 2 rfl (pu_fieldAddr0 rfl) kr0 kr0 kr0 ?_
      refine d_rd 3 rfl (rd_load rfl rfl) rfl kr0 kr0 kr0 ?_
      refine d_pu 4 rfl (pu_fieldAddr0 rfl) kr0 kr0 kr0 ?_
      refine d_rd 5 rfl (rd_loadX rfl rfl rfl) rfl kr0 kr0 kr0 ?_
      refine d_fint 6 rfl kr0 kr0 (ef_fn (raddcommit_spec μ1 sb Wb (hB.le l1) d hd m hw om0 (.slice cA c.1.length cc) c (hop.cr.le l1)) rfl rfl sp0) ?_
      rintro v178 L1 ⟨Wb', μ2, hqB, rfl⟩
      rw [hpb, hdb] at hqB
      rw [hpb, hdb]
      obtain ⟨l2, hB', q2, p2, d2, rfl⟩ := hqB
      refine swd_app ?_
      refine d_pu 7 rfl (pu_move rfl) kr0 kr0 kr0 ?_
      refine d_pu 8 rfl (pu_extractL rfl) kr0 kr0 kr0 ?_
      refine d_pu 9 rfl (pu_extractL rfl) kr0 kr0 kr0 ?_
      refine d_pu 10 rfl (pu_assign rfl) kr0 kr0 kr0 ?_
      refine d_pu 11 rfl (pu_assign rfl) kr0 kr0 kr0 ?_
      refine d_sub _ (sc0 10 rfl (sc0 11 rfl (sc0 12 rfl (sc0 13 rfl .nil)))) ?_
      refine d_nilf kr0 ?_
      refine then_n ?_
      refine swp_seq ?_
      generalize addC ⟨d, s, dead⟩ c = z at *
      refine swp_region ?_
      refine s_mv rfl ?_
      refine s_mv rfl ?_
      refine s_pu (pu_eql rfl rfl) ?_
      refine s_mv rfl ?_
      refine s_split 184 rfl (fun h184 => ?_) (fun h184 => by simp at h184)
      refine s_on rfl rfl ?_
      refine s_mv rfl ?_
      refine s_on rfl rfl ?_
      refine s_mv rfl ?_
      refine s_on rfl rfl ?_
      refine s_pu (pu_eql rfl rfl) ?_
      refine s_pu (pu_pick_t rfl rfl) ?_
      refine s_as rfl ?_
      refine swl_sub _ (sc0 4 rfl .nil) ?_
      refine swl_nn ?_
      refine swp_ret ?_
      refine done_retE [prA pp Wa.q Wb.q (svO (some (sa, Wa', sb, Wb'))) (wvO (some (sa, Wa', sb, Wb'))), FSA Wa.q z.1.d, RDA Wb.q z.1.d, stO (some (sa, Wa', sb, Wb')), ro μ2] (.tmp rfl .nil) ⟨by simp; rfl, z.1.d, some (z.1.s, z.1.dead), some (sa, Wa', sb, Wb'), μ2, l1.trans l2, hz1, hz2.mono om0, ⟨⟨hA'.le l2, hB', q1, q2, p1, p2, d1, d2⟩, hz3⟩, rfl⟩ ?_
      rw [← q1, ← q2]
      rw [show svO (some (sa, Wa', sb, Wb')) = pv sa from rfl, show wvO (some (sa, Wa', sb, Wb')) = pv sb from rfl]
      exact (Split.ent' (K := [stH sa Wa', ttA Wa', ccA Wa', rsH sb Wb', ttA Wb', ccA Wb', prA pp Wa'.q Wb'.q (pv sa) (pv sb), FSA Wa'.q z.1.d, RDA Wb'.q z.1.d, ro μ2]) sp0).trans two_close
end SX
namespace SX
open Go Go.Proofs
theorem rnewd_spec (q : Int) : Spec Tryz.prog 10 [.int .i64 q] [] (fun r L => (¬ newOk q ∧ r = .tuple #[.pointer none, .int .i64 1] ∧ L = []) ∨ (newOk q ∧ ∃ p, r = .tuple #[pv p, .int .i64 0] ∧ L = [RDA p (newD q)])) := rnew_spec q
theorem begun_good (μ : PH) (q : Int) (h : newOk q) : Spec Tryz.prog 28 [.int .i64 q] [ro μ] (fun r L => ∃ pp pd pr y o μ' d, Le μ μ' ∧ d.Ok ∧ Within 1 d ∧ OptOk μ' pd pr y o ∧ r = .tuple #[pv pp, .bool true] ∧ L = [prA pp pd pr (svO o) (wvO o), FSA pd d, RDA pr d, stO o, ro μ']) := by
 have hn0 := newD_ok h
 refine Spec.of 38 Tryz.func28 rfl rfl rfl ?_
 refine swp_sr ?_
 refine s_as rfl ?_
 refine s_as rfl ?_
 refine swl_sub _ (sc0 0 rfl .nil) ?_
 refine swl_nn ?_
 refine swp_sr ?_
 refine s_mv rfl ?_
 refine s_ef (ef_fn (new_spec q) rfl rfl sp0) ?_
 rintro v11 L1 hnw
 obtain ⟨pd, rfl, rfl⟩ : ∃ p, v11 = .tuple #[pv p, .int .i64 0] ∧ L1 = [FSA p (newD q)] := by
  rcases hnw with ⟨h', _⟩ | ⟨_, h⟩
  ·exact absurd h h'
  ·exact h
 refine swl_app ?_
 refine s_mv rfl ?_
 refine s_pu (pu_extractL rfl) ?_
 refine s_pu (pu_extractL rfl) ?_
 refine s_as rfl ?_
 refine s_as rfl ?_
 refine swl_sub _ (sc0 0 rfl (sc0 4 rfl (sc0 5 rfl .nil))) ?_
 refine swl_nn ?_
 refine swp_sr ?_
 refine s_mv rfl ?_
 refine s_ef (ef_fn (rnewd_spec q) rfl rfl sp0) ?_
 rintro v16 L1 hnr
 obtain ⟨pr, rfl, rfl⟩ : ∃ p, v16 = .tuple #[pv p, .int .i64 0] ∧ L1 = [RDA p (newD q)] := by
  rcases hnr with ⟨h', _⟩ | ⟨_, h⟩
  ·exact absurd h h'
  ·exact h
 refine swl_app ?_
 refine s_mv rfl ?_
 refine s_pu (pu_extractL rfl) ?_
 refine s_pu (pu_extractL rfl) ?_
 refine s_as rfl ?_
 refine s_as rfl ?_
 refine swl_sub _ (sc0 4 rfl (sc0 5 rfl (sc0 6 rfl (sc0 7 rfl .nil)))) ?_
 refine swl_nn ?_
 refine swp_seq ?_
 refine swp_sr ?_
 refine s_mv rfl ?_
 refine s_mv rfl ?_
 refine s_pu (pu_neq rfl rfl) ?_
 refine s_mv rfl ?_
 refine s_split 22 rfl (fun h22 => by cases h22) (fun h22 => ?_)
 refine s_on rfl rfl ?_
 refine s_mv rfl ?_
 refine s_on rfl rfl ?_
 refine s_pu (pu_ptr_eq_nil rfl rfl) ?_
 refine s_on rfl rfl ?_
 refine s_mv rfl ?_
 refine s_on rfl rfl ?_
 refine s_pu (pu_ptr_eq_nil rfl rfl) ?_
 refine s_on rfl rfl ?_
 refine s_pu (pu_bool_ne rfl rfl) ?_
 refine s_pu (pu_pick_f rfl rfl) ?_
 refine swl_sub _ (sc0 4 rfl (sc0 6 rfl (sc0 28 rfl .nil))) ?_
 refine swl_nn ?_
 refine swp_cond (b := _) rfl (fun h28 => by cases h28) (fun h28 => ?_)
 refine swp_skip ?_
 refine then_n ?_
 refine swp_seq ?_
 refine swp_sr ?_
 refine s_mv rfl ?_
 refine s_pu (pu_ptr_eq_nil rfl rfl) ?_
 refine swl_sub _ (sc0 4 rfl (sc0 6 rfl (sc0 30 rfl .nil))) ?_
 refine swl_nn ?_
 refine swp_cond (b := _) rfl (fun h30 => by cases h30) (fun h30 => ?_)
 refine swp_skip ?_
 refine then_n ?_
 refine swp_sr ?_
 refine s_mv rfl ?_
 refine s_mv rfl ?_
 refine s_pu (pu_bld (qs := [(0, _), (3, _)]) rfl) ?_
 refine s_ef (ef_box rfl rfl) ?_
 intro b34
 refine s_as rfl ?_
 refine swl_sub _ (sc0 8 rfl .nil) ?_
 refine swl_nn ?_
 refine swp_sr ?_
 refine s_mv rfl ?_
 refine s_mv rfl ?_
 refine s_ef (ef_fn (popen_spec μ b34 pd pr (.pointer none) (.pointer none) (newD q) hn0 0 ⟨Nat.le_refl _, Nat.le_refl _⟩ (by decide)) rfl rfl sp0) ?_
 rintro v37 L1 ⟨rfl, o, μ', hpo, rfl⟩
 refine swl_app ?_
 refine s_as rfl ?_
 refine s_as rfl ?_
 refine swl_sub _ (sc0 2 rfl (sc0 3 rfl .nil)) ?_
 refine swl_nn ?_
 refine swp_ret ?_
 obtain ⟨y, hy⟩ := hpo.opt
 exact done_ret [prA b34 pd pr (svO o) (wvO o), FSA pd (openD (newD q)).1, RDA pr (openD (newD q)).1, stO o, ro μ'] (.tmp rfl (.tmp rfl .nil)) ⟨b34, pd, pr, y, o, μ', (openD (newD q)).1, hpo.1, open_ok hn0, open_in (m := 0) ⟨Nat.le_refl _, Nat.le_refl _⟩, hy, rfl, rfl⟩ sp0
end SX
namespace SX
open Go Go.Proofs
abbrev logS : ByteArray := ⟨#[108, 111, 103]⟩
set_option maxHeartbeats 8000000 in
theorem storetorn_spec (μ : PH) (v0 : Value) (xs : List OpS) (s : ByteArray) (n : Int) (hrow0 : Row μ v0 7 xs.length (xs.flatMap oscs)) (hops : ∀ o ∈ xs, o.Ok μ) :
  Spec Tryz.prog 6 [v0, .string s, .int .i64 n] [ro μ] (fun r L => r = .bool true ∧ ∃ μ' R, Le μ μ' ∧ L = ro μ' :: R) := by
 obtain ⟨hl0, A, cap, rfl, hlc, hcm, hnil, hpos⟩ := hrow0
 obtain ⟨KK, hKK⟩ : ∃ K, K = min xs.length 100 := ⟨_, rfl⟩
 simp only [maxLen] at hcm
 refine Spec.of 78 Tryz.func6 rfl rfl rfl ?_
 refine swp_sr ?_
 refine s_as rfl ?_
 refine swl_sub _ (sc0 0 rfl (sc0 1 rfl (sc0 2 rfl .nil))) ?_
 refine swl_nn ?_
 refine swp_seq ?_
 refine swp_sr ?_
 refine s_ef (ef_fn opens_spec rfl rfl sp0) ?_
 rintro v11 L1 ⟨rfl, rfl⟩
 refine swl_app ?_
 refine s_pu (pu_not rfl) ?_
 refine swl_sub _ (sc0 0 rfl (sc0 1 rfl (sc0 2 rfl (sc0 12 rfl .nil)))) ?_
 refine swl_nn ?_
 refine swp_cond (b := _) rfl (fun h12 => by cases h12) (fun h12 => ?_)
 refine swp_skip ?_
 refine then_n ?_
 refine swp_sr ?_
 refine s_ef (ef_fn (begun_good μ 16777216 ⟨by decide, by decide⟩) rfl rfl sp0) ?_
 rintro v14 L1 ⟨pp, pd, pr, y0, o0, μ0, d0, l0, hd0, hw0, ho0, rfl, rfl⟩
 refine swl_app ?_
 refine s_mv rfl ?_
 refine s_pu (pu_extractL rfl) ?_
 refine s_pu (pu_extractL rfl) ?_
 refine s_as rfl ?_
 refine s_as rfl ?_
 refine swl_sub _ (sc0 0 rfl (sc0 1 rfl (sc0 2 rfl (sc0 7 rfl (sc0 8 rfl .nil))))) ?_
 refine swl_nn ?_
 refine swp_seq ?_
 refine swp_sr ?_
 refine s_mv rfl ?_
 refine s_pu (pu_ptr_eq_nil rfl rfl) ?_
 refine s_mv rfl ?_
 refine s_split 19 rfl (fun h19 => by cases h19) (fun h19 => ?_)
 refine s_on rfl rfl ?_
 refine s_mv rfl ?_
 refine s_on rfl rfl ?_
 refine s_pu (pu_not rfl) ?_
 refine s_pu (pu_pick_f rfl rfl) ?_
 refine swl_sub _ (sc0 0 rfl (sc0 1 rfl (sc0 2 rfl (sc0 7 rfl (sc0 22 rfl .nil))))) ?_
 refine swl_nn ?_
 refine swp_cond (b := _) rfl (fun h22 => by cases h22) (fun h22 => ?_)
 refine swp_skip ?_
 refine then_n ?_
 refine swp_seq ?_
 refine swp_sr ?_
 refine s_mv rfl ?_
 refine s_mv rfl ?_
 refine s_pu (pu_len rfl) ?_
 refine s_pu (pu_min2 rfl rfl) ?_
 refine s_pu (pu_slice_hi KK rfl rfl (by rw [hKK]; omega) (by rw [hKK]; omega)) ?_
 refine s_pu (pu_len rfl) ?_
 refine s_mv rfl ?_
 refine swl_sub _ (sc0 1 rfl (sc0 2 rfl (sc0 7 rfl (sc0 27 rfl (sc0 28 rfl (sc0 29 rfl .nil)))))) ?_
 refine swl_nn ?_
 refine swp_block ?_
 refine swp_loop (ι := Nat) (fun i env L => ∃ (d : Dk) (μ2 : PH) (y : Option (St2 × Bool)) (o : Option Two), Sub env [(1, .string s), (2, .int .i64 n), (7, pv pp), (27, .slice A KK cap), (28, .int .i64 (KK : Nat)), (29, .int .i64 (i : Nat))] ∧ Ent L [prA pp pd pr (svO o) (wvO o), FSA pd d, RDA pr d, stO o, ro μ2] ∧ i ≤ KK ∧ Le μ μ2 ∧ d.Ok ∧ Within (1 + 4 * i) d ∧ OptOk μ2 pd pr y o) (fun i => KK - i) 0 ⟨d0, μ0, y0, o0, ⟨rfl, rfl, rfl, rfl, rfl, rfl, trivial⟩, Split.ent' sp0, Nat.zero_le _, l0, hd0, hw0, ho0⟩ ?_
 rintro i env L ⟨d, μ2, y, o, hsub, hE, hi, hle, hok, hw, ho⟩
 refine swp_sub _ hsub ?_
 refine swp_ent hE ?_
 clear hsub hE env L
 refine swp_sr ?_
 refine s_pu (pu_lss rfl rfl) ?_
 refine swl_sub _ (sc0 1 rfl (sc0 2 rfl (sc0 7 rfl (sc0 27 rfl (sc0 28 rfl (sc0 29 rfl (sc0 30 rfl .nil))))))) ?_
 refine swl_nn ?_
 refine swp_seq ?_
 refine swp_cond (b := _) rfl (fun h30 => ?_) (fun h30 => ?_)
 ·skip
  have h32' : i < KK := by have := of_decide_eq_true h30; omega
  have hix : i < xs.length := by omega
  obtain ⟨b, off, hA, hra⟩ := hpos om0
  subst hA
  obtain ⟨op, hq⟩ : ∃ op, xs[i]? = some op := ⟨_, List.getElem?_eq_getElem hix⟩
  have hel := (hra.elem (f := oscs) (n := 7) (fun _ => rfl) hq).le hle
  have hop := (hops op (List.mem_of_getElem? hq)).le hle
  have hk8 := hop.kd
  obtain ⟨tA, tc, htv⟩ := hop.tr.sl
  obtain ⟨cA, cc, hcv⟩ := hop.cr.sl
  obtain ⟨kA, kc, hkv⟩ := hop.kr.sl
  obtain ⟨kind, tv, t, cv, c, n1, fn, kv, keep⟩ := op
  dsimp only at htv hcv hkv hk8
  subst htv hcv hkv
  simp only [oscs] at hel
  refine swp_skip ?_
  refine then_n ?_
  refine swp_seq ?_
  refine swp_block ?_
  refine swp_sr ?_
  refine s_pu (pu_indexAddr (off + i * 7) rfl rfl om0 om0 (by rw [Int.toNat_natCast])) ?_
  refine s_rd (rd_roA rfl rfl hel) ?_
  refine s_ef (ef_alloc) ?_
  intro b10
  refine s_ef0 (ef_storeA rfl rfl rfl rfl) ?_
  refine swl_sub _ (sc0 1 rfl (sc0 2 rfl (sc0 7 rfl (sc0 10 rfl (sc0 27 rfl (sc0 28 rfl (sc0 29 rfl .nil))))))) ?_
  refine swl_nn ?_
  refine swp_sr ?_
  refine s_pu (pu_fieldAddr0 rfl) ?_
  refine s_rd (rd_load rfl rfl) ?_
  refine s_pu (pu_rem_nat (a := kind) (b := 8) rfl rfl (by decide)) ?_
  refine s_pu (pu_lss rfl rfl) ?_
  refine s_mv rfl ?_
  refine s_split 37 rfl (fun h37 => ?_) (fun h37 => ?_)
  ·skip
   refine s_on rfl rfl ?_
   refine s_mv rfl ?_
   refine s_on rfl rfl ?_
   refine s_rd (rd_loadW rfl rfl) ?_
   refine s_on rfl rfl ?_
   refine s_ef (ef_fn (pstep_spec μ2 pp pd pr o d hok (1 + 4 * i) hw om0 y ho ⟨kind, .slice tA t.length tc, t, .slice cA c.1.length cc, c, n1, fn, .slice kA keep.length kc, keep⟩ hop) rfl rfl sp0) ?_
   rintro v40 L1 ⟨rfl, d3, y3, o3, μ3, l3, hd3, hw3, ho3, rfl⟩
   refine swl_app ?_
   refine s_on rfl rfl ?_
   refine s_pu (pu_not rfl) ?_
   refine s_pu (pu_pick_t rfl rfl) ?_
   refine swl_sub _ (sc0 1 rfl (sc0 2 rfl (sc0 7 rfl (sc0 27 rfl (sc0 28 rfl (sc0 29 rfl (sc0 42 rfl .nil))))))) ?_
   refine swl_nn ?_
   refine swp_cond (b := _) rfl (fun h42 => by cases h42) (fun h42 => ?_)
   refine swp_skip ?_
   refine block_n ?_
   refine then_n ?_
   refine swp_region ?_
   refine s_pu (pu_add_as ((i + 1 : Nat) : Int) rfl rfl om0 om0 om0) ?_
   refine s_mv rfl ?_
   refine swl_sub _ (sc0 1 rfl (sc0 2 rfl (sc0 7 rfl (sc0 27 rfl (sc0 28 rfl (sc0 29 rfl .nil)))))) ?_
   refine swl_nil ?_
   exact then_n ⟨i + 1, ⟨d3, μ3, y3, o3, ⟨rfl, rfl, rfl, rfl, rfl, rfl, trivial⟩, Split.ent' sp0, h32', hle.trans l3, hd3, hw3.mono om0, ho3⟩, by omega⟩
  ·skip
   refine s_off rfl rfl rfl ?_
   refine s_off rfl rfl rfl ?_
   refine s_off rfl rfl rfl ?_
   refine s_off rfl rfl rfl ?_
   refine s_pu (pu_pick_f rfl rfl) ?_
   refine swl_sub _ (sc0 1 rfl (sc0 2 rfl (sc0 7 rfl (sc0 27 rfl (sc0 28 rfl (sc0 29 rfl (sc0 42 rfl .nil))))))) ?_
   refine swl_nn ?_
   refine swp_cond (b := _) rfl (fun h42 => by cases h42) (fun h42 => ?_)
   refine swp_skip ?_
   refine block_n ?_
   refine then_n ?_
   refine swp_region ?_
   refine s_pu (pu_add_as ((i + 1 : Nat) : Int) rfl rfl om0 om0 om0) ?_
   refine s_mv rfl ?_
   refine swl_sub _ (sc0 1 rfl (sc0 2 rfl (sc0 7 rfl (sc0 27 rfl (sc0 28 rfl (sc0 29 rfl .nil)))))) ?_
   refine swl_nil ?_
   exact then_n ⟨i + 1, ⟨d, μ2, y, o, ⟨rfl, rfl, rfl, rfl, rfl, rfl, trivial⟩, Split.ent' sp0, h32', hle, hok, hw.mono om0, ho⟩, by omega⟩
 ·skip
  have h30' := of_decide_eq_false h30
  refine swp_exit ?_
  refine then_x ?_
  refine then_x ?_
  refine block_hit rfl ?_
  refine then_n ?_
  refine swp_seq ?_
  refine swp_seq ?_
  refine swp_draw [7, 14] ([prA pp pd pr (svO o) (wvO o)]) ([FSA pd d, RDA pr d, stO o, ro μ2]) (Split.ent sp0) kr0 ?_
  refine d_pu 0 rfl (pu_move rfl) kr0 kr0 kr0 ?_
  refine d_pu 1 rfl (pu_strlen rfl) kr0 kr0 kr0 ?_
  refine d_pu 2 rfl (pu_lss rfl rfl) kr0 kr0 kr0 ?_
  refine d_pu 3 rfl (pu_move rfl) kr0 kr0 kr0 ?_
  refine d_split 47 rfl (fun h47 => ?_) (fun h47 => ?_)
  ·skip
   have h47' := of_decide_eq_true h47
   refine d_pu_on 4 rfl rfl rfl (pu_move rfl) kr0 kr0 kr0 ?_
   refine d_pu_on 5 rfl rfl rfl (pu_nilCheck rfl) kr0 kr0 kr0 ?_
   refine d_pu_on 6 rfl rfl rfl (pu_fieldAddr0 rfl) kr0 kr0 kr0 ?_
   refine d_rd_on 7 rfl rfl rfl (rd_load rfl rfl) rfl kr0 kr0 kr0 ?_
   refine d_pu_on 8 rfl rfl rfl (pu_move rfl) kr0 kr0 kr0 ?_
   refine d_pu_on 9 rfl rfl rfl (pu_move rfl) kr0 kr0 kr0 ?_
   refine d_pu_on 11 rfl rfl rfl (pu_move rfl) kr0 kr0 kr0 ?_
   refine d_pu_on 12 rfl rfl rfl (pu_nilCheck rfl) kr0 kr0 kr0 ?_
   refine d_pu_on 13 rfl rfl rfl (pu_fieldAddr0 rfl) kr0 kr0 kr0 ?_
   refine d_rd_on 14 rfl rfl rfl (rd_load rfl rfl) rfl kr0 kr0 kr0 ?_
   refine d_pu_on 15 rfl rfl rfl (pu_move rfl) kr0 kr0 kr0 ?_
   refine d_pu_on 16 rfl rfl rfl (pu_move rfl) kr0 kr0 kr0 ?_
   refine d_amb [10] kr0 rfl ?_
   refine dA_ef 10 rfl (GOn.some rfl rfl) (ef_fn (damage_spec pd d hok logS n s om0) rfl rfl sp0) ?_
   rintro v54 L1 ⟨rfl, rfl⟩
   refine ⟨_, ent_appC (Split.ent sp0), ?_⟩
   refine d_amb [17] kr0 rfl ?_
   refine dA_fint 17 rfl (GOn.some rfl rfl) kr0 (ef_fn (rdamage_spec pr d hok (few_of hw om0) logS n s om0) rfl rfl sp0) ?_
   rintro v61 L1 ⟨rfl, rfl⟩
   refine swd_app ?_
   refine d_pu_on 18 rfl rfl rfl (pu_neq rfl rfl) kr0 kr0 kr0 ?_
   refine d_pu 19 rfl (pu_pick_t rfl rfl) kr0 kr0 kr0 ?_
   refine d_sub _ (sc0 7 rfl (sc0 63 rfl .nil)) ?_
   refine d_nilf kr0 ?_
   refine then_n ?_
   refine swp_cond (b := _) rfl (fun h63 => by simp at h63) (fun h63 => ?_)
   have hd5 := damageD_ok hok logS n s.data.toList
   have hw5 := damageD_in hw logS n s.data.toList
   generalize (damageD d logS n s.data.toList).1 = d5 at *
   refine swp_skip ?_
   refine then_n ?_
   refine swp_sr ?_
   refine s_mv rfl ?_
   refine s_ef (ef_fn (popen_spec μ2 pp pd pr (svO o) (wvO o) d5 hd5 (1 + 4 * i) hw5 om0) rfl rfl sp0) ?_
   rintro v65 L1 ⟨rfl, o2, μ3, hpo, rfl⟩
   obtain ⟨y2, hy2⟩ := hpo.opt
   have l3 := hpo.1
   have hd6 := open_ok hd5
   have hw6 := open_in hw5
   generalize (openD d5).1 = d6 at hd6 hw6 ⊢
   refine swl_app ?_
   refine s_mv rfl ?_
   refine s_split 66 rfl (fun h66 => ?_) (fun h66 => by cases h66)
   refine s_on rfl rfl ?_
   refine s_mv rfl ?_
   refine s_on rfl rfl ?_
   refine s_ef (ef_fn (ptold_spec μ3 pp pd pr o2 d6 hd6 (1 + 4 * i + 1) hw6 om0 y2 hy2) rfl rfl sp0) ?_
   rintro v68 L1 ⟨rfl, μ4, l4, rfl⟩
   refine swl_app ?_
   refine s_pu (pu_pick_t rfl rfl) ?_
   refine s_mv rfl ?_
   refine s_split 70 rfl (fun h70 => ?_) (fun h70 => by cases h70)
   refine s_on rfl rfl ?_
   refine s_mv rfl ?_
   refine s_on rfl rfl ?_
   refine s_ef (ef_fn (popen_spec μ4 pp pd pr (svO o2) (wvO o2) d6 hd6 (1 + 4 * i + 1) hw6 om0) rfl rfl sp0) ?_
   rintro v72 L1 ⟨rfl, o3, μ5, hpo3, rfl⟩
   obtain ⟨y3, hy3⟩ := hpo3.opt
   have l5 := hpo3.1
   refine swl_app ?_
   refine s_pu (pu_pick_t rfl rfl) ?_
   refine s_mv rfl ?_
   refine s_split 74 rfl (fun h74 => ?_) (fun h74 => by cases h74)
   refine s_on rfl rfl ?_
   refine s_mv rfl ?_
   refine s_on rfl rfl ?_
   refine s_ef (ef_fn (ptold_spec μ5 pp pd pr o3 (openD d6).1 (open_ok hd6) (1 + 4 * i + 1 + 1) (open_in hw6) om0 y3 hy3) rfl rfl sp0) ?_
   rintro v76 L1 ⟨rfl, μ6, l6, rfl⟩
   refine swl_app ?_
   refine s_pu (pu_pick_t rfl rfl) ?_
   refine s_as rfl ?_
   refine swl_sub _ (sc0 6 rfl .nil) ?_
   refine swl_nn ?_
   refine swp_ret ?_
   exact done_retE [ro μ6] (.tmp rfl .nil) ⟨rfl, μ6, [], hle.trans (l3.trans (l4.trans (l5.trans l6))), rfl⟩ (Split.ent' sp0)
  ·skip
   refine d_off 4 rfl rfl rfl rfl kr0 kr0 kr0 ?_
   refine d_off 5 rfl rfl rfl rfl kr0 kr0 kr0 ?_
   refine d_off 6 rfl rfl rfl rfl kr0 kr0 kr0 ?_
   refine d_off 7 rfl rfl rfl rfl kr0 kr0 kr0 ?_
   refine d_off 8 rfl rfl rfl rfl kr0 kr0 kr0 ?_
   refine d_off 9 rfl rfl rfl rfl kr0 kr0 kr0 ?_
   refine d_off 10 rfl rfl rfl rfl kr0 kr0 kr0 ?_
   refine d_off 11 rfl rfl rfl rfl kr0 kr0 kr0 ?_
   refine d_off 12 rfl rfl rfl rfl kr0 kr0 kr0 ?_
   refine d_off 13 rfl rfl rfl rfl kr0 kr0 kr0 ?_
   refine d_off 14 rfl rfl rfl rfl kr0 kr0 kr0 ?_
   refine d_off 15 rfl rfl rfl rfl kr0 kr0 kr0 ?_
   refine d_off 16 rfl rfl rfl rfl kr0 kr0 kr0 ?_
   refine d_off 17 rfl rfl rfl rfl kr0 kr0 kr0 ?_
   refine d_off 18 rfl rfl rfl rfl kr0 kr0 kr0 ?_
   refine d_pu 19 rfl (pu_pick_f rfl rfl) kr0 kr0 kr0 ?_
   refine d_sub _ (sc0 7 rfl (sc0 63 rfl .nil)) ?_
   refine d_nilt kr0 ?_
   refine then_n ?_
   refine swp_cond (b := _) rfl (fun h63 => by cases h63) (fun h63 => ?_)
   have hd5 := hok
   have hw5 := hw
   generalize d = d5 at *
   refine swp_skip ?_
   refine then_n ?_
   refine swp_sr ?_
   refine s_mv rfl ?_
   refine s_ef (ef_fn (popen_spec μ2 pp pd pr (svO o) (wvO o) d5 hd5 (1 + 4 * i) hw5 om0) rfl rfl sp0) ?_
   rintro v65 L1 ⟨rfl, o2, μ3, hpo, rfl⟩
   obtain ⟨y2, hy2⟩ := hpo.opt
   have l3 := hpo.1
   have hd6 := open_ok hd5
   have hw6 := open_in hw5
   generalize (openD d5).1 = d6 at hd6 hw6 ⊢
   refine swl_app ?_
   refine s_mv rfl ?_
   refine s_split 66 rfl (fun h66 => ?_) (fun h66 => by cases h66)
   refine s_on rfl rfl ?_
   refine s_mv rfl ?_
   refine s_on rfl rfl ?_
   refine s_ef (ef_fn (ptold_spec μ3 pp pd pr o2 d6 hd6 (1 + 4 * i + 1) hw6 om0 y2 hy2) rfl rfl sp0) ?_
   rintro v68 L1 ⟨rfl, μ4, l4, rfl⟩
   refine swl_app ?_
   refine s_pu (pu_pick_t rfl rfl) ?_
   refine s_mv rfl ?_
   refine s_split 70 rfl (fun h70 => ?_) (fun h70 => by cases h70)
   refine s_on rfl rfl ?_
   refine s_mv rfl ?_
   refine s_on rfl rfl ?_
   refine s_ef (ef_fn (popen_spec μ4 pp pd pr (svO o2) (wvO o2) d6 hd6 (1 + 4 * i + 1) hw6 om0) rfl rfl sp0) ?_
   rintro v72 L1 ⟨rfl, o3, μ5, hpo3, rfl⟩
   obtain ⟨y3, hy3⟩ := hpo3.opt
   have l5 := hpo3.1
   refine swl_app ?_
   refine s_pu (pu_pick_t rfl rfl) ?_
   refine s_mv rfl ?_
   refine s_split 74 rfl (fun h74 => ?_) (fun h74 => by cases h74)
   refine s_on rfl rfl ?_
   refine s_mv rfl ?_
   refine s_on rfl rfl ?_
   refine s_ef (ef_fn (ptold_spec μ5 pp pd pr o3 (openD d6).1 (open_ok hd6) (1 + 4 * i + 1 + 1) (open_in hw6) om0 y3 hy3) rfl rfl sp0) ?_
   rintro v76 L1 ⟨rfl, μ6, l6, rfl⟩
   refine swl_app ?_
   refine s_pu (pu_pick_t rfl rfl) ?_
   refine s_as rfl ?_
   refine swl_sub _ (sc0 6 rfl .nil) ?_
   refine swl_nn ?_
   refine swp_ret ?_
   exact done_retE [ro μ6] (.tmp rfl .nil) ⟨rfl, μ6, [], hle.trans (l3.trans (l4.trans (l5.trans l6))), rfl⟩ (Split.ent' sp0)
end SX
