/- A part of the proof: walks of the program's functions, and the rules by which they go. -/
import Derived.Test.YtengmoolldljmaaBad430560
import Derived.Test.YtengmoolldljmaaBd6f8e813
namespace SX
open Go Go.Proofs
set_option maxHeartbeats 8000000 in
theorem rcopy_spec (p : Nat) (d : Dk) (hd : d.Ok) (hw : Few d) : Spec Try.prog 28 [pv p] [RDA p d] (fun r L => ∃ q, r = pv q ∧ L = [RDA p d, RDA q d]) := by
  have hff := hw.1
  have hpp := hw.2
  have hsl := hd.seenLe
  have hal : d.safe.length ≤ 64 := hd.hist 0
  refine RDA.open' fun ⟨fv, sv, av, wv⟩ => ?_
  dsimp only
  refine Spec.of 67 Try.func28 rfl rfl rfl ?_
  refine swp_seq ?_
  refine swp_region ?_
  refine s_pu (pu_assign rfl) ?_
  refine swl_sub _ (.cons (t := 0) rfl .nil) ?_
  refine swl_nil ?_
  refine then_n ?_
  refine swp_seq ?_
  refine swp_draw [3, 7, 11] _ [] (by simp only [List.append_nil]; exact Ent.refl _) (by kernel_rfl) ?_
  refine d_pu 0 rfl (pu_move rfl) (by kernel_rfl) (by kernel_rfl) (by kernel_rfl) ?_
  first | refine d_pu 1 rfl (pu_nilCheck rfl) (by kernel_rfl) (by kernel_rfl) (by kernel_rfl) ?_ | refine d_pu 1 rfl (pu_nilCheck_fn rfl) (by kernel_rfl) (by kernel_rfl) (by kernel_rfl) ?_ | refine d_pu 1 rfl (pu_nilCheck_if rfl) (by kernel_rfl) (by kernel_rfl) (by kernel_rfl) ?_
  first | refine d_pu 2 rfl (pu_fieldAddr0 rfl) (by kernel_rfl) (by kernel_rfl) (by kernel_rfl) ?_ | refine d_pu 2 rfl (pu_fieldAddr rfl) (by kernel_rfl) (by kernel_rfl) (by kernel_rfl) ?_
  refine d_rd 3 rfl (rd_load rfl rfl) rfl (by kernel_rfl) (by kernel_rfl) (by kernel_rfl) ?_
  refine d_pu 4 rfl (pu_move rfl) (by kernel_rfl) (by kernel_rfl) (by kernel_rfl) ?_
  first | refine d_pu 5 rfl (pu_nilCheck rfl) (by kernel_rfl) (by kernel_rfl) (by kernel_rfl) ?_ | refine d_pu 5 rfl (pu_nilCheck_fn rfl) (by kernel_rfl) (by kernel_rfl) (by kernel_rfl) ?_ | refine d_pu 5 rfl (pu_nilCheck_if rfl) (by kernel_rfl) (by kernel_rfl) (by kernel_rfl) ?_
  first | refine d_pu 6 rfl (pu_fieldAddr0 rfl) (by kernel_rfl) (by kernel_rfl) (by kernel_rfl) ?_ | refine d_pu 6 rfl (pu_fieldAddr rfl) (by kernel_rfl) (by kernel_rfl) (by kernel_rfl) ?_
  refine d_rd 7 rfl (rd_load rfl rfl) rfl (by kernel_rfl) (by kernel_rfl) (by kernel_rfl) ?_
  refine d_pu 8 rfl (pu_move rfl) (by kernel_rfl) (by kernel_rfl) (by kernel_rfl) ?_
  first | refine d_pu 9 rfl (pu_nilCheck rfl) (by kernel_rfl) (by kernel_rfl) (by kernel_rfl) ?_ | refine d_pu 9 rfl (pu_nilCheck_fn rfl) (by kernel_rfl) (by kernel_rfl) (by kernel_rfl) ?_ | refine d_pu 9 rfl (pu_nilCheck_if rfl) (by kernel_rfl) (by kernel_rfl) (by kernel_rfl) ?_
  first | refine d_pu 10 rfl (pu_fieldAddr0 rfl) (by kernel_rfl) (by kernel_rfl) (by kernel_rfl) ?_ | refine d_pu 10 rfl (pu_fieldAddr rfl) (by kernel_rfl) (by kernel_rfl) (by kernel_rfl) ?_
  refine d_rd 11 rfl (rd_load rfl rfl) rfl (by kernel_rfl) (by kernel_rfl) (by kernel_rfl) ?_
  refine d_pu 12 rfl (pu_bld (qs := [(0, _), (5, _), (6, _)]) rfl) (by kernel_rfl) (by kernel_rfl) (by kernel_rfl) ?_
  first | refine d_fint 13 rfl (by kernel_rfl) (by kernel_rfl) (ef_box rfl rfl) ?_ | refine d_finf 13 rfl (by kernel_rfl) (by kernel_rfl) (ef_box rfl rfl) ?_
  intro b17
  refine d_pu 14 rfl (pu_assign rfl) (by kernel_rfl) (by kernel_rfl) (by kernel_rfl) ?_
  refine d_sub _ (.cons (t := 0) rfl (.cons (t := 3) rfl .nil)) ?_
  first | refine d_nilt (by kernel_rfl) ?_ | refine d_nilf (by kernel_rfl) ?_
  refine then_n ?_
  refine swp_seq ?_
  refine swp_ent (own_nil_ent (e := 99) (n := 2)) ?_
  refine swp_draw [4, 8] _ [] (by simp only [List.append_nil]; exact Ent.refl _) (by kernel_rfl) ?_
  refine d_pu 0 rfl (pu_move rfl) (by kernel_rfl) (by kernel_rfl) (by kernel_rfl) ?_
  refine d_pu 1 rfl (pu_move rfl) (by kernel_rfl) (by kernel_rfl) (by kernel_rfl) ?_
  first | refine d_pu 2 rfl (pu_nilCheck rfl) (by kernel_rfl) (by kernel_rfl) (by kernel_rfl) ?_ | refine d_pu 2 rfl (pu_nilCheck_fn rfl) (by kernel_rfl) (by kernel_rfl) (by kernel_rfl) ?_ | refine d_pu 2 rfl (pu_nilCheck_if rfl) (by kernel_rfl) (by kernel_rfl) (by kernel_rfl) ?_
  first | refine d_pu 3 rfl (pu_fieldAddr0 rfl) (by kernel_rfl) (by kernel_rfl) (by kernel_rfl) ?_ | refine d_pu 3 rfl (pu_fieldAddr rfl) (by kernel_rfl) (by kernel_rfl) (by kernel_rfl) ?_
  refine d_rd 4 rfl (rd_load rfl rfl) rfl (by kernel_rfl) (by kernel_rfl) (by kernel_rfl) ?_
  refine d_pu 5 rfl (pu_move rfl) (by kernel_rfl) (by kernel_rfl) (by kernel_rfl) ?_
  first | refine d_pu 6 rfl (pu_nilCheck rfl) (by kernel_rfl) (by kernel_rfl) (by kernel_rfl) ?_ | refine d_pu 6 rfl (pu_nilCheck_fn rfl) (by kernel_rfl) (by kernel_rfl) (by kernel_rfl) ?_ | refine d_pu 6 rfl (pu_nilCheck_if rfl) (by kernel_rfl) (by kernel_rfl) (by kernel_rfl) ?_
  first | refine d_pu 7 rfl (pu_fieldAddr0 rfl) (by kernel_rfl) (by kernel_rfl) (by kernel_rfl) ?_ | refine d_pu 7 rfl (pu_fieldAddr rfl) (by kernel_rfl) (by kernel_rfl) (by kernel_rfl) ?_
  refine d_rd 8 rfl (rd_load rfl rfl) rfl (by kernel_rfl) (by kernel_rfl) (by kernel_rfl) ?_
  first | refine d_fint 9 rfl (by kernel_rfl) (by kernel_rfl) (ef_append_own (s := fv) rfl rfl (by repeat (first | exact Split.nil | (apply Split.cons; (repeat (first | with_reducible exact Take.here | apply Take.there))))) (flat_one (fun _ => rfl) _) (by simp only [maxLen]; omega) (by omega)) ?_ | refine d_finf 9 rfl (by kernel_rfl) (by kernel_rfl) (ef_append_own (s := fv) rfl rfl (by repeat (first | exact Split.nil | (apply Split.cons; (repeat (first | with_reducible exact Take.here | apply Take.there))))) (flat_one (fun _ => rfl) _) (by simp only [maxLen]; omega) (by omega)) ?_
  rintro A2 c2
  rw [Nat.zero_add, List.nil_append]
  skip
  first | refine d_pu 10 rfl (pu_nilCheck rfl) (by kernel_rfl) (by kernel_rfl) (by kernel_rfl) ?_ | refine d_pu 10 rfl (pu_nilCheck_fn rfl) (by kernel_rfl) (by kernel_rfl) (by kernel_rfl) ?_ | refine d_pu 10 rfl (pu_nilCheck_if rfl) (by kernel_rfl) (by kernel_rfl) (by kernel_rfl) ?_
  first | refine d_pu 11 rfl (pu_fieldAddr0 rfl) (by kernel_rfl) (by kernel_rfl) (by kernel_rfl) ?_ | refine d_pu 11 rfl (pu_fieldAddr rfl) (by kernel_rfl) (by kernel_rfl) (by kernel_rfl) ?_
  first | refine d_fin0t 12 rfl (by kernel_rfl) (by kernel_rfl) (ef_store rfl rfl rfl) ?_ | refine d_fin0f 12 rfl (by kernel_rfl) (by kernel_rfl) (ef_store rfl rfl rfl) ?_
  refine d_sub _ (.cons (t := 0) rfl (.cons (t := 3) rfl .nil)) ?_
  first | refine d_nilt (by kernel_rfl) ?_ | refine d_nilf (by kernel_rfl) ?_
  refine then_n ?_
  refine swp_seq ?_
  refine swp_ent (own_nil_ent (e := 97) (n := 2)) ?_
  refine swp_draw [4, 8] _ [] (by simp only [List.append_nil]; exact Ent.refl _) (by kernel_rfl) ?_
  refine d_pu 0 rfl (pu_move rfl) (by kernel_rfl) (by kernel_rfl) (by kernel_rfl) ?_
  refine d_pu 1 rfl (pu_move rfl) (by kernel_rfl) (by kernel_rfl) (by kernel_rfl) ?_
  first | refine d_pu 2 rfl (pu_nilCheck rfl) (by kernel_rfl) (by kernel_rfl) (by kernel_rfl) ?_ | refine d_pu 2 rfl (pu_nilCheck_fn rfl) (by kernel_rfl) (by kernel_rfl) (by kernel_rfl) ?_ | refine d_pu 2 rfl (pu_nilCheck_if rfl) (by kernel_rfl) (by kernel_rfl) (by kernel_rfl) ?_
  first | refine d_pu 3 rfl (pu_fieldAddr0 rfl) (by kernel_rfl) (by kernel_rfl) (by kernel_rfl) ?_ | refine d_pu 3 rfl (pu_fieldAddr rfl) (by kernel_rfl) (by kernel_rfl) (by kernel_rfl) ?_
  refine d_rd 4 rfl (rd_load rfl rfl) rfl (by kernel_rfl) (by kernel_rfl) (by kernel_rfl) ?_
  refine d_pu 5 rfl (pu_move rfl) (by kernel_rfl) (by kernel_rfl) (by kernel_rfl) ?_
  first | refine d_pu 6 rfl (pu_nilCheck rfl) (by kernel_rfl) (by kernel_rfl) (by kernel_rfl) ?_ | refine d_pu 6 rfl (pu_nilCheck_fn rfl) (by kernel_rfl) (by kernel_rfl) (by kernel_rfl) ?_ | refine d_pu 6 rfl (pu_nilCheck_if rfl) (by kernel_rfl) (by kernel_rfl) (by kernel_rfl) ?_
  first | refine d_pu 7 rfl (pu_fieldAddr0 rfl) (by kernel_rfl) (by kernel_rfl) (by kernel_rfl) ?_ | refine d_pu 7 rfl (pu_fieldAddr rfl) (by kernel_rfl) (by kernel_rfl) (by kernel_rfl) ?_
  refine d_rd 8 rfl (rd_load rfl rfl) rfl (by kernel_rfl) (by kernel_rfl) (by kernel_rfl) ?_
  first | refine d_fint 9 rfl (by kernel_rfl) (by kernel_rfl) (ef_append_own (s := sv) rfl rfl (by repeat (first | exact Split.nil | (apply Split.cons; (repeat (first | with_reducible exact Take.here | apply Take.there))))) (flat_one (fun _ => rfl) _) (by simp only [maxLen]; omega) (by omega)) ?_ | refine d_finf 9 rfl (by kernel_rfl) (by kernel_rfl) (ef_append_own (s := sv) rfl rfl (by repeat (first | exact Split.nil | (apply Split.cons; (repeat (first | with_reducible exact Take.here | apply Take.there))))) (flat_one (fun _ => rfl) _) (by simp only [maxLen]; omega) (by omega)) ?_
  rintro A3 c3
  rw [Nat.zero_add, List.nil_append]
  skip
  first | refine d_pu 10 rfl (pu_nilCheck rfl) (by kernel_rfl) (by kernel_rfl) (by kernel_rfl) ?_ | refine d_pu 10 rfl (pu_nilCheck_fn rfl) (by kernel_rfl) (by kernel_rfl) (by kernel_rfl) ?_ | refine d_pu 10 rfl (pu_nilCheck_if rfl) (by kernel_rfl) (by kernel_rfl) (by kernel_rfl) ?_
  first | refine d_pu 11 rfl (pu_fieldAddr0 rfl) (by kernel_rfl) (by kernel_rfl) (by kernel_rfl) ?_ | refine d_pu 11 rfl (pu_fieldAddr rfl) (by kernel_rfl) (by kernel_rfl) (by kernel_rfl) ?_
  first | refine d_fin0t 12 rfl (by kernel_rfl) (by kernel_rfl) (ef_store rfl rfl rfl) ?_ | refine d_fin0f 12 rfl (by kernel_rfl) (by kernel_rfl) (ef_store rfl rfl rfl) ?_
  refine d_sub _ (.cons (t := 0) rfl (.cons (t := 3) rfl .nil)) ?_
  first | refine d_nilt (by kernel_rfl) ?_ | refine d_nilf (by kernel_rfl) ?_
  refine then_n ?_
  refine swp_seq ?_
  refine swp_ent (own_nil_ent (e := 97) (n := 2)) ?_
  refine swp_draw [4, 8] _ [] (by simp only [List.append_nil]; exact Ent.refl _) (by kernel_rfl) ?_
  refine d_pu 0 rfl (pu_move rfl) (by kernel_rfl) (by kernel_rfl) (by kernel_rfl) ?_
  refine d_pu 1 rfl (pu_move rfl) (by kernel_rfl) (by kernel_rfl) (by kernel_rfl) ?_
  first | refine d_pu 2 rfl (pu_nilCheck rfl) (by kernel_rfl) (by kernel_rfl) (by kernel_rfl) ?_ | refine d_pu 2 rfl (pu_nilCheck_fn rfl) (by kernel_rfl) (by kernel_rfl) (by kernel_rfl) ?_ | refine d_pu 2 rfl (pu_nilCheck_if rfl) (by kernel_rfl) (by kernel_rfl) (by kernel_rfl) ?_
  first | refine d_pu 3 rfl (pu_fieldAddr0 rfl) (by kernel_rfl) (by kernel_rfl) (by kernel_rfl) ?_ | refine d_pu 3 rfl (pu_fieldAddr rfl) (by kernel_rfl) (by kernel_rfl) (by kernel_rfl) ?_
  refine d_rd 4 rfl (rd_load rfl rfl) rfl (by kernel_rfl) (by kernel_rfl) (by kernel_rfl) ?_
  refine d_pu 5 rfl (pu_move rfl) (by kernel_rfl) (by kernel_rfl) (by kernel_rfl) ?_
  first | refine d_pu 6 rfl (pu_nilCheck rfl) (by kernel_rfl) (by kernel_rfl) (by kernel_rfl) ?_ | refine d_pu 6 rfl (pu_nilCheck_fn rfl) (by kernel_rfl) (by kernel_rfl) (by kernel_rfl) ?_ | refine d_pu 6 rfl (pu_nilCheck_if rfl) (by kernel_rfl) (by kernel_rfl) (by kernel_rfl) ?_
  first | refine d_pu 7 rfl (pu_fieldAddr0 rfl) (by kernel_rfl) (by kernel_rfl) (by kernel_rfl) ?_ | refine d_pu 7 rfl (pu_fieldAddr rfl) (by kernel_rfl) (by kernel_rfl) (by kernel_rfl) ?_
  refine d_rd 8 rfl (rd_load rfl rfl) rfl (by kernel_rfl) (by kernel_rfl) (by kernel_rfl) ?_
  first | refine d_fint 9 rfl (by kernel_rfl) (by kernel_rfl) (ef_append_own (s := av) rfl rfl (by repeat (first | exact Split.nil | (apply Split.cons; (repeat (first | with_reducible exact Take.here | apply Take.there))))) (flat_one (fun _ => rfl) _) (by simp only [maxLen]; omega) (by omega)) ?_ | refine d_finf 9 rfl (by kernel_rfl) (by kernel_rfl) (ef_append_own (s := av) rfl rfl (by repeat (first | exact Split.nil | (apply Split.cons; (repeat (first | with_reducible exact Take.here | apply Take.there))))) (flat_one (fun _ => rfl) _) (by simp only [maxLen]; omega) (by omega)) ?_
  rintro A4 c4
  rw [Nat.zero_add, List.nil_append]
  skip
  first | refine d_pu 10 rfl (pu_nilCheck rfl) (by kernel_rfl) (by kernel_rfl) (by kernel_rfl) ?_ | refine d_pu 10 rfl (pu_nilCheck_fn rfl) (by kernel_rfl) (by kernel_rfl) (by kernel_rfl) ?_ | refine d_pu 10 rfl (pu_nilCheck_if rfl) (by kernel_rfl) (by kernel_rfl) (by kernel_rfl) ?_
  first | refine d_pu 11 rfl (pu_fieldAddr0 rfl) (by kernel_rfl) (by kernel_rfl) (by kernel_rfl) ?_ | refine d_pu 11 rfl (pu_fieldAddr rfl) (by kernel_rfl) (by kernel_rfl) (by kernel_rfl) ?_
  first | refine d_fin0t 12 rfl (by kernel_rfl) (by kernel_rfl) (ef_store rfl rfl rfl) ?_ | refine d_fin0f 12 rfl (by kernel_rfl) (by kernel_rfl) (ef_store rfl rfl rfl) ?_
  refine d_sub _ (.cons (t := 0) rfl (.cons (t := 3) rfl .nil)) ?_
  first | refine d_nilt (by kernel_rfl) ?_ | refine d_nilf (by kernel_rfl) ?_
  refine then_n ?_
  refine swp_seq ?_
  refine swp_ent (own_nil_ent (e := 95) (n := 3)) ?_
  refine swp_draw [4, 8] _ [] (by simp only [List.append_nil]; exact Ent.refl _) (by kernel_rfl) ?_
  refine d_pu 0 rfl (pu_move rfl) (by kernel_rfl) (by kernel_rfl) (by kernel_rfl) ?_
  refine d_pu 1 rfl (pu_move rfl) (by kernel_rfl) (by kernel_rfl) (by kernel_rfl) ?_
  first | refine d_pu 2 rfl (pu_nilCheck rfl) (by kernel_rfl) (by kernel_rfl) (by kernel_rfl) ?_ | refine d_pu 2 rfl (pu_nilCheck_fn rfl) (by kernel_rfl) (by kernel_rfl) (by kernel_rfl) ?_ | refine d_pu 2 rfl (pu_nilCheck_if rfl) (by kernel_rfl) (by kernel_rfl) (by kernel_rfl) ?_
  first | refine d_pu 3 rfl (pu_fieldAddr0 rfl) (by kernel_rfl) (by kernel_rfl) (by kernel_rfl) ?_ | refine d_pu 3 rfl (pu_fieldAddr rfl) (by kernel_rfl) (by kernel_rfl) (by kernel_rfl) ?_
  refine d_rd 4 rfl (rd_load rfl rfl) rfl (by kernel_rfl) (by kernel_rfl) (by kernel_rfl) ?_
  refine d_pu 5 rfl (pu_move rfl) (by kernel_rfl) (by kernel_rfl) (by kernel_rfl) ?_
  first | refine d_pu 6 rfl (pu_nilCheck rfl) (by kernel_rfl) (by kernel_rfl) (by kernel_rfl) ?_ | refine d_pu 6 rfl (pu_nilCheck_fn rfl) (by kernel_rfl) (by kernel_rfl) (by kernel_rfl) ?_ | refine d_pu 6 rfl (pu_nilCheck_if rfl) (by kernel_rfl) (by kernel_rfl) (by kernel_rfl) ?_
  first | refine d_pu 7 rfl (pu_fieldAddr0 rfl) (by kernel_rfl) (by kernel_rfl) (by kernel_rfl) ?_ | refine d_pu 7 rfl (pu_fieldAddr rfl) (by kernel_rfl) (by kernel_rfl) (by kernel_rfl) ?_
  refine d_rd 8 rfl (rd_load rfl rfl) rfl (by kernel_rfl) (by kernel_rfl) (by kernel_rfl) ?_
  first | refine d_fint 9 rfl (by kernel_rfl) (by kernel_rfl) (ef_append_own (s := wv) rfl rfl (by repeat (first | exact Split.nil | (apply Split.cons; (repeat (first | with_reducible exact Take.here | apply Take.there))))) (flat_one (fun _ => rfl) _) (by simp only [maxLen]; omega) (by omega)) ?_ | refine d_finf 9 rfl (by kernel_rfl) (by kernel_rfl) (ef_append_own (s := wv) rfl rfl (by repeat (first | exact Split.nil | (apply Split.cons; (repeat (first | with_reducible exact Take.here | apply Take.there))))) (flat_one (fun _ => rfl) _) (by simp only [maxLen]; omega) (by omega)) ?_
  rintro A5 c5
  rw [Nat.zero_add, List.nil_append]
  skip
  first | refine d_pu 10 rfl (pu_nilCheck rfl) (by kernel_rfl) (by kernel_rfl) (by kernel_rfl) ?_ | refine d_pu 10 rfl (pu_nilCheck_fn rfl) (by kernel_rfl) (by kernel_rfl) (by kernel_rfl) ?_ | refine d_pu 10 rfl (pu_nilCheck_if rfl) (by kernel_rfl) (by kernel_rfl) (by kernel_rfl) ?_
  first | refine d_pu 11 rfl (pu_fieldAddr0 rfl) (by kernel_rfl) (by kernel_rfl) (by kernel_rfl) ?_ | refine d_pu 11 rfl (pu_fieldAddr rfl) (by kernel_rfl) (by kernel_rfl) (by kernel_rfl) ?_
  first | refine d_fin0t 12 rfl (by kernel_rfl) (by kernel_rfl) (ef_store rfl rfl rfl) ?_ | refine d_fin0f 12 rfl (by kernel_rfl) (by kernel_rfl) (ef_store rfl rfl rfl) ?_
  refine d_sub _ (.cons (t := 3) rfl .nil) ?_
  first | refine d_nilt (by kernel_rfl) ?_ | refine d_nilf (by kernel_rfl) ?_
  refine then_n ?_
  refine swp_seq ?_
  refine swp_region ?_
  refine s_pu (pu_move rfl) ?_
  refine s_pu (pu_assign rfl) ?_
  refine swl_sub _ (.cons (t := 2) rfl .nil) ?_
  refine swl_nil ?_
  refine then_n ?_
  refine swp_ret ?_
  exact done_retE [RDA p d, RDA b17 d] (.tmp rfl .nil) ⟨b17, rfl, rfl⟩ ((Split.ent' (K := [blk p 64 (rdC d.quota fv sv av wv d.falls d.off), own 99 2 fv d.files.length (d.files.flatMap rF1), own 97 2 sv d.seen.length (d.seen.flatMap rN1), own 97 2 av d.safe.length (d.safe.flatMap rN1), own 95 3 wv d.pend.length (d.pend.flatMap rC1), blk b17 64 (rdC d.quota (.slice A2 d.files.length c2) (.slice A3 d.seen.length c3) (.slice A4 d.safe.length c4) (.slice A5 d.pend.length c5) d.falls d.off), own 99 2 (.slice A2 d.files.length c2) d.files.length (d.files.flatMap rF1), own 97 2 (.slice A3 d.seen.length c3) d.seen.length (d.seen.flatMap rN1), own 97 2 (.slice A4 d.safe.length c4) d.safe.length (d.safe.flatMap rN1), own 95 3 (.slice A5 d.pend.length c5) d.pend.length (d.pend.flatMap rC1)]) (by repeat (first | exact Split.nil | (apply Split.cons; (repeat (first | with_reducible exact Take.here | apply Take.there)))))).trans ((rd_close (x := ⟨fv, sv, av, wv⟩)).trans (Ent.cons (rd_close (x := ⟨.slice A2 d.files.length c2, .slice A3 d.seen.length c3, .slice A4 d.safe.length c4, .slice A5 d.pend.length c5⟩)))))
end SX
namespace SX
open Go Go.Proofs
end SX
namespace SX
open Go Go.Proofs
instance : TPKey Try.prog 74 := ⟨⟨_, Try.underlying74, by kernel_rfl⟩⟩
theorem recs_hole {rs : List Rc} {i : Nat} {r : Rc} (h : rs[i]? = some r) (hn : ¬ Real r) {L : List Assn} : Ent (recsA rs :: L) (holeA rs i :: L) := by
  refine star_ent.trans ?_
  rw [recs_eq h]
  have e : recA i r = [] := if_neg hn
  rw [e, List.nil_append]
  exact star_close
theorem recs_fill {rs : List Rc} {i : Nat} {r : Rc} (h : rs[i]? = some gst) (hr : Real r) {L : List Assn} :
    Ent (own 5 1 r.v r.f.bytes.length (bcs r.f.bytes) :: blk r.a 82 [.int .i64 (i : Nat), r.v, .int .i64 (r.f.safe : Nat)] :: recsA rs :: L) (recsA (rs.set i r) :: L) :=
  (Ent.under (X := [own 5 1 r.v r.f.bytes.length (bcs r.f.bytes), blk r.a 82 [.int .i64 (i : Nat), r.v, .int .i64 (r.f.safe : Nat)]]) (recs_hole h gst_no)).trans (recs_close' r (List.getElem?_eq_some_iff.1 h).1 hr)
theorem recs_ghosts (n : Nat) {L : List Assn} : Ent L (recsA (List.replicate n gst) :: L) := by
  have e : ∀ (n k : Nat), recsL k (List.replicate n gst) = [] := by
    intro n
    induction n with
    | zero => intro _; rfl
    | succ n ih =>
      intro k
      rw [List.replicate_succ, recsL, ih, List.append_nil]
      exact if_neg gst_no
  have h : Ent (recsL 0 (List.replicate n gst) ++ L) (recsA (List.replicate n gst) :: L) := star_close
  rw [e] at h
  exact h
/-- where a record lies -/
theorem recs_sat {rs : List Rc} {k : Nat} {r : Rc} {L : List Assn} {m : PH} (h : Sat (recsA rs :: L) m) (hk : rs[k]? = some r) (hr : Real r) : m r.a = some (.cells #[.int .i64 (k : Nat), r.v, .int .i64 (r.f.safe : Nat)] 82 (0, 0)) := by
  obtain ⟨m1, _, h1, _, _, s1, _⟩ := recs_open hk hr m h
  exact s1 _ _ h1
theorem recs_dist {rs : List Rc} {L : List Assn} {m : PH} (h : Sat (recsA rs :: L) m) : Dist rs := fun j k r s hj hk hr hs e => by
  have h1 := recs_sat h hj hr
  have h2 := recs_sat h hk hs
  rw [e, h2] at h1
  have h3 := Option.some.inj h1
  simp only [Obj.cells.injEq, Array.mk.injEq, List.cons.injEq, Value.int.injEq] at h3
  omega
theorem ptrs_of {rs : List Rc} {L L' : List Assn} {l : Ents (Option Nat)} {a : Option Nat} (he : Ent L (recsA rs :: L')) (hk : ∀ y ∈ l, ∀ x, y.1 = some x → ∃ (k : Nat) (r : Rc), rs[k]? = some r ∧ Real r ∧ r.a = x) (ha : ∀ x, a = some x → ∃ (k : Nat) (r : Rc), rs[k]? = some r ∧ Real r ∧ r.a = x) : PtrsOk L a l := by
  intro E w hh
  have hc : ∀ x, (∃ (k : Nat) (r : Rc), rs[k]? = some r ∧ Real r ∧ r.a = x) → Cells w x := fun x ⟨k, r, h1, h2, h3⟩ => by
    have h4 := (hh.ent (he.trans (recs_open h1 h2))).one_get .here
    rw [← h3]; exact ⟨_, _, h4⟩
  exact ⟨fun x hx => hc x (ha x hx), fun y hy x hx => hc x (hk y hy x hx)⟩
theorem copy1_nil (vb ob c : Nat) (rs rs' : List Rc) (l : Ents (Option Nat)) (hC : Cop rs rs' l) :
    Spec Try.prog 60 [.pointer none, pv vb] [blk vb 90 [.map (some ob)], mpe ob pkv l c, recsA rs] (fun r L => r = .pointer none ∧ L = [blk vb 90 [.map (some ob)], mpe ob pkv l c, recsA rs]) := by
  have hp : ∀ {L' : List Assn}, PtrsOk (blk vb 90 [.map (some ob)] :: mpe ob pkv l c :: recsA rs :: L') none l := fun {L'} => ptrs_of (Split.ent' (K := [recsA rs]) (by repeat (first | exact Split.nil | (apply Split.cons; (repeat (first | with_reducible exact Take.here | apply Take.there)))))) hC.keys fun x hx => by cases hx
  have hn := hC.nil
  refine Spec.of 34 Try.func60 rfl rfl rfl ?_
  refine swp_seq ?_
  refine swp_region ?_
  refine s_pu (pu_assign rfl) ?_
  refine swl_sub _ (.cons (t := 0) rfl (.cons (t := 1) rfl .nil)) ?_
  refine swl_nil ?_
  refine then_n ?_
  refine swp_seq ?_
  refine swp_seq ?_
  refine swp_region ?_
  refine s_rd (rd_load rfl rfl) ?_
  refine s_pu (pu_move rfl) ?_
  refine s_rd (rd_plook2 none rfl rfl hp) ?_
  refine s_pu (pu_move rfl) ?_
  first | refine s_pu (pu_extractL rfl) ?_ | refine s_pu (pu_extract rfl rfl) ?_
  first | refine s_pu (pu_extractL rfl) ?_ | refine s_pu (pu_extract rfl rfl) ?_
  refine s_pu (pu_assign rfl) ?_
  refine s_pu (pu_assign rfl) ?_
  refine swl_sub _ (.cons (t := 0) rfl (.cons (t := 1) rfl (.cons (t := 5) rfl .nil))) ?_
  refine swl_nil ?_
  refine then_n ?_
  refine swp_seq ?_
  refine swp_region ?_
  refine s_pu (pu_move rfl) ?_
  refine s_pu (pu_not rfl) ?_
  refine swl_sub _ (.cons (t := 0) rfl (.cons (t := 1) rfl (.cons (t := 13) rfl .nil))) ?_
  refine swl_nil ?_
  refine then_n ?_
  refine swp_cond (b := _) rfl (fun h13 => by (rw [hn] at h13; cases h13)) (fun h13 => ?_)
  refine swp_skip ?_
  refine then_n ?_
  refine swp_seq ?_
  refine swp_region ?_
  refine s_rd (rd_load rfl rfl) ?_
  refine s_pu (pu_move rfl) ?_
  refine s_rd (rd_plook none rfl rfl hp) ?_
  refine s_pu (pu_assign rfl) ?_
  refine swl_sub _ (.cons (t := 3) rfl .nil) ?_
  refine swl_nil ?_
  refine then_n ?_
  refine swp_ret ?_
  exact done_ret [blk vb 90 [.map (some ob)], mpe ob pkv l c, recsA rs] (.tmp rfl .nil) ⟨by rw [hn]; rfl, rfl⟩ (by repeat (first | exact Split.nil | (apply Split.cons; (repeat (first | with_reducible exact Take.here | apply Take.there)))))
theorem copy1_old (vb ob c k : Nat) (rs rs' : List Rc) (l : Ents (Option Nat)) (hC : Cop rs rs' l) (r r' : Rc) (hk : rs[k]? = some r) (hr : Real r) (hl : mlook l (some r.a) = some (pv r'.a)) :
    Spec Try.prog 60 [pv r.a, pv vb] [blk vb 90 [.map (some ob)], mpe ob pkv l c, recsA rs] (fun v L => v = pv r'.a ∧ L = [blk vb 90 [.map (some ob)], mpe ob pkv l c, recsA rs]) := by
  have hp : ∀ {L' : List Assn}, PtrsOk (blk vb 90 [.map (some ob)] :: mpe ob pkv l c :: recsA rs :: L') (some r.a) l := fun {L'} => ptrs_of (Split.ent' (K := [recsA rs]) (by repeat (first | exact Split.nil | (apply Split.cons; (repeat (first | with_reducible exact Take.here | apply Take.there)))))) hC.keys fun x hx => ⟨k, r, hk, hr, Option.some.inj hx⟩
  refine Spec.of 34 Try.func60 rfl rfl rfl ?_
  refine swp_seq ?_
  refine swp_region ?_
  refine s_pu (pu_assign rfl) ?_
  refine swl_sub _ (.cons (t := 0) rfl (.cons (t := 1) rfl .nil)) ?_
  refine swl_nil ?_
  refine then_n ?_
  refine swp_seq ?_
  refine swp_seq ?_
  refine swp_region ?_
  refine s_rd (rd_load rfl rfl) ?_
  refine s_pu (pu_move rfl) ?_
  refine s_rd (rd_plook2 (some r.a) rfl rfl hp) ?_
  refine s_pu (pu_move rfl) ?_
  first | refine s_pu (pu_extractL rfl) ?_ | refine s_pu (pu_extract rfl rfl) ?_
  first | refine s_pu (pu_extractL rfl) ?_ | refine s_pu (pu_extract rfl rfl) ?_
  refine s_pu (pu_assign rfl) ?_
  refine s_pu (pu_assign rfl) ?_
  refine swl_sub _ (.cons (t := 0) rfl (.cons (t := 1) rfl (.cons (t := 5) rfl .nil))) ?_
  refine swl_nil ?_
  refine then_n ?_
  refine swp_seq ?_
  refine swp_region ?_
  refine s_pu (pu_move rfl) ?_
  refine s_pu (pu_not rfl) ?_
  refine swl_sub _ (.cons (t := 0) rfl (.cons (t := 1) rfl (.cons (t := 13) rfl .nil))) ?_
  refine swl_nil ?_
  refine then_n ?_
  refine swp_cond (b := _) rfl (fun h13 => by (rw [hl] at h13; cases h13)) (fun h13 => ?_)
  refine swp_skip ?_
  refine then_n ?_
  refine swp_seq ?_
  refine swp_region ?_
  refine s_rd (rd_load rfl rfl) ?_
  refine s_pu (pu_move rfl) ?_
  refine s_rd (rd_plook (some r.a) rfl rfl hp) ?_
  refine s_pu (pu_assign rfl) ?_
  refine swl_sub _ (.cons (t := 3) rfl .nil) ?_
  refine swl_nil ?_
  refine then_n ?_
  refine swp_ret ?_
  exact done_ret [blk vb 90 [.map (some ob)], mpe ob pkv l c, recsA rs] (.tmp rfl .nil) ⟨by rw [hl]; rfl, rfl⟩ (by repeat (first | exact Split.nil | (apply Split.cons; (repeat (first | with_reducible exact Take.here | apply Take.there)))))
theorem bclone_v (v : Value) (bs : List UInt8) (hb : bs.length ≤ 1099511627776) :
    Spec Try.prog 45 [v] [own 5 1 v bs.length (bcs bs)] (fun v' L => (∃ A c, v' = .slice A bs.length c) ∧ L = [own 5 1 v' bs.length (bcs bs), own 5 1 v bs.length (bcs bs)]) := by
  refine Spec.fact' (fun m h => own_cap2 h) fun ⟨A, c, hv, hlc, hcm, hA, hA2⟩ => ?_
  subst hv
  have := bclone_own A bs.length bs.length c c bs rfl (Nat.le_refl _) hb (fun h => by have := hA h; omega)
  rwa [List.take_length] at this
set_option maxHeartbeats 4000000 in
theorem copy1_new (vb ob c k : Nat) (rs rs' : List Rc) (l : Ents (Option Nat)) (hC : Cop rs rs' l) (r : Rc) (hk : rs[k]? = some r) (hr : Real r) (hb : r.f.bytes.length ≤ 1099511627776) (hl : mlook l (some r.a) = none) :
    Spec Try.prog 60 [pv r.a, pv vb] [blk vb 90 [.map (some ob)], mpe ob pkv l c, recsA rs] (fun v L => ∃ r' : Rc, v = pv r'.a ∧ r'.f = r.f ∧ L = [blk vb 90 [.map (some ob)], mpe ob pkv (upd l c (some r.a) (pv r'.a)) (updC l c (some r.a)), recsA rs, own 5 1 r'.v r'.f.bytes.length (bcs r'.f.bytes), blk r'.a 82 [.int .i64 (k : Nat), r'.v, .int .i64 (r'.f.safe : Nat)]]) := by
  have hkey : ∀ x, some r.a = some x → ∃ (k : Nat) (r : Rc), rs[k]? = some r ∧ Real r ∧ r.a = x := fun x hx => ⟨k, r, hk, hr, Option.some.inj hx⟩
  have hp : ∀ {L' : List Assn}, PtrsOk (blk vb 90 [.map (some ob)] :: mpe ob pkv l c :: recsA rs :: L') (some r.a) l := fun {L'} => ptrs_of (Split.ent' (K := [recsA rs]) (by repeat (first | exact Split.nil | (apply Split.cons; (repeat (first | with_reducible exact Take.here | apply Take.there)))))) hC.keys hkey
  refine Spec.of 34 Try.func60 rfl rfl rfl ?_
  refine swp_seq ?_
  refine swp_region ?_
  refine s_pu (pu_assign rfl) ?_
  refine swl_sub _ (.cons (t := 0) rfl (.cons (t := 1) rfl .nil)) ?_
  refine swl_nil ?_
  refine then_n ?_
  refine swp_seq ?_
  refine swp_seq ?_
  refine swp_region ?_
  refine s_rd (rd_load rfl rfl) ?_
  refine s_pu (pu_move rfl) ?_
  refine s_rd (rd_plook2 (some r.a) rfl rfl hp) ?_
  refine s_pu (pu_move rfl) ?_
  first | refine s_pu (pu_extractL rfl) ?_ | refine s_pu (pu_extract rfl rfl) ?_
  first | refine s_pu (pu_extractL rfl) ?_ | refine s_pu (pu_extract rfl rfl) ?_
  refine s_pu (pu_assign rfl) ?_
  refine s_pu (pu_assign rfl) ?_
  refine swl_sub _ (.cons (t := 0) rfl (.cons (t := 1) rfl (.cons (t := 5) rfl .nil))) ?_
  refine swl_nil ?_
  refine then_n ?_
  refine swp_seq ?_
  refine swp_region ?_
  refine s_pu (pu_move rfl) ?_
  refine s_pu (pu_not rfl) ?_
  refine swl_sub _ (.cons (t := 0) rfl (.cons (t := 1) rfl (.cons (t := 13) rfl .nil))) ?_
  refine swl_nil ?_
  refine then_n ?_
  refine swp_cond (b := _) rfl (fun h13 => ?_) (fun h13 => by (rw [hl] at h13; cases h13))
  refine swp_ent (Split.ent' (K := [recsA rs, blk vb 90 [.map (some ob)], mpe ob pkv l c]) (by repeat (first | exact Split.nil | (apply Split.cons; (repeat (first | with_reducible exact Take.here | apply Take.there)))))) ?_
  refine swp_ent (recs_open' hk hr) ?_
  refine swp_draw [0, 5, 9, 14] ([blk vb 90 [.map (some ob)], blk r.a 82 [.int .i64 (k : Nat), r.v, .int .i64 (r.f.safe : Nat)]]) ([own 5 1 r.v r.f.bytes.length (bcs r.f.bytes), holeA rs k, mpe ob pkv l c]) (Split.ent (by repeat (first | exact Split.nil | (apply Split.cons; (repeat (first | with_reducible exact Take.here | apply Take.there)))))) (by kernel_rfl) ?_
  refine d_rd 0 rfl (rd_load rfl rfl) rfl (by kernel_rfl) (by kernel_rfl) (by kernel_rfl) ?_
  refine d_pu 1 rfl (pu_move rfl) (by kernel_rfl) (by kernel_rfl) (by kernel_rfl) ?_
  refine d_pu 2 rfl (pu_move rfl) (by kernel_rfl) (by kernel_rfl) (by kernel_rfl) ?_
  first | refine d_pu 3 rfl (pu_nilCheck rfl) (by kernel_rfl) (by kernel_rfl) (by kernel_rfl) ?_ | refine d_pu 3 rfl (pu_nilCheck_fn rfl) (by kernel_rfl) (by kernel_rfl) (by kernel_rfl) ?_ | refine d_pu 3 rfl (pu_nilCheck_if rfl) (by kernel_rfl) (by kernel_rfl) (by kernel_rfl) ?_
  first | refine d_pu 4 rfl (pu_fieldAddr0 rfl) (by kernel_rfl) (by kernel_rfl) (by kernel_rfl) ?_ | refine d_pu 4 rfl (pu_fieldAddr rfl) (by kernel_rfl) (by kernel_rfl) (by kernel_rfl) ?_
  refine d_rd 5 rfl (rd_load rfl rfl) rfl (by kernel_rfl) (by kernel_rfl) (by kernel_rfl) ?_
  refine d_pu 6 rfl (pu_move rfl) (by kernel_rfl) (by kernel_rfl) (by kernel_rfl) ?_
  first | refine d_pu 7 rfl (pu_nilCheck rfl) (by kernel_rfl) (by kernel_rfl) (by kernel_rfl) ?_ | refine d_pu 7 rfl (pu_nilCheck_fn rfl) (by kernel_rfl) (by kernel_rfl) (by kernel_rfl) ?_ | refine d_pu 7 rfl (pu_nilCheck_if rfl) (by kernel_rfl) (by kernel_rfl) (by kernel_rfl) ?_
  first | refine d_pu 8 rfl (pu_fieldAddr0 rfl) (by kernel_rfl) (by kernel_rfl) (by kernel_rfl) ?_ | refine d_pu 8 rfl (pu_fieldAddr rfl) (by kernel_rfl) (by kernel_rfl) (by kernel_rfl) ?_
  refine d_rd 9 rfl (rd_load rfl rfl) rfl (by kernel_rfl) (by kernel_rfl) (by kernel_rfl) ?_
  refine d_pu 11 rfl (pu_move rfl) (by kernel_rfl) (by kernel_rfl) (by kernel_rfl) ?_
  first | refine d_pu 12 rfl (pu_nilCheck rfl) (by kernel_rfl) (by kernel_rfl) (by kernel_rfl) ?_ | refine d_pu 12 rfl (pu_nilCheck_fn rfl) (by kernel_rfl) (by kernel_rfl) (by kernel_rfl) ?_ | refine d_pu 12 rfl (pu_nilCheck_if rfl) (by kernel_rfl) (by kernel_rfl) (by kernel_rfl) ?_
  first | refine d_pu 13 rfl (pu_fieldAddr0 rfl) (by kernel_rfl) (by kernel_rfl) (by kernel_rfl) ?_ | refine d_pu 13 rfl (pu_fieldAddr rfl) (by kernel_rfl) (by kernel_rfl) (by kernel_rfl) ?_
  refine d_rd 14 rfl (rd_load rfl rfl) rfl (by kernel_rfl) (by kernel_rfl) (by kernel_rfl) ?_
  refine d_eft 10 rfl (by kernel_rfl) (ef_fn (bclone_v r.v r.f.bytes hb) rfl rfl (by repeat (first | exact Split.nil | (apply Split.cons; (repeat (first | with_reducible exact Take.here | apply Take.there)))))) ?_
  rintro v24 L1 ⟨⟨A', c', rfl⟩, rfl⟩
  refine ⟨_, ent_appC (Split.ent (by repeat (first | exact Split.nil | (apply Split.cons; (repeat (first | with_reducible exact Take.here | apply Take.there)))))), ?_⟩
  refine d_pu 15 rfl (pu_bld (qs := [(0, _), (1, _), (2, _)]) rfl) (by kernel_rfl) (by kernel_rfl) (by kernel_rfl) ?_
  refine d_eft 16 rfl (by kernel_rfl) (ef_box rfl rfl) ?_
  intro b30
  refine ⟨_, Split.ent (by repeat (first | exact Split.nil | (apply Split.cons; (repeat (first | with_reducible exact Take.here | apply Take.there))))), ?_⟩
  first | refine d_fin0t 17 rfl (by kernel_rfl) (by kernel_rfl) (ef_pupd (some r.a) rfl rfl rfl (by repeat (first | exact Split.nil | (apply Split.cons; (repeat (first | with_reducible exact Take.here | apply Take.there))))) (ptrs_of (Ent.trans (Split.ent' (K := [own 5 1 r.v r.f.bytes.length (bcs r.f.bytes), blk r.a 82 [.int .i64 (k : Nat), r.v, .int .i64 (r.f.safe : Nat)], holeA rs k]) (by repeat (first | exact Split.nil | (apply Split.cons; (repeat (first | with_reducible exact Take.here | apply Take.there)))))) (recs_back' hk hr)) hC.keys hkey)) ?_ | refine d_fin0f 17 rfl (by kernel_rfl) (by kernel_rfl) (ef_pupd (some r.a) rfl rfl rfl (by repeat (first | exact Split.nil | (apply Split.cons; (repeat (first | with_reducible exact Take.here | apply Take.there))))) (ptrs_of (Ent.trans (Split.ent' (K := [own 5 1 r.v r.f.bytes.length (bcs r.f.bytes), blk r.a 82 [.int .i64 (k : Nat), r.v, .int .i64 (r.f.safe : Nat)], holeA rs k]) (by repeat (first | exact Split.nil | (apply Split.cons; (repeat (first | with_reducible exact Take.here | apply Take.there)))))) (recs_back' hk hr)) hC.keys hkey)) ?_
  refine d_sub _ (.cons (t := 0) rfl (.cons (t := 1) rfl .nil)) ?_
  first | refine d_nilt (by kernel_rfl) ?_ | refine d_nilf (by kernel_rfl) ?_
  refine then_n ?_
  refine swp_seq ?_
  refine swp_ent (Ent.trans (Split.ent' (K := [own 5 1 r.v r.f.bytes.length (bcs r.f.bytes), blk r.a 82 [.int .i64 (k : Nat), r.v, .int .i64 (r.f.safe : Nat)], holeA rs k, blk vb 90 [.map (some ob)], mpe ob pkv (upd l c (some r.a) (pv b30)) (updC l c (some r.a)), own 5 1 (.slice A' r.f.bytes.length c') r.f.bytes.length (bcs r.f.bytes), blk b30 82 [.int .i64 (k : Nat), .slice A' r.f.bytes.length c', .int .i64 (r.f.safe : Nat)]]) (by repeat (first | exact Split.nil | (apply Split.cons; (repeat (first | with_reducible exact Take.here | apply Take.there)))))) (recs_back' hk hr)) ?_
  have hl2 : mlook (upd l c (some r.a) (pv b30)) (some r.a) = some (pv b30) := by rw [mlook_upd, if_pos rfl]
  refine swp_region ?_
  refine s_rd (rd_load rfl rfl) ?_
  refine s_pu (pu_move rfl) ?_
  refine s_rd (rd_plook (some r.a) rfl rfl (ptrs_of (Split.ent' (K := [recsA rs]) (by repeat (first | exact Split.nil | (apply Split.cons; (repeat (first | with_reducible exact Take.here | apply Take.there)))))) (hC.step_keys hk hr) hkey)) ?_
  refine s_pu (pu_assign rfl) ?_
  refine swl_sub _ (.cons (t := 3) rfl .nil) ?_
  refine swl_nil ?_
  refine then_n ?_
  refine swp_ret ?_
  exact done_ret [blk vb 90 [.map (some ob)], mpe ob pkv (upd l c (some r.a) (pv b30)) (updC l c (some r.a)), recsA rs, own 5 1 (.slice A' r.f.bytes.length c') r.f.bytes.length (bcs r.f.bytes), blk b30 82 [.int .i64 (k : Nat), .slice A' r.f.bytes.length c', .int .i64 (r.f.safe : Nat)]] (.tmp rfl .nil) ⟨⟨b30, .slice A' r.f.bytes.length c', r.f⟩, by rw [hl2]; rfl, rfl, rfl⟩ (by repeat (first | exact Split.nil | (apply Split.cons; (repeat (first | with_reducible exact Take.here | apply Take.there)))))
end SX
namespace SX
open Go Go.Proofs
/-- a record's copy, made or found -/
theorem copy1_spec (vb ob c k : Nat) (d : Dk) (hd : d.Ok) (rs rs' : List Rc) (l : Ents (Option Nat)) (hD : Dist rs) (hC : Cop rs rs' l) (r : Rc) (hk : rs[k]? = some r) (hf : r.f = d.fl k) :
    Spec Try.prog 60 [pv r.a, pv vb] [blk vb 90 [.map (some ob)], mpe ob pkv l c, recsA rs, recsA rs'] (fun v L => ∃ (rs2 : List Rc) (l2 : Ents (Option Nat)) (c2 : Nat) (r2 : Rc), v = pv r2.a ∧ rs2[k]? = some r2 ∧ Real r2 ∧ r2.f = d.fl k ∧ Cop rs rs2 l2 ∧ Grown rs' rs2 ∧ L = [blk vb 90 [.map (some ob)], mpe ob pkv l2 c2, recsA rs, recsA rs2]) := by
  have hr : Real r := real_of hd hf
  have hb : r.f.bytes.length ≤ 1099511627776 := by
    rw [hf]; have := (Dk.fl_ok hd k).1; simp only [mostF] at this; omega
  intro E w hh
  rcases hC.at_ k r hk hr with ⟨h1, h2⟩ | ⟨r', h1, h2, h3, h4⟩
  · refine ((copy1_new vb ob c k rs rs' l hC r hk hr hb h1).frame (R := [recsA rs']) hh).mono fun e w' ⟨v, L', he, ⟨r2, hv, hf2, hl⟩, h5⟩ => ?_
    subst hl
    have hr2 : Real r2 := by unfold Real; rw [hf2]; exact hr
    refine ⟨v, _, he, ⟨rs'.set k r2, _, updC l c (some r.a), r2, hv, List.getElem?_set_self (by rw [hC.len]; exact (List.getElem?_eq_some_iff.1 hk).1), hr2, hf2.trans hf, hC.step hD hk hr hr2 hf2 c, Grown.set h2 r2, rfl⟩, h5.ent ?_⟩
    simp only [List.cons_append, List.nil_append]
    exact Ent.under (X := [blk vb 90 [.map (some ob)], mpe ob pkv (upd l c (some r.a) (pv r2.a)) (updC l c (some r.a)), recsA rs]) (recs_fill h2 hr2)
  · refine ((copy1_old vb ob c k rs rs' l hC r r' hk hr h4).frame (R := [recsA rs']) hh).mono fun e w' ⟨v, L', he, ⟨hv, hl⟩, h5⟩ => ?_
    subst hl
    exact ⟨v, _, he, ⟨rs', l, c, r', hv, h1, h2, h3.trans hf, hC, Grown.refl _, rfl⟩, h5⟩
/-- a pending change's record -/
theorem copyp_spec (vb ob c : Nat) (d : Dk) (hd : d.Ok) (rs rs' : List Rc) (l : Ents (Option Nat)) (hD : Dist rs) (hC : Cop rs rs' l) (g0 c0 : ByteArray) (o : Option Addr) (cg : Cg) (hp : PcRel rs (g0, c0, .pointer o) cg)
    (hl : strEq cg.come nos = false → ∃ r, rs[cg.file]? = some r ∧ r.f = d.fl cg.file) :
    Spec Try.prog 60 [.pointer o, pv vb] [blk vb 90 [.map (some ob)], mpe ob pkv l c, recsA rs, recsA rs'] (fun v L => ∃ (rs2 : List Rc) (l2 : Ents (Option Nat)) (c2 : Nat) (o2 : Option Addr), v = .pointer o2 ∧ PcRel rs2 (g0, c0, .pointer o2) cg ∧ (strEq cg.come nos = false → There d rs2 cg.file) ∧ Cop rs rs2 l2 ∧ Grown rs' rs2 ∧ L = [blk vb 90 [.map (some ob)], mpe ob pkv l2 c2, recsA rs, recsA rs2]) := by
  obtain ⟨h1, h2, h3⟩ := hp
  by_cases e : strEq cg.come nos = true
  · rw [if_pos e] at h3
    obtain rfl : o = none := Value.pointer.inj h3
    intro E w hh
    refine ((copy1_nil vb ob c rs rs' l hC).frame (R := [recsA rs']) hh).mono fun e' w' ⟨v, L', he, ⟨hv, hl⟩, h5⟩ => ?_
    subst hl
    exact ⟨v, _, he, ⟨rs', l, c, none, hv, ⟨h1, h2, by rw [if_pos e]⟩, (fun q => by rw [e] at q; cases q), hC, Grown.refl _, rfl⟩, h5⟩
  · have e' : strEq cg.come nos = false := by simpa using e
    rw [if_neg e] at h3
    obtain ⟨r, hr, hf⟩ := hl e'
    rw [adr_at hr] at h3
    dsimp only at h3
    rw [h3]
    refine (copy1_spec vb ob c cg.file d hd rs rs' l hD hC r hr hf).mono fun v L ⟨rs2, l2, c2, r2, k1, k2, k3, k4, k5, k6, k7⟩ => ?_
    exact ⟨rs2, l2, c2, some ⟨r2.a, 0, none⟩, k1, ⟨h1, h2, by rw [if_neg e, adr_at k2]⟩, fun _ => ⟨r2, k2, k3, k4⟩, k5, k6, k7⟩
end SX
namespace SX
open Go Go.Proofs
theorem nomap {L : List Assn} : PtrsOk L none [] := by
  intro E w _
  exact ⟨(fun _ h => by cases h), (fun _ h => by cases h)⟩
set_option maxHeartbeats 8000000 in
theorem copy_spec (p : Nat) (d : Dk) (hd : d.Ok) (hw : Few d) : Spec Try.prog 27 [pv p] [FSA p d] (fun r L => ∃ q, r = pv q ∧ L = [FSA p d, FSA q d]) := by
  refine FSA.open' fun x hx => ?_
  have hpp := hw.2
  have hpl := hx.ps.1
  refine Spec.of 102 Try.func27 rfl rfl rfl ?_
  refine swp_seq ?_
  refine swp_region ?_
  refine s_pu (pu_assign rfl) ?_
  refine swl_sub _ (.cons (t := 0) rfl .nil) ?_
  refine swl_nil ?_
  refine then_n ?_
  refine swp_seq ?_
  refine swp_seq ?_
  refine swp_region ?_
  refine s_pu (pu_move rfl) ?_
  refine s_pu (pu_ptr_eq_nil rfl rfl) ?_
  refine swl_sub _ (.cons (t := 0) rfl (.cons (t := 13) rfl .nil)) ?_
  refine swl_nil ?_
  refine then_n ?_
  refine swp_cond (b := _) rfl (fun h13 => by cases h13) (fun h13 => ?_)
  refine swp_skip ?_
  refine then_n ?_
  refine swp_seq ?_
  refine swp_region ?_
  refine s_ef (ef_makeMap (kv := pkv)) ?_
  intro b14
  refine s_ef0 (ef_pins none rfl rfl rfl (by repeat (first | exact Split.nil | (apply Split.cons; (repeat (first | with_reducible exact Take.here | apply Take.there))))) nomap) ?_
  refine s_pu (pu_move rfl) ?_
  refine s_ef (ef_alloc) ?_
  intro b3
  refine s_ef0 (ef_store rfl rfl rfl) ?_
  refine swl_sub _ (.cons (t := 0) rfl (.cons (t := 3) rfl .nil)) ?_
  refine swl_nil ?_
  refine then_n ?_
  refine swp_seq ?_
  rw [show upd ([] : Ents (Option Nat)) 0 none (.pointer none) = [(none, .pointer none, 0)] from rfl]
  refine swp_region ?_
  refine s_pu (pu_func (vs := []) (us := [_]) rfl rfl) ?_
  refine s_pu (pu_assign rfl) ?_
  refine swl_sub _ (.cons (t := 0) rfl (.cons (t := 4) rfl .nil)) ?_
  refine swl_nil ?_
  refine then_n ?_
  refine swp_cut (fun env L => ∃ b36 b25 b26, Sub env [(0, pv p), (4, .func (.func 60) #[] #[pv b3]), (5, pv b36)] ∧ Ent L [recsA x.rs, mpe x.sb skv x.es x.cs, mpe x.fb skv x.ef x.cf, own 84 3 x.pv x.ps.length (x.ps.flatMap encP), fsH p d x, blk b3 90 [.map (some b14)], mpe b14 pkv [(none, .pointer none, 0)] (updC ([] : Ents (Option Nat)) 0 none), blk b36 73 (fsC d.quota x.rs.length b25 b26 (.slice none 0 0) d.falls d.off), mpe b25 skv [] 0, mpe b26 skv [] 0]) ?_ ?_
  · skip
    refine swp_draw [3, 7, 13, 17] _ [] (by simp only [List.append_nil]; exact Ent.refl _) (by kernel_rfl) ?_
    refine d_pu 0 rfl (pu_move rfl) (by kernel_rfl) (by kernel_rfl) (by kernel_rfl) ?_
    first | refine d_pu 1 rfl (pu_nilCheck rfl) (by kernel_rfl) (by kernel_rfl) (by kernel_rfl) ?_ | refine d_pu 1 rfl (pu_nilCheck_fn rfl) (by kernel_rfl) (by kernel_rfl) (by kernel_rfl) ?_ | refine d_pu 1 rfl (pu_nilCheck_if rfl) (by kernel_rfl) (by kernel_rfl) (by kernel_rfl) ?_
    first | refine d_pu 2 rfl (pu_fieldAddr0 rfl) (by kernel_rfl) (by kernel_rfl) (by kernel_rfl) ?_ | refine d_pu 2 rfl (pu_fieldAddr rfl) (by kernel_rfl) (by kernel_rfl) (by kernel_rfl) ?_
    refine d_rd 3 rfl (rd_load rfl rfl) rfl (by kernel_rfl) (by kernel_rfl) (by kernel_rfl) ?_
    refine d_pu 4 rfl (pu_move rfl) (by kernel_rfl) (by kernel_rfl) (by kernel_rfl) ?_
    first | refine d_pu 5 rfl (pu_nilCheck rfl) (by kernel_rfl) (by kernel_rfl) (by kernel_rfl) ?_ | refine d_pu 5 rfl (pu_nilCheck_fn rfl) (by kernel_rfl) (by kernel_rfl) (by kernel_rfl) ?_ | refine d_pu 5 rfl (pu_nilCheck_if rfl) (by kernel_rfl) (by kernel_rfl) (by kernel_rfl) ?_
    first | refine d_pu 6 rfl (pu_fieldAddr0 rfl) (by kernel_rfl) (by kernel_rfl) (by kernel_rfl) ?_ | refine d_pu 6 rfl (pu_fieldAddr rfl) (by kernel_rfl) (by kernel_rfl) (by kernel_rfl) ?_
    refine d_rd 7 rfl (rd_load rfl rfl) rfl (by kernel_rfl) (by kernel_rfl) (by kernel_rfl) ?_
    refine d_pu 10 rfl (pu_move rfl) (by kernel_rfl) (by kernel_rfl) (by kernel_rfl) ?_
    first | refine d_pu 11 rfl (pu_nilCheck rfl) (by kernel_rfl) (by kernel_rfl) (by kernel_rfl) ?_ | refine d_pu 11 rfl (pu_nilCheck_fn rfl) (by kernel_rfl) (by kernel_rfl) (by kernel_rfl) ?_ | refine d_pu 11 rfl (pu_nilCheck_if rfl) (by kernel_rfl) (by kernel_rfl) (by kernel_rfl) ?_
    first | refine d_pu 12 rfl (pu_fieldAddr0 rfl) (by kernel_rfl) (by kernel_rfl) (by kernel_rfl) ?_ | refine d_pu 12 rfl (pu_fieldAddr rfl) (by kernel_rfl) (by kernel_rfl) (by kernel_rfl) ?_
    refine d_rd 13 rfl (rd_load rfl rfl) rfl (by kernel_rfl) (by kernel_rfl) (by kernel_rfl) ?_
    refine d_pu 14 rfl (pu_move rfl) (by kernel_rfl) (by kernel_rfl) (by kernel_rfl) ?_
    first | refine d_pu 15 rfl (pu_nilCheck rfl) (by kernel_rfl) (by kernel_rfl) (by kernel_rfl) ?_ | refine d_pu 15 rfl (pu_nilCheck_fn rfl) (by kernel_rfl) (by kernel_rfl) (by kernel_rfl) ?_ | refine d_pu 15 rfl (pu_nilCheck_if rfl) (by kernel_rfl) (by kernel_rfl) (by kernel_rfl) ?_
    first | refine d_pu 16 rfl (pu_fieldAddr0 rfl) (by kernel_rfl) (by kernel_rfl) (by kernel_rfl) ?_ | refine d_pu 16 rfl (pu_fieldAddr rfl) (by kernel_rfl) (by kernel_rfl) (by kernel_rfl) ?_
    refine d_rd 17 rfl (rd_load rfl rfl) rfl (by kernel_rfl) (by kernel_rfl) (by kernel_rfl) ?_
    refine d_amb [8, 9] (by kernel_rfl) rfl ⟨?_, ?_⟩
    · skip   -- 8 comes first
      refine dA_ef 8 rfl GOn.none (ef_makeMap (kv := skv)) ?_
      intro b25
      refine ⟨_, Split.ent (by repeat (first | exact Split.nil | (apply Split.cons; (repeat (first | with_reducible exact Take.here | apply Take.there))))), ?_⟩
      refine d_eft 9 rfl (by kernel_rfl) (ef_makeMap (kv := skv)) ?_
      intro b26
      refine ⟨_, Split.ent (by repeat (first | exact Split.nil | (apply Split.cons; (repeat (first | with_reducible exact Take.here | apply Take.there))))), ?_⟩
      refine d_pu 18 rfl (pu_bld (qs := [(0, _), (1, _), (2, _), (3, _), (5, _), (6, _)]) rfl) (by kernel_rfl) (by kernel_rfl) (by kernel_rfl) ?_
      first | refine d_fint 19 rfl (by kernel_rfl) (by kernel_rfl) (ef_box rfl rfl) ?_ | refine d_finf 19 rfl (by kernel_rfl) (by kernel_rfl) (ef_box rfl rfl) ?_
      intro b36
      refine d_pu 20 rfl (pu_assign rfl) (by kernel_rfl) (by kernel_rfl) (by kernel_rfl) ?_
      refine d_sub _ (.cons (t := 0) rfl (.cons (t := 4) rfl (.cons (t := 5) rfl .nil))) ?_
      first | refine d_nilt (by kernel_rfl) ?_ | refine d_nilf (by kernel_rfl) ?_
      exact then_n ⟨b36, b25, b26, ⟨rfl, rfl, rfl, trivial⟩, Split.ent' (by repeat (first | exact Split.nil | (apply Split.cons; (repeat (first | with_reducible exact Take.here | apply Take.there)))))⟩
    · skip   -- 9 comes first
      refine dA_ef 9 rfl GOn.none (ef_makeMap (kv := skv)) ?_
      intro b26
      refine ⟨_, Split.ent (by repeat (first | exact Split.nil | (apply Split.cons; (repeat (first | with_reducible exact Take.here | apply Take.there))))), ?_⟩
      refine d_eft 8 rfl (by kernel_rfl) (ef_makeMap (kv := skv)) ?_
      intro b25
      refine ⟨_, Split.ent (by repeat (first | exact Split.nil | (apply Split.cons; (repeat (first | with_reducible exact Take.here | apply Take.there))))), ?_⟩
      refine d_pu 18 rfl (pu_bld (qs := [(0, _), (1, _), (2, _), (3, _), (5, _), (6, _)]) rfl) (by kernel_rfl) (by kernel_rfl) (by kernel_rfl) ?_
      first | refine d_fint 19 rfl (by kernel_rfl) (by kernel_rfl) (ef_box rfl rfl) ?_ | refine d_finf 19 rfl (by kernel_rfl) (by kernel_rfl) (ef_box rfl rfl) ?_
      intro b36
      refine d_pu 20 rfl (pu_assign rfl) (by kernel_rfl) (by kernel_rfl) (by kernel_rfl) ?_
      refine d_sub _ (.cons (t := 0) rfl (.cons (t := 4) rfl (.cons (t := 5) rfl .nil))) ?_
      first | refine d_nilt (by kernel_rfl) ?_ | refine d_nilf (by kernel_rfl) ?_
      exact then_n ⟨b36, b25, b26, ⟨rfl, rfl, rfl, trivial⟩, Split.ent' (by repeat (first | exact Split.nil | (apply Split.cons; (repeat (first | with_reducible exact Take.here | apply Take.there)))))⟩
  rintro env L ⟨b36, b25, b26, hsub, hE⟩
  refine swp_sub _ hsub ?_
  refine swp_ent hE ?_
  clear hsub hE env L
  refine swp_fact (fun m h => recs_dist h) fun hD => ?_
  refine swp_seq ?_
  refine swp_seq ?_
  refine swp_region ?_
  refine s_pu (pu_move rfl) ?_
  first | refine s_pu (pu_nilCheck rfl) ?_ | refine s_pu (pu_nilCheck_fn rfl) ?_ | refine s_pu (pu_nilCheck_if rfl) ?_
  first | refine s_pu (pu_fieldAddr0 rfl) ?_ | refine s_pu (pu_fieldAddr rfl) ?_
  refine s_rd (rd_load rfl rfl) ?_
  refine s_ef (ef_range (κ := ByteArray) rfl) ?_
  rintro it
  skip
  refine swl_sub _ (.cons (t := 0) rfl (.cons (t := 4) rfl (.cons (t := 5) rfl (.cons (t := 41) rfl .nil)))) ?_
  refine swl_nil ?_
  refine then_n ?_
  refine swp_block ?_
  refine swp_loop (ι := Ents ByteArray × Ents ByteArray) (fun k env L => ∃ rs' l cl es1 cs1, Sub env [(0, pv p), (4, .func (.func 60) #[] #[pv b3]), (5, pv b36), (41, pv it)] ∧ Going x.es k.1 k.2 ∧ Cop x.rs rs' l ∧ Half d d.seen (k.1.map (·.1)) es1 rs' ∧ Born es1 cs1 ∧ Ent L [itA it x.sb x.cs (k.1.map (·.2.2)) x.cs, mpe x.sb skv x.es x.cs, mpe x.fb skv x.ef x.cf, own 84 3 x.pv x.ps.length (x.ps.flatMap encP), fsH p d x, blk b3 90 [.map (some b14)], mpe b14 pkv l cl, recsA x.rs, recsA rs', blk b36 73 (fsC d.quota x.rs.length b25 b26 (.slice none 0 0) d.falls d.off), mpe b25 skv es1 cs1, mpe b26 skv [] 0]) (fun k => k.2.length) ([], x.es) ⟨List.replicate x.rs.length gst, _, _, [], 0, ⟨rfl, rfl, rfl, rfl, trivial⟩, Going.start _, Cop.start _ 0, Half.start _ _ _, Born.nil _, (recs_ghosts x.rs.length).trans (Split.ent' (K := [itA it x.sb x.cs [] x.cs, mpe x.sb skv x.es x.cs, mpe x.fb skv x.ef x.cf, own 84 3 x.pv x.ps.length (x.ps.flatMap encP), fsH p d x, blk b3 90 [.map (some b14)], mpe b14 pkv [(none, .pointer none, 0)] (updC ([] : Ents (Option Nat)) 0 none), recsA x.rs, recsA (List.replicate x.rs.length gst), blk b36 73 (fsC d.quota x.rs.length b25 b26 (.slice none 0 0) d.falls d.off), mpe b25 skv [] 0, mpe b26 skv [] 0]) (by repeat (first | exact Split.nil | (apply Split.cons; (repeat (first | with_reducible exact Take.here | apply Take.there))))))⟩ ?_
  rintro ⟨dn, td⟩ env L ⟨rs', l, cl, es1, cs1, hsub, hgo, hC, hH, hB, hE⟩
  dsimp only at hsub hE hgo hH
  refine swp_sub _ hsub ?_
  refine swp_ent hE ?_
  clear hsub hE env L
  refine swp_seq ?_
  refine swp_region ?_
  refine s_ef (ef_next (κ := ByteArray) rfl (by repeat (first | exact Split.nil | (apply Split.cons; (repeat (first | with_reducible exact Take.here | apply Take.there))))) hx.bs.1 (Nat.le_refl _)) ?_
  refine ⟨fun hall => ?_, fun y hy hns => ?_⟩
  · skip
    first | refine s_pu (pu_extractL rfl) ?_ | refine s_pu (pu_extract rfl rfl) ?_
    refine swl_sub _ (.cons (t := 0) rfl (.cons (t := 4) rfl (.cons (t := 5) rfl (.cons (t := 41) rfl (.cons (t := 43) rfl .nil))))) ?_
    refine swl_nil ?_
    refine then_n ?_
    refine swp_seq ?_
    refine swp_cond (b := _) rfl (fun h43 => by cases h43) (fun h43 => ?_)
    have htd := hgo.stop hx.bs hall
    rw [htd] at hgo
    have hperm : dn.Perm x.es := by have := hgo; unfold Going at this; rwa [List.append_nil] at this
    have hall1 := nmr_all hx.seen hperm
    refine swp_exit ?_
    refine then_x ?_
    refine then_x ?_
    refine block_hit rfl ?_
    refine then_n ?_
    refine swp_seq ?_
    refine swp_seq ?_
    refine swp_region ?_
    refine s_pu (pu_move rfl) ?_
    first | refine s_pu (pu_nilCheck rfl) ?_ | refine s_pu (pu_nilCheck_fn rfl) ?_ | refine s_pu (pu_nilCheck_if rfl) ?_
    first | refine s_pu (pu_fieldAddr0 rfl) ?_ | refine s_pu (pu_fieldAddr rfl) ?_
    refine s_rd (rd_load rfl rfl) ?_
    refine s_ef (ef_range (κ := ByteArray) rfl) ?_
    rintro it2
    skip
    refine swl_sub _ (.cons (t := 0) rfl (.cons (t := 4) rfl (.cons (t := 5) rfl (.cons (t := 59) rfl .nil)))) ?_
    refine swl_nil ?_
    refine then_n ?_
    refine swp_block ?_
    refine swp_loop (ι := Ents ByteArray × Ents ByteArray) (fun k env L => ∃ rs' l cl es2 cs2, Sub env [(0, pv p), (4, .func (.func 60) #[] #[pv b3]), (5, pv b36), (59, pv it2)] ∧ Going x.ef k.1 k.2 ∧ Cop x.rs rs' l ∧ Half d d.seen (dn.map (·.1)) es1 rs' ∧ Half d d.safe (k.1.map (·.1)) es2 rs' ∧ Born es2 cs2 ∧ Ent L [itA it2 x.fb x.cf (k.1.map (·.2.2)) x.cf, mpe x.sb skv x.es x.cs, mpe x.fb skv x.ef x.cf, own 84 3 x.pv x.ps.length (x.ps.flatMap encP), fsH p d x, blk b3 90 [.map (some b14)], mpe b14 pkv l cl, recsA x.rs, recsA rs', blk b36 73 (fsC d.quota x.rs.length b25 b26 (.slice none 0 0) d.falls d.off), mpe b25 skv es1 cs1, mpe b26 skv es2 cs2]) (fun k => k.2.length) ([], x.ef) ⟨rs', l, cl, [], 0, ⟨rfl, rfl, rfl, rfl, trivial⟩, Going.start _, hC, hH, Half.start _ _ _, Born.nil _, Split.ent' (K := [itA it2 x.fb x.cf [] x.cf, mpe x.sb skv x.es x.cs, mpe x.fb skv x.ef x.cf, own 84 3 x.pv x.ps.length (x.ps.flatMap encP), fsH p d x, blk b3 90 [.map (some b14)], mpe b14 pkv l cl, recsA x.rs, recsA rs', blk b36 73 (fsC d.quota x.rs.length b25 b26 (.slice none 0 0) d.falls d.off), mpe b25 skv es1 cs1, mpe b26 skv [] 0]) (by repeat (first | exact Split.nil | (apply Split.cons; (repeat (first | with_reducible exact Take.here | apply Take.there)))))⟩ ?_
    clear hC hH
    rintro ⟨dn2, td2⟩ env L ⟨rs', l, cl, es2, cs2, hsub, hgo2, hC, hH, hH2, hB2, hE⟩
    dsimp only at hsub hE hgo2 hH2
    refine swp_sub _ hsub ?_
    refine swp_ent hE ?_
    clear hsub hE env L
    refine swp_seq ?_
    refine swp_region ?_
    refine s_ef (ef_next (κ := ByteArray) rfl (by repeat (first | exact Split.nil | (apply Split.cons; (repeat (first | with_reducible exact Take.here | apply Take.there))))) hx.bf.1 (Nat.le_refl _)) ?_
    refine ⟨fun hall2 => ?_, fun y hy hns => ?_⟩
    · skip
      first | refine s_pu (pu_extractL rfl) ?_ | refine s_pu (pu_extract rfl rfl) ?_
      refine swl_sub _ (.cons (t := 0) rfl (.cons (t := 4) rfl (.cons (t := 5) rfl (.cons (t := 59) rfl (.cons (t := 61) rfl .nil))))) ?_
      refine swl_nil ?_
      refine then_n ?_
      refine swp_seq ?_
      refine swp_cond (b := _) rfl (fun h61 => by cases h61) (fun h61 => ?_)
      have htd2 := hgo2.stop hx.bf hall2
      rw [htd2] at hgo2
      have hperm2 : dn2.Perm x.ef := by have := hgo2; unfold Going at this; rwa [List.append_nil] at this
      have hall2' := nmr_all hx.safe hperm2
      refine swp_ent (Split.ent' (K := [own 84 3 x.pv x.ps.length (x.ps.flatMap encP), mpe x.sb skv x.es x.cs, mpe x.fb skv x.ef x.cf, fsH p d x, blk b3 90 [.map (some b14)], mpe b14 pkv l cl, recsA x.rs, recsA rs', blk b36 73 (fsC d.quota x.rs.length b25 b26 (.slice none 0 0) d.falls d.off), mpe b25 skv es1 cs1, mpe b26 skv es2 cs2]) (by repeat (first | exact Split.nil | (apply Split.cons; (repeat (first | with_reducible exact Take.here | apply Take.there)))))) ?_
      refine swp_fact (fun m h => own_cap2 h) fun ⟨A, cap, hv, hlc, hcm, hA, hA2⟩ => ?_
      simp only [maxLen] at hcm
      refine swp_exit ?_
      refine then_x ?_
      refine then_x ?_
      refine block_hit rfl ?_
      refine then_n ?_
      refine swp_seq ?_
      refine swp_seq ?_
      refine swp_region ?_
      refine s_pu (pu_move rfl) ?_
      first | refine s_pu (pu_nilCheck rfl) ?_ | refine s_pu (pu_nilCheck_fn rfl) ?_ | refine s_pu (pu_nilCheck_if rfl) ?_
      first | refine s_pu (pu_fieldAddr0 rfl) ?_ | refine s_pu (pu_fieldAddr rfl) ?_
      refine s_rd (rd_load rfl rfl) ?_
      refine s_pu (pu_len_own ⟨A, cap, hv⟩ rfl) ?_
      refine s_pu (pu_move rfl) ?_
      refine swl_sub _ (.cons (t := 4) rfl (.cons (t := 5) rfl (.cons (t := 76) rfl (.cons (t := 77) rfl (.cons (t := 78) rfl .nil))))) ?_
      refine swl_nil ?_
      refine then_n ?_
      refine swp_block ?_
      refine swp_ent (own_nil_ent (e := 84) (n := 3)) ?_
      refine swp_loop (ι := Nat) (fun i env L => ∃ rs' l cl ps A9 c9, Sub env [(4, .func (.func 60) #[] #[pv b3]), (5, pv b36), (76, x.pv), (77, .int .i64 (x.ps.length : Nat)), (78, .int .i64 (i : Nat))] ∧ i ≤ x.ps.length ∧ Cop x.rs rs' l ∧ Half d d.seen (dn.map (·.1)) es1 rs' ∧ Half d d.safe (dn2.map (·.1)) es2 rs' ∧ PHalf d ps rs' i ∧ Ent L [own 84 3 x.pv x.ps.length (x.ps.flatMap encP), mpe x.sb skv x.es x.cs, mpe x.fb skv x.ef x.cf, fsH p d x, blk b3 90 [.map (some b14)], mpe b14 pkv l cl, recsA x.rs, recsA rs', blk b36 73 (fsC d.quota x.rs.length b25 b26 (.slice A9 ps.length c9) d.falls d.off), mpe b25 skv es1 cs1, mpe b26 skv es2 cs2, own 84 3 (.slice A9 ps.length c9) ps.length (ps.flatMap encP)]) (fun i => x.ps.length - i) 0 ⟨rs', l, cl, [], none, 0, ⟨rfl, rfl, rfl, rfl, rfl, trivial⟩, Nat.zero_le _, hC, hH, hH2, PHalf.start _ _, Split.ent' (K := [own 84 3 x.pv x.ps.length (x.ps.flatMap encP), mpe x.sb skv x.es x.cs, mpe x.fb skv x.ef x.cf, fsH p d x, blk b3 90 [.map (some b14)], mpe b14 pkv l cl, recsA x.rs, recsA rs', blk b36 73 (fsC d.quota x.rs.length b25 b26 (.slice none 0 0) d.falls d.off), mpe b25 skv es1 cs1, mpe b26 skv es2 cs2, own 84 3 (.slice none 0 0) 0 []]) (by repeat (first | exact Split.nil | (apply Split.cons; (repeat (first | with_reducible exact Take.here | apply Take.there)))))⟩ ?_
      clear hC hH hH2
      rintro i env L ⟨rs', l, cl, ps, A9, c9, hsub, hi, hC, hH, hH2, hP, hE⟩
      refine swp_sub _ hsub ?_
      refine swp_ent hE ?_
      clear hsub hE env L
      have hpsl := hP.len
      refine swp_seq ?_
      refine swp_region ?_
      refine s_pu (pu_lss rfl rfl) ?_
      refine swl_sub _ (.cons (t := 4) rfl (.cons (t := 5) rfl (.cons (t := 76) rfl (.cons (t := 77) rfl (.cons (t := 78) rfl (.cons (t := 79) rfl .nil)))))) ?_
      refine swl_nil ?_
      refine then_n ?_
      refine swp_seq ?_
      refine swp_cond (b := _) rfl (fun h79 => ?_) (fun h79 => ?_)
      · skip   -- 79 T
        have h79' : i < x.ps.length := by have := of_decide_eq_true h79; omega
        obtain ⟨a, ha⟩ : ∃ a, A = some a := by cases A with | none => have := hA rfl; omega | some a => exact ⟨a, rfl⟩
        obtain ⟨b, rfl⟩ := hA2 a ha
        subst ha
        obtain ⟨pc, hpc⟩ : ∃ q, x.ps[i]? = some q := ⟨_, List.getElem?_eq_getElem h79'⟩
        obtain ⟨cg, hcg⟩ : ∃ q, d.pend[i]? = some q := ⟨_, List.getElem?_eq_getElem (by omega)⟩
        have hpr := hx.ps.2 i pc cg hpc hcg
        have hat := flat_at (f := encP) (n := 3) (fun _ => rfl) hpc
        obtain ⟨g0, c0, v0⟩ := pc
        obtain ⟨o, rfl⟩ : ∃ o, v0 = .pointer o := by
          have := hpr.2.2
          dsimp only at this
          rw [this]
          split
          · exact ⟨_, rfl⟩
          · unfold adr
            split
            · exact ⟨_, rfl⟩
            · exact ⟨_, rfl⟩
        have hlive : strEq cg.come nos = false → ∃ r, x.rs[cg.file]? = some r ∧ r.f = d.fl cg.file := fun e => hx.fl cg.file (.inr (.inr ⟨cg, List.mem_of_getElem? hcg, e, rfl⟩))
        refine swp_skip ?_
        refine then_n ?_
        refine swp_seq ?_
        refine swp_block ?_
        refine swp_seq ?_
        refine swp_region ?_
        refine s_pu (pu_indexAddr (0 + i * 3) (congrArg some hv) rfl (by omega) (by omega) (by rw [Int.toNat_natCast])) ?_
        refine s_rd (rd_ownA (vs := [.string g0, .string c0, .pointer o]) rfl (by rw [← hv]; exact (by repeat (first | with_reducible exact Take.here | apply Take.there))) rfl (fun j v hj => by rw [Nat.zero_add]; exact hat j v hj)) ?_
        refine s_ef (ef_alloc) ?_
        intro b11
        refine s_ef0 (ef_storeA rfl rfl rfl rfl) ?_
        refine swl_sub _ (.cons (t := 4) rfl (.cons (t := 5) rfl (.cons (t := 11) rfl (.cons (t := 76) rfl (.cons (t := 77) rfl (.cons (t := 78) rfl .nil)))))) ?_
        refine swl_nil ?_
        refine then_n ?_
        refine swp_ent (Split.ent' (K := [blk b36 73 (fsC d.quota x.rs.length b25 b26 (.slice A9 ps.length c9) d.falls d.off), blk b11 84 [.string g0, .string c0, .pointer o], blk b3 90 [.map (some b14)], mpe b14 pkv l cl, recsA x.rs, recsA rs', own 84 3 (.slice A9 ps.length c9) ps.length (ps.flatMap encP), mpe b25 skv es1 cs1, mpe b26 skv es2 cs2, own 84 3 x.pv x.ps.length (x.ps.flatMap encP), mpe x.sb skv x.es x.cs, mpe x.fb skv x.ef x.cf, fsH p d x]) (by repeat (first | exact Split.nil | (apply Split.cons; (repeat (first | with_reducible exact Take.here | apply Take.there)))))) ?_
        refine swp_draw [4, 6, 8, 11] ([blk b36 73 (fsC d.quota x.rs.length b25 b26 (.slice A9 ps.length c9) d.falls d.off), blk b11 84 [.string g0, .string c0, .pointer o]]) ([blk b3 90 [.map (some b14)], mpe b14 pkv l cl, recsA x.rs, recsA rs', own 84 3 (.slice A9 ps.length c9) ps.length (ps.flatMap encP), mpe b25 skv es1 cs1, mpe b26 skv es2 cs2, own 84 3 x.pv x.ps.length (x.ps.flatMap encP), mpe x.sb skv x.es x.cs, mpe x.fb skv x.ef x.cf, fsH p d x]) (Split.ent (by repeat (first | exact Split.nil | (apply Split.cons; (repeat (first | with_reducible exact Take.here | apply Take.there)))))) (by kernel_rfl) ?_
        refine d_pu 0 rfl (pu_move rfl) (by kernel_rfl) (by kernel_rfl) (by kernel_rfl) ?_
        refine d_pu 1 rfl (pu_move rfl) (by kernel_rfl) (by kernel_rfl) (by kernel_rfl) ?_
        first | refine d_pu 2 rfl (pu_nilCheck rfl) (by kernel_rfl) (by kernel_rfl) (by kernel_rfl) ?_ | refine d_pu 2 rfl (pu_nilCheck_fn rfl) (by kernel_rfl) (by kernel_rfl) (by kernel_rfl) ?_ | refine d_pu 2 rfl (pu_nilCheck_if rfl) (by kernel_rfl) (by kernel_rfl) (by kernel_rfl) ?_
        first | refine d_pu 3 rfl (pu_fieldAddr0 rfl) (by kernel_rfl) (by kernel_rfl) (by kernel_rfl) ?_ | refine d_pu 3 rfl (pu_fieldAddr rfl) (by kernel_rfl) (by kernel_rfl) (by kernel_rfl) ?_
        refine d_rd 4 rfl (rd_load rfl rfl) rfl (by kernel_rfl) (by kernel_rfl) (by kernel_rfl) ?_
        first | refine d_pu 5 rfl (pu_fieldAddr0 rfl) (by kernel_rfl) (by kernel_rfl) (by kernel_rfl) ?_ | refine d_pu 5 rfl (pu_fieldAddr rfl) (by kernel_rfl) (by kernel_rfl) (by kernel_rfl) ?_
        refine d_rd 6 rfl (rd_load rfl rfl) rfl (by kernel_rfl) (by kernel_rfl) (by kernel_rfl) ?_
        first | refine d_pu 7 rfl (pu_fieldAddr0 rfl) (by kernel_rfl) (by kernel_rfl) (by kernel_rfl) ?_ | refine d_pu 7 rfl (pu_fieldAddr rfl) (by kernel_rfl) (by kernel_rfl) (by kernel_rfl) ?_
        refine d_rd 8 rfl (rd_load rfl rfl) rfl (by kernel_rfl) (by kernel_rfl) (by kernel_rfl) ?_
        refine d_pu 9 rfl (pu_move rfl) (by kernel_rfl) (by kernel_rfl) (by kernel_rfl) ?_
        first | refine d_pu 10 rfl (pu_fieldAddr0 rfl) (by kernel_rfl) (by kernel_rfl) (by kernel_rfl) ?_ | refine d_pu 10 rfl (pu_fieldAddr rfl) (by kernel_rfl) (by kernel_rfl) (by kernel_rfl) ?_
        refine d_rd 11 rfl (rd_load rfl rfl) rfl (by kernel_rfl) (by kernel_rfl) (by kernel_rfl) ?_
        refine d_eft 12 rfl (by kernel_rfl) (ef_clo (fi := []) (args := [.pointer o]) (ca := [pv b3]) (copyp_spec b3 b14 cl d hd x.rs rs' l hD hC g0 c0 o cg hpr hlive) rfl rfl (by repeat (first | exact Split.nil | (apply Split.cons; (repeat (first | with_reducible exact Take.here | apply Take.there)))))) ?_
        rintro v94 L1 ⟨rs2, l2, c2, o2, rfl, hpr2, hth, hC2, hG, rfl⟩
        refine ⟨_, ent_appC (Split.ent (by repeat (first | exact Split.nil | (apply Split.cons; (repeat (first | with_reducible exact Take.here | apply Take.there)))))), ?_⟩
        refine d_pu 13 rfl (pu_bld (qs := [(0, _), (1, _), (2, _)]) rfl) (by kernel_rfl) (by kernel_rfl) (by kernel_rfl) ?_
        refine d_eft 14 rfl (by kernel_rfl) (ef_bldS (qs := [(0, _)]) rfl rfl rfl) ?_
        intro b96
        refine ⟨_, Split.ent (by repeat (first | exact Split.nil | (apply Split.cons; (repeat (first | with_reducible exact Take.here | apply Take.there))))), ?_⟩
        first | refine d_fint 15 rfl (by kernel_rfl) (by kernel_rfl) (ef_append_lit (l := ps.length) (m := 1) (news := [.string g0, .string c0, .pointer o2]) rfl rfl (by repeat (first | exact Split.nil | (apply Split.cons; (repeat (first | with_reducible exact Take.here | apply Take.there))))) (by simp only [maxLen]; omega) (by omega)) ?_ | refine d_finf 15 rfl (by kernel_rfl) (by kernel_rfl) (ef_append_lit (l := ps.length) (m := 1) (news := [.string g0, .string c0, .pointer o2]) rfl rfl (by repeat (first | exact Split.nil | (apply Split.cons; (repeat (first | with_reducible exact Take.here | apply Take.there))))) (by simp only [maxLen]; omega) (by omega)) ?_
        rintro w' hw'
        obtain ⟨g7, c7, rfl⟩ := hw' (by decide)
        first | refine d_pu 16 rfl (pu_nilCheck rfl) (by kernel_rfl) (by kernel_rfl) (by kernel_rfl) ?_ | refine d_pu 16 rfl (pu_nilCheck_fn rfl) (by kernel_rfl) (by kernel_rfl) (by kernel_rfl) ?_ | refine d_pu 16 rfl (pu_nilCheck_if rfl) (by kernel_rfl) (by kernel_rfl) (by kernel_rfl) ?_
        first | refine d_pu 17 rfl (pu_fieldAddr0 rfl) (by kernel_rfl) (by kernel_rfl) (by kernel_rfl) ?_ | refine d_pu 17 rfl (pu_fieldAddr rfl) (by kernel_rfl) (by kernel_rfl) (by kernel_rfl) ?_
        first | refine d_fin0t 18 rfl (by kernel_rfl) (by kernel_rfl) (ef_store rfl rfl rfl) ?_ | refine d_fin0f 18 rfl (by kernel_rfl) (by kernel_rfl) (ef_store rfl rfl rfl) ?_
        refine d_sub _ (.cons (t := 4) rfl (.cons (t := 5) rfl (.cons (t := 76) rfl (.cons (t := 77) rfl (.cons (t := 78) rfl .nil))))) ?_
        first | refine d_nilt (by kernel_rfl) ?_ | refine d_nilf (by kernel_rfl) ?_
        refine block_n ?_
        refine then_n ?_
        refine swp_region ?_
        refine s_pu (pu_add_as ((i + 1 : Nat) : Int) rfl rfl (by omega) (by omega) (by omega)) ?_
        refine s_pu (pu_move rfl) ?_
        refine swl_sub _ (.cons (t := 4) rfl (.cons (t := 5) rfl (.cons (t := 76) rfl (.cons (t := 77) rfl (.cons (t := 78) rfl .nil))))) ?_
        refine swl_nil ?_
        have hP2 := (hP.grow hG).step hcg hpr2 hth
        refine then_n ⟨i + 1, ⟨rs2, l2, c2, ps ++ [((g0, c0, Value.pointer o2) : Pc)], some ⟨g7, 0, none⟩, c7, ⟨rfl, rfl, rfl, rfl, rfl, trivial⟩, h79', hC2, hH.grow hG, hH2.grow hG, hP2, ?_⟩, by omega⟩
        rw [show (ps ++ [((g0, c0, Value.pointer o2) : Pc)]).flatMap encP = ps.flatMap encP ++ [.string g0, .string c0, .pointer o2] by rw [List.flatMap_append]; rfl, show (ps ++ [((g0, c0, Value.pointer o2) : Pc)]).length = ps.length + 1 by rw [List.length_append]; rfl]
        exact Split.ent' (by repeat (first | exact Split.nil | (apply Split.cons; (repeat (first | with_reducible exact Take.here | apply Take.there)))))
      · skip   -- 79 F
        have h79' : i = x.ps.length := by have := of_decide_eq_false h79; omega
        have hR : Rep d (⟨b25, b26, es1, cs1, es2, cs2, rs', ps, .slice A9 ps.length c9⟩ : FX) := by
          refine ⟨hH.fin hall1, hH2.fin hall2', hB, hB2, hC.len.trans hx.len, fun k hk => ?_, by show ps.length = _; omega, fun j q c hq hc => (hP.rel j q c hq hc).1⟩
          have ht : There d rs' k := by
            rcases hk with ⟨y, hy, rfl⟩ | ⟨y, hy, rfl⟩ | ⟨c, hc, e, rfl⟩
            · have hf := findN_of hd.seenOk.nodup (s := y.1) (k := y.2) hy
              exact hH.real y.1 (hall1 _ _ hf) y.2 hf
            · have hf := findN_of hd.safe.nodup (s := y.1) (k := y.2) hy
              exact hH2.real y.1 (hall2' _ _ hf) y.2 hf
            · obtain ⟨j, hj⟩ := List.getElem?_of_mem hc
              have hjl := (List.getElem?_eq_some_iff.1 hj).1
              obtain ⟨q, hq⟩ : ∃ q, ps[j]? = some q := ⟨_, List.getElem?_eq_getElem (by omega)⟩
              exact (hP.rel j q c hq hj).2 e
          obtain ⟨r, h1, _, h3⟩ := ht
          exact ⟨r, h1, h3⟩
        have hcl : ∀ L, Ent (blk b36 73 (fsC d.quota x.rs.length b25 b26 (.slice A9 ps.length c9) d.falls d.off) :: mpe b25 skv es1 cs1 :: mpe b26 skv es2 cs2 :: own 84 3 (.slice A9 ps.length c9) ps.length (ps.flatMap encP) :: recsA rs' :: L) (FSA b36 d :: L) := fun L => by
          rw [← hC.len]; exact fs_close (x := (⟨b25, b26, es1, cs1, es2, cs2, rs', ps, .slice A9 ps.length c9⟩ : FX)) hR
        refine swp_exit ?_
        refine then_x ?_
        refine then_x ?_
        refine block_hit rfl ?_
        refine then_n ?_
        refine swp_seq ?_
        refine swp_region ?_
        refine s_pu (pu_move rfl) ?_
        refine s_pu (pu_assign rfl) ?_
        refine swl_sub _ (.cons (t := 2) rfl .nil) ?_
        refine swl_nil ?_
        refine then_n ?_
        refine swp_ret ?_
        exact done_retE [FSA p d, FSA b36 d] (.tmp rfl .nil) ⟨b36, rfl, rfl⟩ ((Split.ent' (K := [fsH p d x, mpe x.sb skv x.es x.cs, mpe x.fb skv x.ef x.cf, own 84 3 x.pv x.ps.length (x.ps.flatMap encP), recsA x.rs, blk b36 73 (fsC d.quota x.rs.length b25 b26 (.slice A9 ps.length c9) d.falls d.off), mpe b25 skv es1 cs1, mpe b26 skv es2 cs2, own 84 3 (.slice A9 ps.length c9) ps.length (ps.flatMap encP), recsA rs']) (by repeat (first | exact Split.nil | (apply Split.cons; (repeat (first | with_reducible exact Take.here | apply Take.there)))))).trans ((fs_close hx).trans (Ent.cons (hcl []))))
    · skip
      first | refine s_pu (pu_extractL rfl) ?_ | refine s_pu (pu_extract rfl rfl) ?_
      refine swl_sub _ (.cons (t := 0) rfl (.cons (t := 4) rfl (.cons (t := 5) rfl (.cons (t := 59) rfl (.cons (t := 61) rfl .nil))))) ?_
      refine swl_nil ?_
      refine then_n ?_
      refine swp_seq ?_
      refine swp_cond (b := _) rfl (fun h61 => ?_) (fun h61 => by cases h61)
      obtain ⟨td', hgo', hlt⟩ := hgo2.step hy hns
      obtain ⟨k, hk, hv⟩ := nmr_at hx.safe hy
      obtain ⟨r, hr, hf⟩ := hx.fl k (.inr (.inl ⟨_, findN_mem hk, rfl⟩))
      have hyv : y.2.1 = pv r.a := by rw [hv, adr_at hr]
      refine swp_skip ?_
      refine then_n ?_
      refine swp_block ?_
      refine swp_seq ?_
      refine swp_region ?_
      refine s_rd (rd_entry (κ := ByteArray) rfl (by repeat (first | exact Split.nil | (apply Split.cons; (repeat (first | with_reducible exact Take.here | apply Take.there))))) hy hx.bf) ?_
      first | refine s_pu (pu_extractL rfl) ?_ | refine s_pu (pu_extract rfl rfl) ?_
      first | refine s_pu (pu_extractL rfl) ?_ | refine s_pu (pu_extract rfl rfl) ?_
      refine s_pu (pu_assign rfl) ?_
      refine s_pu (pu_assign rfl) ?_
      refine swl_sub _ (.cons (t := 0) rfl (.cons (t := 4) rfl (.cons (t := 5) rfl (.cons (t := 8) rfl (.cons (t := 9) rfl (.cons (t := 59) rfl .nil)))))) ?_
      refine swl_nil ?_
      refine then_n ?_
      rw [hyv]
      refine swp_ent (Split.ent' (K := [blk b36 73 (fsC d.quota x.rs.length b25 b26 (.slice none 0 0) d.falls d.off), blk b3 90 [.map (some b14)], mpe b14 pkv l cl, recsA x.rs, recsA rs', mpe b25 skv es1 cs1, mpe b26 skv es2 cs2, itA it2 x.fb x.cf (dn2.map (·.2.2) ++ [y.2.2]) x.cf, mpe x.sb skv x.es x.cs, mpe x.fb skv x.ef x.cf, own 84 3 x.pv x.ps.length (x.ps.flatMap encP), fsH p d x]) (by repeat (first | exact Split.nil | (apply Split.cons; (repeat (first | with_reducible exact Take.here | apply Take.there)))))) ?_
      refine swp_draw [3] ([blk b36 73 (fsC d.quota x.rs.length b25 b26 (.slice none 0 0) d.falls d.off)]) ([blk b3 90 [.map (some b14)], mpe b14 pkv l cl, recsA x.rs, recsA rs', mpe b25 skv es1 cs1, mpe b26 skv es2 cs2, itA it2 x.fb x.cf (dn2.map (·.2.2) ++ [y.2.2]) x.cf, mpe x.sb skv x.es x.cs, mpe x.fb skv x.ef x.cf, own 84 3 x.pv x.ps.length (x.ps.flatMap encP), fsH p d x]) (Split.ent (by repeat (first | exact Split.nil | (apply Split.cons; (repeat (first | with_reducible exact Take.here | apply Take.there)))))) (by kernel_rfl) ?_
      refine d_pu 0 rfl (pu_move rfl) (by kernel_rfl) (by kernel_rfl) (by kernel_rfl) ?_
      first | refine d_pu 1 rfl (pu_nilCheck rfl) (by kernel_rfl) (by kernel_rfl) (by kernel_rfl) ?_ | refine d_pu 1 rfl (pu_nilCheck_fn rfl) (by kernel_rfl) (by kernel_rfl) (by kernel_rfl) ?_ | refine d_pu 1 rfl (pu_nilCheck_if rfl) (by kernel_rfl) (by kernel_rfl) (by kernel_rfl) ?_
      first | refine d_pu 2 rfl (pu_fieldAddr0 rfl) (by kernel_rfl) (by kernel_rfl) (by kernel_rfl) ?_ | refine d_pu 2 rfl (pu_fieldAddr rfl) (by kernel_rfl) (by kernel_rfl) (by kernel_rfl) ?_
      refine d_rd 3 rfl (rd_load rfl rfl) rfl (by kernel_rfl) (by kernel_rfl) (by kernel_rfl) ?_
      refine d_pu 4 rfl (pu_move rfl) (by kernel_rfl) (by kernel_rfl) (by kernel_rfl) ?_
      refine d_pu 5 rfl (pu_move rfl) (by kernel_rfl) (by kernel_rfl) (by kernel_rfl) ?_
      refine d_pu 6 rfl (pu_move rfl) (by kernel_rfl) (by kernel_rfl) (by kernel_rfl) ?_
      refine d_eft 7 rfl (by kernel_rfl) (ef_clo (fi := []) (args := [pv r.a]) (ca := [pv b3]) (copy1_spec b3 b14 cl k d hd x.rs rs' l hD hC r hr hf) rfl rfl (by repeat (first | exact Split.nil | (apply Split.cons; (repeat (first | with_reducible exact Take.here | apply Take.there)))))) ?_
      rintro v72 L1 ⟨rs2, l2, c2, r2, rfl, hr2, hR2, hf2, hC2, hG, rfl⟩
      refine ⟨_, ent_appC (Split.ent (by repeat (first | exact Split.nil | (apply Split.cons; (repeat (first | with_reducible exact Take.here | apply Take.there)))))), ?_⟩
      first | refine d_fin0t 8 rfl (by kernel_rfl) (by kernel_rfl) (ef_upd (kv := skv) _ rfl rfl rfl (by repeat (first | exact Split.nil | (apply Split.cons; (repeat (first | with_reducible exact Take.here | apply Take.there)))))) ?_ | refine d_fin0f 8 rfl (by kernel_rfl) (by kernel_rfl) (ef_upd (kv := skv) _ rfl rfl rfl (by repeat (first | exact Split.nil | (apply Split.cons; (repeat (first | with_reducible exact Take.here | apply Take.there)))))) ?_
      refine d_sub _ (.cons (t := 0) rfl (.cons (t := 4) rfl (.cons (t := 5) rfl (.cons (t := 59) rfl .nil)))) ?_
      first | refine d_nilt (by kernel_rfl) ?_ | refine d_nilf (by kernel_rfl) ?_
      refine block_n ?_
      have hH3 := (hH2.grow hG).step hk hr2 hR2 hf2 cs2
      refine then_n ⟨(dn2 ++ [y], td'), ⟨rs2, l2, c2, upd es2 cs2 y.1 (pv r2.a), updC es2 cs2 y.1, ⟨rfl, rfl, rfl, rfl, trivial⟩, hgo', hC2, hH.grow hG, ?_, hB2.upd _ _, ?_⟩, by dsimp only; omega⟩
      · dsimp only; rw [List.map_append]; exact hH3
      · dsimp only
        rw [show (dn2 ++ [y]).map (·.2.2) = dn2.map (·.2.2) ++ [y.2.2] by rw [List.map_append]; rfl]
        exact Split.ent' (by repeat (first | exact Split.nil | (apply Split.cons; (repeat (first | with_reducible exact Take.here | apply Take.there)))))
  · skip
    first | refine s_pu (pu_extractL rfl) ?_ | refine s_pu (pu_extract rfl rfl) ?_
    refine swl_sub _ (.cons (t := 0) rfl (.cons (t := 4) rfl (.cons (t := 5) rfl (.cons (t := 41) rfl (.cons (t := 43) rfl .nil))))) ?_
    refine swl_nil ?_
    refine then_n ?_
    refine swp_seq ?_
    refine swp_cond (b := _) rfl (fun h43 => ?_) (fun h43 => by cases h43)
    obtain ⟨td', hgo', hlt⟩ := hgo.step hy hns
    obtain ⟨k, hk, hv⟩ := nmr_at hx.seen hy
    obtain ⟨r, hr, hf⟩ := hx.fl k (.inl ⟨_, findN_mem hk, rfl⟩)
    have hyv : y.2.1 = pv r.a := by rw [hv, adr_at hr]
    refine swp_skip ?_
    refine then_n ?_
    refine swp_block ?_
    refine swp_seq ?_
    refine swp_region ?_
    refine s_rd (rd_entry (κ := ByteArray) rfl (by repeat (first | exact Split.nil | (apply Split.cons; (repeat (first | with_reducible exact Take.here | apply Take.there))))) hy hx.bs) ?_
    first | refine s_pu (pu_extractL rfl) ?_ | refine s_pu (pu_extract rfl rfl) ?_
    first | refine s_pu (pu_extractL rfl) ?_ | refine s_pu (pu_extract rfl rfl) ?_
    refine s_pu (pu_assign rfl) ?_
    refine s_pu (pu_assign rfl) ?_
    refine swl_sub _ (.cons (t := 0) rfl (.cons (t := 4) rfl (.cons (t := 5) rfl (.cons (t := 6) rfl (.cons (t := 7) rfl (.cons (t := 41) rfl .nil)))))) ?_
    refine swl_nil ?_
    refine then_n ?_
    rw [hyv]
    refine swp_ent (Split.ent' (K := [blk b36 73 (fsC d.quota x.rs.length b25 b26 (.slice none 0 0) d.falls d.off), blk b3 90 [.map (some b14)], mpe b14 pkv l cl, recsA x.rs, recsA rs', mpe b25 skv es1 cs1, mpe b26 skv [] 0, itA it x.sb x.cs (dn.map (·.2.2) ++ [y.2.2]) x.cs, mpe x.sb skv x.es x.cs, mpe x.fb skv x.ef x.cf, own 84 3 x.pv x.ps.length (x.ps.flatMap encP), fsH p d x]) (by repeat (first | exact Split.nil | (apply Split.cons; (repeat (first | with_reducible exact Take.here | apply Take.there)))))) ?_
    refine swp_draw [3] ([blk b36 73 (fsC d.quota x.rs.length b25 b26 (.slice none 0 0) d.falls d.off)]) ([blk b3 90 [.map (some b14)], mpe b14 pkv l cl, recsA x.rs, recsA rs', mpe b25 skv es1 cs1, mpe b26 skv [] 0, itA it x.sb x.cs (dn.map (·.2.2) ++ [y.2.2]) x.cs, mpe x.sb skv x.es x.cs, mpe x.fb skv x.ef x.cf, own 84 3 x.pv x.ps.length (x.ps.flatMap encP), fsH p d x]) (Split.ent (by repeat (first | exact Split.nil | (apply Split.cons; (repeat (first | with_reducible exact Take.here | apply Take.there)))))) (by kernel_rfl) ?_
    refine d_pu 0 rfl (pu_move rfl) (by kernel_rfl) (by kernel_rfl) (by kernel_rfl) ?_
    first | refine d_pu 1 rfl (pu_nilCheck rfl) (by kernel_rfl) (by kernel_rfl) (by kernel_rfl) ?_ | refine d_pu 1 rfl (pu_nilCheck_fn rfl) (by kernel_rfl) (by kernel_rfl) (by kernel_rfl) ?_ | refine d_pu 1 rfl (pu_nilCheck_if rfl) (by kernel_rfl) (by kernel_rfl) (by kernel_rfl) ?_
    first | refine d_pu 2 rfl (pu_fieldAddr0 rfl) (by kernel_rfl) (by kernel_rfl) (by kernel_rfl) ?_ | refine d_pu 2 rfl (pu_fieldAddr rfl) (by kernel_rfl) (by kernel_rfl) (by kernel_rfl) ?_
    refine d_rd 3 rfl (rd_load rfl rfl) rfl (by kernel_rfl) (by kernel_rfl) (by kernel_rfl) ?_
    refine d_pu 4 rfl (pu_move rfl) (by kernel_rfl) (by kernel_rfl) (by kernel_rfl) ?_
    refine d_pu 5 rfl (pu_move rfl) (by kernel_rfl) (by kernel_rfl) (by kernel_rfl) ?_
    refine d_pu 6 rfl (pu_move rfl) (by kernel_rfl) (by kernel_rfl) (by kernel_rfl) ?_
    refine d_eft 7 rfl (by kernel_rfl) (ef_clo (fi := []) (args := [pv r.a]) (ca := [pv b3]) (copy1_spec b3 b14 cl k d hd x.rs rs' l hD hC r hr hf) rfl rfl (by repeat (first | exact Split.nil | (apply Split.cons; (repeat (first | with_reducible exact Take.here | apply Take.there)))))) ?_
    rintro v54 L1 ⟨rs2, l2, c2, r2, rfl, hr2, hR2, hf2, hC2, hG, rfl⟩
    refine ⟨_, ent_appC (Split.ent (by repeat (first | exact Split.nil | (apply Split.cons; (repeat (first | with_reducible exact Take.here | apply Take.there)))))), ?_⟩
    first | refine d_fin0t 8 rfl (by kernel_rfl) (by kernel_rfl) (ef_upd (kv := skv) _ rfl rfl rfl (by repeat (first | exact Split.nil | (apply Split.cons; (repeat (first | with_reducible exact Take.here | apply Take.there)))))) ?_ | refine d_fin0f 8 rfl (by kernel_rfl) (by kernel_rfl) (ef_upd (kv := skv) _ rfl rfl rfl (by repeat (first | exact Split.nil | (apply Split.cons; (repeat (first | with_reducible exact Take.here | apply Take.there)))))) ?_
    refine d_sub _ (.cons (t := 0) rfl (.cons (t := 4) rfl (.cons (t := 5) rfl (.cons (t := 41) rfl .nil)))) ?_
    first | refine d_nilt (by kernel_rfl) ?_ | refine d_nilf (by kernel_rfl) ?_
    refine block_n ?_
    have hH2 := (hH.grow hG).step hk hr2 hR2 hf2 cs1
    refine then_n ⟨(dn ++ [y], td'), ⟨rs2, l2, c2, upd es1 cs1 y.1 (pv r2.a), updC es1 cs1 y.1, ⟨rfl, rfl, rfl, rfl, trivial⟩, hgo', hC2, ?_, hB.upd _ _, ?_⟩, by dsimp only; omega⟩
    · dsimp only; rw [List.map_append]; exact hH2
    · dsimp only
      rw [show (dn ++ [y]).map (·.2.2) = dn.map (·.2.2) ++ [y.2.2] by rw [List.map_append]; rfl]
      exact Split.ent' (by repeat (first | exact Split.nil | (apply Split.cons; (repeat (first | with_reducible exact Take.here | apply Take.there)))))
end SX
namespace SX
open Go Go.Proofs
end SX
namespace SX
open Go Go.Proofs
end SX
namespace SX
open Go Go.Proofs
set_option maxHeartbeats 8000000 in
theorem simfscopies_bad (μ : PH) (q : Int) (v1 v2 v3 : Value) (f2 : ∃ A l c, v2 = .slice A l c) (f3 : ∃ A l c, v3 = .slice A l c) (h : ¬ newOk q) : Spec Try.prog 8 [.int .i64 q, v1, .agg #[v2, v3]] [ro μ] (fun r L => r = .bool true ∧ ∃ μ' R, Le μ μ' ∧ L = ro μ' :: R) := by
  obtain ⟨A2, l2, c2, rfl⟩ := f2
  obtain ⟨A3, l3, c3, rfl⟩ := f3
  refine Spec.of 114 Try.func8 rfl rfl rfl ?_
  refine swp_seq ?_
  refine swp_region ?_
  refine s_ef (ef_box rfl rfl) ?_
  intro b5
  refine s_pu (pu_assign rfl) ?_
  refine swl_sub _ (.cons (t := 0) rfl (.cons (t := 1) rfl (.cons (t := 5) rfl .nil))) ?_
  refine swl_nil ?_
  refine then_n ?_
  refine swp_seq ?_
  refine swp_seq ?_
  refine swp_region ?_
  refine s_ef (ef_fn stands_spec rfl rfl (by repeat (first | exact Split.nil | (apply Split.cons; (repeat (first | with_reducible exact Take.here | apply Take.there)))))) ?_
  rintro v17 L1 ⟨rfl, rfl⟩
  refine swl_app ?_
  refine s_pu (pu_not rfl) ?_
  refine swl_sub _ (.cons (t := 0) rfl (.cons (t := 1) rfl (.cons (t := 5) rfl (.cons (t := 18) rfl .nil)))) ?_
  refine swl_nil ?_
  refine then_n ?_
  refine swp_cond (b := _) rfl (fun h18 => by cases h18) (fun h18 => ?_)
  refine swp_skip ?_
  refine then_n ?_
  refine swp_seq ?_
  refine swp_region ?_
  refine s_pu (pu_move rfl) ?_
  refine s_ef (ef_fn (begun_bad q h) rfl rfl (by repeat (first | exact Split.nil | (apply Split.cons; (repeat (first | with_reducible exact Take.here | apply Take.there)))))) ?_
  rintro v21 L1 ⟨rfl, rfl⟩
  refine swl_app ?_
  refine s_pu (pu_move rfl) ?_
  first | refine s_pu (pu_extractL rfl) ?_ | refine s_pu (pu_extract rfl rfl) ?_
  first | refine s_pu (pu_extractL rfl) ?_ | refine s_pu (pu_extract rfl rfl) ?_
  first | refine s_pu (pu_extractL rfl) ?_ | refine s_pu (pu_extract rfl rfl) ?_
  refine s_pu (pu_assign rfl) ?_
  refine s_pu (pu_assign rfl) ?_
  refine s_pu (pu_assign rfl) ?_
  refine swl_sub _ (.cons (t := 1) rfl (.cons (t := 5) rfl (.cons (t := 7) rfl (.cons (t := 8) rfl (.cons (t := 9) rfl .nil))))) ?_
  refine swl_nil ?_
  refine then_n ?_
  refine swp_seq ?_
  refine swp_seq ?_
  refine swp_region ?_
  refine s_pu (pu_move rfl) ?_
  refine s_pu (pu_ptr_eq_nil rfl rfl) ?_
  refine s_pu (pu_move rfl) ?_
  refine s_split 27 rfl (fun h27 => ?_) (fun h27 => by cases h27)
  refine s_off rfl rfl rfl ?_
  refine s_off rfl rfl rfl ?_
  first | refine s_pu (pu_pick_t rfl rfl) ?_ | refine s_pu (pu_pick_f rfl rfl) ?_
  refine swl_sub _ (.cons (t := 1) rfl (.cons (t := 5) rfl (.cons (t := 7) rfl (.cons (t := 8) rfl (.cons (t := 9) rfl (.cons (t := 30) rfl .nil)))))) ?_
  refine swl_nil ?_
  refine then_n ?_
  refine swp_cond (b := _) rfl (fun h30 => ?_) (fun h30 => by cases h30)
  refine swp_seq ?_
  refine swp_region ?_
  refine s_pu (pu_move rfl) ?_
  refine s_pu (pu_assign rfl) ?_
  refine swl_sub _ (.cons (t := 6) rfl .nil) ?_
  refine swl_nil ?_
  refine then_n ?_
  refine swp_ret ?_
  refine then_r ?_
  exact done_retE [ro μ] (.tmp rfl .nil) ⟨rfl, μ, [], Le.refl _, rfl⟩ (Split.ent' (by repeat (first | exact Split.nil | (apply Split.cons; (repeat (first | with_reducible exact Take.here | apply Take.there))))))
set_option maxHeartbeats 16000000 in
theorem simfscopies_good (μ : PH) (q : Int) (v1 v2 v3 : Value) (xs ys zs : List OpA) (h : newOk q) (hrow0 : Row μ v1 7 xs.length (xs.flatMap ocs)) (hops : ∀ o ∈ xs, OpOk μ o) (hts : ∀ o ∈ xs, o.text.size ≤ 140737488351232)
    (hrow1 : Row μ v2 7 ys.length (ys.flatMap ocs)) (hopsy : ∀ o ∈ ys, OpOk μ o) (htsy : ∀ o ∈ ys, o.text.size ≤ 140737488351232) (hrow2 : Row μ v3 7 zs.length (zs.flatMap ocs)) (hopsz : ∀ o ∈ zs, OpOk μ o) (htsz : ∀ o ∈ zs, o.text.size ≤ 140737488351232) :
    Spec Try.prog 8 [.int .i64 q, v1, .agg #[v2, v3]] [ro μ] (fun r L => r = .bool true ∧ ∃ μ' R, Le μ μ' ∧ L = ro μ' :: R) := by
  obtain ⟨hl0, A, cap, rfl, hlc, hcm, hnil, hpos⟩ := hrow0
  obtain ⟨_, AY, capY, rfl, hlcY, hcmY, hnilY, hposY⟩ := hrow1
  obtain ⟨_, AZ, capZ, rfl, hlcZ, hcmZ, hnilZ, hposZ⟩ := hrow2
  obtain ⟨KK, hKK⟩ : ∃ K, K = min xs.length 200 := ⟨_, rfl⟩
  simp only [maxLen] at hcm hcmY hcmZ
  refine Spec.of 114 Try.func8 rfl rfl rfl ?_
  refine swp_seq ?_
  refine swp_region ?_
  refine s_ef (ef_box rfl rfl) ?_
  intro b5
  refine s_pu (pu_assign rfl) ?_
  refine swl_sub _ (.cons (t := 0) rfl (.cons (t := 1) rfl (.cons (t := 5) rfl .nil))) ?_
  refine swl_nil ?_
  refine then_n ?_
  refine swp_seq ?_
  refine swp_seq ?_
  refine swp_region ?_
  refine s_ef (ef_fn stands_spec rfl rfl (by repeat (first | exact Split.nil | (apply Split.cons; (repeat (first | with_reducible exact Take.here | apply Take.there)))))) ?_
  rintro v17 L1 ⟨rfl, rfl⟩
  refine swl_app ?_
  refine s_pu (pu_not rfl) ?_
  refine swl_sub _ (.cons (t := 0) rfl (.cons (t := 1) rfl (.cons (t := 5) rfl (.cons (t := 18) rfl .nil)))) ?_
  refine swl_nil ?_
  refine then_n ?_
  refine swp_cond (b := _) rfl (fun h18 => by cases h18) (fun h18 => ?_)
  refine swp_skip ?_
  refine then_n ?_
  refine swp_seq ?_
  refine swp_region ?_
  refine s_pu (pu_move rfl) ?_
  refine s_ef (ef_fn (begun_at q h) rfl rfl (by repeat (first | exact Split.nil | (apply Split.cons; (repeat (first | with_reducible exact Take.here | apply Take.there)))))) ?_
  rintro v21 L1 ⟨p, w, rfl, rfl⟩
  refine swl_app ?_
  refine s_pu (pu_move rfl) ?_
  first | refine s_pu (pu_extractL rfl) ?_ | refine s_pu (pu_extract rfl rfl) ?_
  first | refine s_pu (pu_extractL rfl) ?_ | refine s_pu (pu_extract rfl rfl) ?_
  first | refine s_pu (pu_extractL rfl) ?_ | refine s_pu (pu_extract rfl rfl) ?_
  refine s_pu (pu_assign rfl) ?_
  refine s_pu (pu_assign rfl) ?_
  refine s_pu (pu_assign rfl) ?_
  refine swl_sub _ (.cons (t := 1) rfl (.cons (t := 5) rfl (.cons (t := 7) rfl (.cons (t := 8) rfl (.cons (t := 9) rfl .nil))))) ?_
  refine swl_nil ?_
  refine then_n ?_
  refine swp_seq ?_
  refine swp_seq ?_
  refine swp_region ?_
  refine s_pu (pu_move rfl) ?_
  refine s_pu (pu_ptr_eq_nil rfl rfl) ?_
  refine s_pu (pu_move rfl) ?_
  refine s_split 27 rfl (fun h27 => by cases h27) (fun h27 => ?_)
  refine s_on rfl rfl ?_
  refine s_pu (pu_move rfl) ?_
  refine s_on rfl rfl ?_
  refine s_pu (pu_not rfl) ?_
  first | refine s_pu (pu_pick_t rfl rfl) ?_ | refine s_pu (pu_pick_f rfl rfl) ?_
  refine swl_sub _ (.cons (t := 1) rfl (.cons (t := 5) rfl (.cons (t := 7) rfl (.cons (t := 8) rfl (.cons (t := 9) rfl (.cons (t := 30) rfl .nil)))))) ?_
  refine swl_nil ?_
  refine then_n ?_
  refine swp_cond (b := _) rfl (fun h30 => by cases h30) (fun h30 => ?_)
  refine swp_skip ?_
  refine then_n ?_
  refine swp_seq ?_
  refine swp_seq ?_
  refine swp_region ?_
  refine s_pu (pu_move rfl) ?_
  refine s_pu (pu_move rfl) ?_
  refine s_pu (pu_len rfl) ?_
  refine s_pu (pu_min2 rfl rfl) ?_
  refine s_pu (pu_slice_hi KK rfl rfl (by rw [hKK]; omega) (by rw [hKK]; omega)) ?_
  refine s_pu (pu_len rfl) ?_
  refine s_pu (pu_move rfl) ?_
  refine swl_sub _ (.cons (t := 5) rfl (.cons (t := 7) rfl (.cons (t := 8) rfl (.cons (t := 36) rfl (.cons (t := 37) rfl (.cons (t := 38) rfl .nil)))))) ?_
  refine swl_nil ?_
  refine then_n ?_
  refine swp_block ?_
  refine swp_loop (ι := Nat) (fun i env L => ∃ (d : Dk) (μ2 : PH), Sub env [(5, pv b5), (7, pv p), (8, pv w), (36, .slice A KK cap), (37, .int .i64 (KK : Nat)), (38, .int .i64 (i : Nat))] ∧ Ent L [FSA p d, RDA w d, blk b5 55 [.slice AY ys.length capY, .slice AZ zs.length capZ], ro μ2] ∧ i ≤ KK ∧ Le μ μ2 ∧ d.Ok ∧ Within i d) (fun i => KK - i) 0 ⟨newD q, μ, ⟨rfl, rfl, rfl, rfl, rfl, rfl, trivial⟩, Split.ent' (by repeat (first | exact Split.nil | (apply Split.cons; (repeat (first | with_reducible exact Take.here | apply Take.there))))), Nat.zero_le _, Le.refl _, newD_ok h, ⟨Nat.zero_le _, Nat.zero_le _⟩⟩ ?_
  rintro i env L ⟨d, μ2, hsub, hE, hi, hle, hok, hw⟩
  refine swp_sub _ hsub ?_
  refine swp_ent hE ?_
  clear hsub hE env L
  have hf := hw.few (by omega)
  refine swp_seq ?_
  refine swp_region ?_
  refine s_pu (pu_lss rfl rfl) ?_
  refine swl_sub _ (.cons (t := 5) rfl (.cons (t := 7) rfl (.cons (t := 8) rfl (.cons (t := 36) rfl (.cons (t := 37) rfl (.cons (t := 38) rfl (.cons (t := 39) rfl .nil))))))) ?_
  refine swl_nil ?_
  refine then_n ?_
  refine swp_seq ?_
  refine swp_cond (b := _) rfl (fun h39 => ?_) (fun h39 => ?_)
  · skip   -- 39 T
    have h39' : i < KK := by have := of_decide_eq_true h39; omega
    obtain ⟨b, off, hA, hra⟩ := hpos (by omega)
    subst hA
    obtain ⟨o, hq⟩ : ∃ o, xs[i]? = some o := ⟨_, List.getElem?_eq_getElem (by omega)⟩
    have hel := hra.elem (f := ocs) (n := 7) (fun _ => rfl) hq
    have ho := hops o (List.mem_of_getElem? hq)
    have ht := hts o (List.mem_of_getElem? hq)
    obtain ⟨A3, l3, cap3, hkv⟩ : ∃ A l cap, o.kv = .slice A l cap := by obtain ⟨_, A, cap, h, _⟩ := ho.keep; exact ⟨A, _, cap, h⟩
    obtain ⟨m, hm⟩ : ∃ m : Nat, o.kind = (m : Int) := ⟨o.kind.toNat, by have := ho.kind.1; omega⟩
    obtain ⟨kd, s1, s2, s3, n, fo, kvo, kso⟩ := o
    dsimp only at hm hkv
    subst hkv hm
    simp only [ocs] at hel
    have hok2 := opD_ok (o := ⟨(m : Nat), s1, s2, s3, n, fo, .slice A3 l3 cap3, kso⟩) hok ho.n.2
    have hw2 := opD_in hw ⟨(m : Nat), s1, s2, s3, n, fo, .slice A3 l3 cap3, kso⟩
    refine swp_skip ?_
    refine then_n ?_
    refine swp_seq ?_
    refine swp_block ?_
    refine swp_seq ?_
    refine swp_region ?_
    refine s_pu (pu_indexAddr (off + i * 7) rfl rfl (by omega) (by omega) (by rw [Int.toNat_natCast])) ?_
    refine s_rd (rd_roA rfl rfl (hel.le hle)) ?_
    refine s_ef (ef_alloc) ?_
    intro b11
    refine s_ef0 (ef_storeA rfl rfl rfl rfl) ?_
    refine swl_sub _ (.cons (t := 5) rfl (.cons (t := 7) rfl (.cons (t := 8) rfl (.cons (t := 11) rfl (.cons (t := 36) rfl (.cons (t := 37) rfl (.cons (t := 38) rfl .nil))))))) ?_
    refine swl_nil ?_
    refine then_n ?_
    refine swp_seq ?_
    refine swp_region ?_
    refine s_pu (pu_move rfl) ?_
    refine s_pu (pu_move rfl) ?_
    first | refine s_rd (rd_loadW rfl rfl) ?_ | refine s_rd (rd_loadX rfl rfl rfl) ?_
    refine s_ef (ef_fn (lstep_spec μ2 p w d d hok hf hok hf ⟨(m : Nat), s1, s2, s3, n, fo, .slice A3 l3 cap3, kso⟩ (ho.le hle) ht) rfl rfl (by repeat (first | exact Split.nil | (apply Split.cons; (repeat (first | with_reducible exact Take.here | apply Take.there)))))) ?_
    rintro v45 L1 ⟨bb, μ3, rfl, hbb, hle3, rfl⟩
    obtain rfl := hbb rfl
    refine swl_app ?_
    refine s_pu (pu_not rfl) ?_
    refine swl_sub _ (.cons (t := 5) rfl (.cons (t := 7) rfl (.cons (t := 8) rfl (.cons (t := 36) rfl (.cons (t := 37) rfl (.cons (t := 38) rfl (.cons (t := 46) rfl .nil))))))) ?_
    refine swl_nil ?_
    refine then_n ?_
    refine swp_cond (b := _) rfl (fun h46 => by cases h46) (fun h46 => ?_)
    refine swp_skip ?_
    refine block_n ?_
    refine then_n ?_
    refine swp_region ?_
    refine s_pu (pu_add_as ((i + 1 : Nat) : Int) rfl rfl (by omega) (by omega) (by omega)) ?_
    refine s_pu (pu_move rfl) ?_
    refine swl_sub _ (.cons (t := 5) rfl (.cons (t := 7) rfl (.cons (t := 8) rfl (.cons (t := 36) rfl (.cons (t := 37) rfl (.cons (t := 38) rfl .nil)))))) ?_
    refine swl_nil ?_
    exact then_n ⟨i + 1, ⟨_, μ3, ⟨rfl, rfl, rfl, rfl, rfl, rfl, trivial⟩, Split.ent' (by repeat (first | exact Split.nil | (apply Split.cons; (repeat (first | with_reducible exact Take.here | apply Take.there))))), h39', hle.trans hle3, hok2, hw2⟩, by omega⟩
  · skip   -- 39 F
    refine swp_exit ?_
    refine then_x ?_
    refine then_x ?_
    refine block_hit rfl ?_
    refine then_n ?_
    refine swp_seq ?_
    refine swp_region ?_
    refine s_pu (pu_move rfl) ?_
    refine s_ef (ef_fn (copy_spec p d hok hf) rfl rfl (by repeat (first | exact Split.nil | (apply Split.cons; (repeat (first | with_reducible exact Take.here | apply Take.there)))))) ?_
    rintro v49 L1 ⟨c, rfl, rfl⟩
    refine swl_app ?_
    refine s_pu (pu_move rfl) ?_
    refine s_ef (ef_fn (rcopy_spec w d hok hf) rfl rfl (by repeat (first | exact Split.nil | (apply Split.cons; (repeat (first | with_reducible exact Take.here | apply Take.there)))))) ?_
    rintro v51 L1 ⟨v, rfl, rfl⟩
    refine swl_app ?_
    refine s_pu (pu_assign rfl) ?_
    refine s_pu (pu_assign rfl) ?_
    refine swl_sub _ (.cons (t := 5) rfl (.cons (t := 7) rfl (.cons (t := 8) rfl (.cons (t := 12) rfl (.cons (t := 13) rfl .nil))))) ?_
    refine swl_nil ?_
    refine then_n ?_
    refine swp_seq ?_
    refine swp_seq ?_
    refine swp_region ?_
    refine s_pu (pu_move rfl) ?_
    refine s_pu (pu_ptr_eq_nil rfl rfl) ?_
    refine swl_sub _ (.cons (t := 5) rfl (.cons (t := 7) rfl (.cons (t := 8) rfl (.cons (t := 12) rfl (.cons (t := 13) rfl (.cons (t := 53) rfl .nil)))))) ?_
    refine swl_nil ?_
    refine then_n ?_
    refine swp_cond (b := _) rfl (fun h53 => by cases h53) (fun h53 => ?_)
    refine swp_skip ?_
    refine then_n ?_
    refine swp_seq ?_
    refine swp_draw [1, 3] _ [] (by simp only [List.append_nil]; exact Ent.refl _) (by kernel_rfl) ?_
    refine d_pu 0 rfl (pu_indexAddr_arr _ rfl rfl (by omega) (by omega) rfl) (by kernel_rfl) (by kernel_rfl) (by kernel_rfl) ?_
    refine d_rd 1 rfl (rd_load rfl rfl) rfl (by kernel_rfl) (by kernel_rfl) (by kernel_rfl) ?_
    refine d_pu 2 rfl (pu_indexAddr_arr _ rfl rfl (by omega) (by omega) rfl) (by kernel_rfl) (by kernel_rfl) (by kernel_rfl) ?_
    refine d_rd 3 rfl (rd_load rfl rfl) rfl (by kernel_rfl) (by kernel_rfl) (by kernel_rfl) ?_
    refine d_pu 4 rfl (pu_assign rfl) (by kernel_rfl) (by kernel_rfl) (by kernel_rfl) ?_
    refine d_pu 5 rfl (pu_assign rfl) (by kernel_rfl) (by kernel_rfl) (by kernel_rfl) ?_
    refine d_sub _ (.cons (t := 7) rfl (.cons (t := 8) rfl (.cons (t := 12) rfl (.cons (t := 13) rfl (.cons (t := 14) rfl (.cons (t := 15) rfl .nil)))))) ?_
    first | refine d_nilt (by kernel_rfl) ?_ | refine d_nilf (by kernel_rfl) ?_
    refine then_n ?_
    refine swp_seq ?_
    refine swp_seq ?_
    refine swp_region ?_
    refine s_pu (pu_move rfl) ?_
    refine swl_sub _ (.cons (t := 7) rfl (.cons (t := 8) rfl (.cons (t := 12) rfl (.cons (t := 13) rfl (.cons (t := 14) rfl (.cons (t := 15) rfl (.cons (t := 58) rfl .nil))))))) ?_
    refine swl_nil ?_
    refine then_n ?_
    refine swp_block ?_
    refine swp_loop (ι := Nat) (fun i env L => ∃ (d1 d2 : Dk) (μ4 : PH), Sub env [(7, pv p), (8, pv w), (12, pv c), (13, pv v), (14, .slice AY ys.length capY), (15, .slice AZ zs.length capZ), (58, .int .i64 (i : Nat))] ∧ Ent L [FSA p d1, RDA w d1, FSA c d2, RDA v d2, ro μ4] ∧ i ≤ 200 ∧ Le μ μ4 ∧ d1.Ok ∧ d2.Ok ∧ Within (200 + i) d1 ∧ Within (200 + i) d2) (fun i => 200 - i) 0 ⟨d, d, μ2, ⟨rfl, rfl, rfl, rfl, rfl, rfl, rfl, trivial⟩, Split.ent' (by repeat (first | exact Split.nil | (apply Split.cons; (repeat (first | with_reducible exact Take.here | apply Take.there))))), Nat.zero_le _, hle, hok, hok, hw.mono (by omega), hw.mono (by omega)⟩ ?_
    clear hle hok hw hf
    rintro i env L ⟨d1, d2, μ4, hsub, hE, hi, hle, hok1, hok2, hw1, hw2⟩
    refine swp_sub _ hsub ?_
    refine swp_ent hE ?_
    clear hsub hE env L
    have hf1 := hw1.few (by omega)
    have hf2 := hw2.few (by omega)
    refine swp_seq ?_
    refine swp_region ?_
    refine s_pu (pu_lss rfl rfl) ?_
    refine swl_sub _ (.cons (t := 7) rfl (.cons (t := 8) rfl (.cons (t := 12) rfl (.cons (t := 13) rfl (.cons (t := 14) rfl (.cons (t := 15) rfl (.cons (t := 58) rfl (.cons (t := 59) rfl .nil)))))))) ?_
    refine swl_nil ?_
    refine then_n ?_
    refine swp_seq ?_
    refine swp_cond (b := _) rfl (fun h59 => ?_) (fun h59 => ?_)
    · skip   -- 59 T
      have h59' : i < 200 := by have := of_decide_eq_true h59; omega
      refine swp_skip ?_
      refine then_n ?_
      refine swp_seq ?_
      refine swp_block ?_
      refine swp_seq ?_
      refine swp_region ?_
      refine s_pu (pu_move rfl) ?_
      refine s_pu (pu_assign rfl) ?_
      refine swl_sub _ (.cons (t := 7) rfl (.cons (t := 8) rfl (.cons (t := 12) rfl (.cons (t := 13) rfl (.cons (t := 14) rfl (.cons (t := 15) rfl (.cons (t := 16) rfl (.cons (t := 58) rfl .nil)))))))) ?_
      refine swl_nil ?_
      refine then_n ?_
      refine swp_cut (fun env L => ∃ (d1 d2 : Dk) (μ4 : PH), Sub env [(7, pv p), (8, pv w), (12, pv c), (13, pv v), (14, .slice AY ys.length capY), (15, .slice AZ zs.length capZ), (16, .int .i64 (i : Nat)), (58, .int .i64 (i : Nat))] ∧ Ent L [FSA p d1, RDA w d1, FSA c d2, RDA v d2, ro μ4] ∧ Le μ μ4 ∧ d1.Ok ∧ d2.Ok ∧ Within (200 + (i + 1)) d1 ∧ Within (200 + (i + 1)) d2) ?_ ?_
      · skip
        refine swp_seq ?_
        refine swp_region ?_
        refine s_pu (pu_move rfl) ?_
        refine s_pu (pu_move rfl) ?_
        refine s_pu (pu_len rfl) ?_
        refine s_pu (pu_lss rfl rfl) ?_
        refine s_pu (pu_move rfl) ?_
        refine s_split 65 rfl (fun h65 => ?_) (fun h65 => ?_)
        · skip   -- 65 T
          have h65' : i < ys.length := by have := of_decide_eq_true h65; omega
          obtain ⟨bky, offy, hAy, hray⟩ := hposY (by omega)
          subst hAy
          obtain ⟨oy, hqy⟩ : ∃ o, ys[i]? = some o := ⟨_, List.getElem?_eq_getElem (by omega)⟩
          have hely := hray.elem (f := ocs) (n := 7) (fun _ => rfl) hqy
          have hoy := hopsy oy (List.mem_of_getElem? hqy)
          have hty := htsy oy (List.mem_of_getElem? hqy)
          obtain ⟨Ay3, ly3, capy3, hkvy⟩ : ∃ A l cap, oy.kv = .slice A l cap := by obtain ⟨_, A, cap, h, _⟩ := hoy.keep; exact ⟨A, _, cap, h⟩
          obtain ⟨my, hmy⟩ : ∃ m : Nat, oy.kind = (m : Int) := ⟨oy.kind.toNat, by have := hoy.kind.1; omega⟩
          obtain ⟨kdy, sy1, sy2, sy3, ny, foy, kvoy, ksoy⟩ := oy
          dsimp only at hmy hkvy
          subst hkvy hmy
          simp only [ocs] at hely
          have hok1' := opD_ok (o := ⟨(my : Nat), sy1, sy2, sy3, ny, foy, .slice Ay3 ly3 capy3, ksoy⟩) hok1 hoy.n.2
          have hw1' := opD_in hw1 ⟨(my : Nat), sy1, sy2, sy3, ny, foy, .slice Ay3 ly3 capy3, ksoy⟩
          refine s_on rfl rfl ?_
          refine s_pu (pu_move rfl) ?_
          refine s_on rfl rfl ?_
          refine s_pu (pu_move rfl) ?_
          refine s_on rfl rfl ?_
          refine s_pu (pu_move rfl) ?_
          refine s_on rfl rfl ?_
          refine s_pu (pu_move rfl) ?_
          refine s_on rfl rfl ?_
          refine s_pu (pu_indexAddr (offy + i * 7) rfl rfl (by omega) (by omega) (by rw [Int.toNat_natCast])) ?_
          refine s_on rfl rfl ?_
          refine s_rd (rd_roA rfl rfl (hely.le hle)) ?_
          refine s_on rfl rfl ?_
          refine s_ef (ef_fn (lstep_spec μ4 p w d1 d1 hok1 hf1 hok1 hf1 ⟨(my : Nat), sy1, sy2, sy3, ny, foy, .slice Ay3 ly3 capy3, ksoy⟩ (hoy.le hle) hty) rfl rfl (by repeat (first | exact Split.nil | (apply Split.cons; (repeat (first | with_reducible exact Take.here | apply Take.there)))))) ?_
          rintro v72 L1 ⟨bb, μ5, rfl, hbb, hle5, rfl⟩
          obtain rfl := hbb rfl
          refine swl_app ?_
          refine s_on rfl rfl ?_
          refine s_pu (pu_not rfl) ?_
          first | refine s_pu (pu_pick_t rfl rfl) ?_ | refine s_pu (pu_pick_f rfl rfl) ?_
          refine s_pu (pu_move rfl) ?_
          refine s_split 75 rfl (fun h75 => by cases h75) (fun h75 => ?_)
          refine s_on rfl rfl ?_
          refine s_pu (pu_move rfl) ?_
          refine s_on rfl rfl ?_
          refine s_pu (pu_move rfl) ?_
          refine s_on rfl rfl ?_
          refine s_pu (pu_len rfl) ?_
          refine s_on rfl rfl ?_
          refine s_pu (pu_lss rfl rfl) ?_
          refine s_on rfl rfl ?_
          refine s_pu (pu_move rfl) ?_
          refine s_split 80 rfl (fun h80 => ?_) (fun h80 => ?_)
          · skip   -- 80 T
            have h80' : i < zs.length := by have := of_decide_eq_true h80; omega
            obtain ⟨bkz, offz, hAz, hraz⟩ := hposZ (by omega)
            subst hAz
            obtain ⟨oz, hqz⟩ : ∃ o, zs[i]? = some o := ⟨_, List.getElem?_eq_getElem (by omega)⟩
            have helz := hraz.elem (f := ocs) (n := 7) (fun _ => rfl) hqz
            have hoz := hopsz oz (List.mem_of_getElem? hqz)
            have htz := htsz oz (List.mem_of_getElem? hqz)
            obtain ⟨Az3, lz3, capz3, hkvz⟩ : ∃ A l cap, oz.kv = .slice A l cap := by obtain ⟨_, A, cap, h, _⟩ := hoz.keep; exact ⟨A, _, cap, h⟩
            obtain ⟨mz, hmz⟩ : ∃ m : Nat, oz.kind = (m : Int) := ⟨oz.kind.toNat, by have := hoz.kind.1; omega⟩
            obtain ⟨kdz, sz1, sz2, sz3, nz, foz, kvoz, ksoz⟩ := oz
            dsimp only at hmz hkvz
            subst hkvz hmz
            simp only [ocs] at helz
            have hok2' := opD_ok (o := ⟨(mz : Nat), sz1, sz2, sz3, nz, foz, .slice Az3 lz3 capz3, ksoz⟩) hok2 hoz.n.2
            have hw2' := opD_in hw2 ⟨(mz : Nat), sz1, sz2, sz3, nz, foz, .slice Az3 lz3 capz3, ksoz⟩
            refine s_on rfl rfl ?_
            refine s_pu (pu_move rfl) ?_
            refine s_on rfl rfl ?_
            refine s_pu (pu_move rfl) ?_
            refine s_on rfl rfl ?_
            refine s_pu (pu_move rfl) ?_
            refine s_on rfl rfl ?_
            refine s_pu (pu_move rfl) ?_
            refine s_on rfl rfl ?_
            refine s_pu (pu_indexAddr (offz + i * 7) rfl rfl (by omega) (by omega) (by rw [Int.toNat_natCast])) ?_
            refine s_on rfl rfl ?_
            refine s_rd (rd_roA rfl rfl (helz.le (by first | exact hle.trans hle5 | exact hle))) ?_
            refine s_on rfl rfl ?_
            refine s_ef (ef_fn (lstep_spec μ5 c v d2 d2 hok2 hf2 hok2 hf2 ⟨(mz : Nat), sz1, sz2, sz3, nz, foz, .slice Az3 lz3 capz3, ksoz⟩ (hoz.le (hle.trans hle5)) htz) rfl rfl (by repeat (first | exact Split.nil | (apply Split.cons; (repeat (first | with_reducible exact Take.here | apply Take.there)))))) ?_
            rintro v87 L1 ⟨bb, μ6, rfl, hbb, hle6, rfl⟩
            obtain rfl := hbb rfl
            refine swl_app ?_
            refine s_on rfl rfl ?_
            refine s_pu (pu_not rfl) ?_
            refine s_on rfl rfl ?_
            first | refine s_pu (pu_pick_t rfl rfl) ?_ | refine s_pu (pu_pick_f rfl rfl) ?_
            first | refine s_pu (pu_pick_t rfl rfl) ?_ | refine s_pu (pu_pick_f rfl rfl) ?_
            refine s_pu (pu_move rfl) ?_
            refine s_split 91 rfl (fun h91 => by cases h91) (fun h91 => ?_)
            refine s_on rfl rfl ?_
            refine s_pu (pu_move rfl) ?_
            refine s_on rfl rfl ?_
            refine s_pu (pu_move rfl) ?_
            refine s_on rfl rfl ?_
            refine s_ef (ef_fn (told_spec p w _ hok1' (hw1'.few (by omega))) rfl rfl (by repeat (first | exact Split.nil | (apply Split.cons; (repeat (first | with_reducible exact Take.here | apply Take.there)))))) ?_
            rintro v94 L1 ⟨rfl, rfl⟩
            refine swl_app ?_
            refine s_on rfl rfl ?_
            refine s_pu (pu_not rfl) ?_
            first | refine s_pu (pu_pick_t rfl rfl) ?_ | refine s_pu (pu_pick_f rfl rfl) ?_
            refine s_pu (pu_move rfl) ?_
            refine s_split 97 rfl (fun h97 => by cases h97) (fun h97 => ?_)
            refine s_on rfl rfl ?_
            refine s_pu (pu_move rfl) ?_
            refine s_on rfl rfl ?_
            refine s_pu (pu_move rfl) ?_
            refine s_on rfl rfl ?_
            refine s_ef (ef_fn (told_spec c v _ hok2' (hw2'.few (by omega))) rfl rfl (by repeat (first | exact Split.nil | (apply Split.cons; (repeat (first | with_reducible exact Take.here | apply Take.there)))))) ?_
            rintro v100 L1 ⟨rfl, rfl⟩
            refine swl_app ?_
            refine s_on rfl rfl ?_
            refine s_pu (pu_not rfl) ?_
            first | refine s_pu (pu_pick_t rfl rfl) ?_ | refine s_pu (pu_pick_f rfl rfl) ?_
            refine swl_sub _ (.cons (t := 7) rfl (.cons (t := 8) rfl (.cons (t := 12) rfl (.cons (t := 13) rfl (.cons (t := 14) rfl (.cons (t := 15) rfl (.cons (t := 16) rfl (.cons (t := 58) rfl (.cons (t := 102) rfl .nil))))))))) ?_
            refine swl_nil ?_
            refine then_n ?_
            refine swp_cond (b := _) rfl (fun h102 => by cases h102) (fun h102 => ?_)
            refine swp_skip ?_
            exact then_n ⟨_, _, μ6, ⟨rfl, rfl, rfl, rfl, rfl, rfl, rfl, rfl, trivial⟩, Split.ent' (by repeat (first | exact Split.nil | (apply Split.cons; (repeat (first | with_reducible exact Take.here | apply Take.there))))), (hle.trans hle5).trans hle6, hok1', hok2', hw1'.mono (by omega), hw2'.mono (by omega)⟩
          · skip   -- 80 F
            refine s_off rfl rfl rfl ?_
            refine s_off rfl rfl rfl ?_
            refine s_off rfl rfl rfl ?_
            refine s_off rfl rfl rfl ?_
            refine s_off rfl rfl rfl ?_
            refine s_off rfl rfl rfl ?_
            refine s_off rfl rfl rfl ?_
            refine s_off rfl rfl rfl ?_
            refine s_on rfl rfl ?_
            first | refine s_pu (pu_pick_t rfl rfl) ?_ | refine s_pu (pu_pick_f rfl rfl) ?_
            first | refine s_pu (pu_pick_t rfl rfl) ?_ | refine s_pu (pu_pick_f rfl rfl) ?_
            refine s_pu (pu_move rfl) ?_
            refine s_split 91 rfl (fun h91 => by cases h91) (fun h91 => ?_)
            refine s_on rfl rfl ?_
            refine s_pu (pu_move rfl) ?_
            refine s_on rfl rfl ?_
            refine s_pu (pu_move rfl) ?_
            refine s_on rfl rfl ?_
            refine s_ef (ef_fn (told_spec p w _ hok1' (hw1'.few (by omega))) rfl rfl (by repeat (first | exact Split.nil | (apply Split.cons; (repeat (first | with_reducible exact Take.here | apply Take.there)))))) ?_
            rintro v94 L1 ⟨rfl, rfl⟩
            refine swl_app ?_
            refine s_on rfl rfl ?_
            refine s_pu (pu_not rfl) ?_
            first | refine s_pu (pu_pick_t rfl rfl) ?_ | refine s_pu (pu_pick_f rfl rfl) ?_
            refine s_pu (pu_move rfl) ?_
            refine s_split 97 rfl (fun h97 => by cases h97) (fun h97 => ?_)
            refine s_on rfl rfl ?_
            refine s_pu (pu_move rfl) ?_
            refine s_on rfl rfl ?_
            refine s_pu (pu_move rfl) ?_
            refine s_on rfl rfl ?_
            refine s_ef (ef_fn (told_spec c v _ hok2 hf2) rfl rfl (by repeat (first | exact Split.nil | (apply Split.cons; (repeat (first | with_reducible exact Take.here | apply Take.there)))))) ?_
            rintro v100 L1 ⟨rfl, rfl⟩
            refine swl_app ?_
            refine s_on rfl rfl ?_
            refine s_pu (pu_not rfl) ?_
            first | refine s_pu (pu_pick_t rfl rfl) ?_ | refine s_pu (pu_pick_f rfl rfl) ?_
            refine swl_sub _ (.cons (t := 7) rfl (.cons (t := 8) rfl (.cons (t := 12) rfl (.cons (t := 13) rfl (.cons (t := 14) rfl (.cons (t := 15) rfl (.cons (t := 16) rfl (.cons (t := 58) rfl (.cons (t := 102) rfl .nil))))))))) ?_
            refine swl_nil ?_
            refine then_n ?_
            refine swp_cond (b := _) rfl (fun h102 => by cases h102) (fun h102 => ?_)
            refine swp_skip ?_
            exact then_n ⟨_, _, μ5, ⟨rfl, rfl, rfl, rfl, rfl, rfl, rfl, rfl, trivial⟩, Split.ent' (by repeat (first | exact Split.nil | (apply Split.cons; (repeat (first | with_reducible exact Take.here | apply Take.there))))), hle.trans hle5, hok1', hok2, hw1'.mono (by omega), hw2.mono (by omega)⟩
        · skip   -- 65 F
          refine s_off rfl rfl rfl ?_
          refine s_off rfl rfl rfl ?_
          refine s_off rfl rfl rfl ?_
          refine s_off rfl rfl rfl ?_
          refine s_off rfl rfl rfl ?_
          refine s_off rfl rfl rfl ?_
          refine s_off rfl rfl rfl ?_
          refine s_off rfl rfl rfl ?_
          first | refine s_pu (pu_pick_t rfl rfl) ?_ | refine s_pu (pu_pick_f rfl rfl) ?_
          refine s_pu (pu_move rfl) ?_
          refine s_split 75 rfl (fun h75 => by cases h75) (fun h75 => ?_)
          refine s_on rfl rfl ?_
          refine s_pu (pu_move rfl) ?_
          refine s_on rfl rfl ?_
          refine s_pu (pu_move rfl) ?_
          refine s_on rfl rfl ?_
          refine s_pu (pu_len rfl) ?_
          refine s_on rfl rfl ?_
          refine s_pu (pu_lss rfl rfl) ?_
          refine s_on rfl rfl ?_
          refine s_pu (pu_move rfl) ?_
          refine s_split 80 rfl (fun h80 => ?_) (fun h80 => ?_)
          · skip   -- 80 T
            have h80' : i < zs.length := by have := of_decide_eq_true h80; omega
            obtain ⟨bkz, offz, hAz, hraz⟩ := hposZ (by omega)
            subst hAz
            obtain ⟨oz, hqz⟩ : ∃ o, zs[i]? = some o := ⟨_, List.getElem?_eq_getElem (by omega)⟩
            have helz := hraz.elem (f := ocs) (n := 7) (fun _ => rfl) hqz
            have hoz := hopsz oz (List.mem_of_getElem? hqz)
            have htz := htsz oz (List.mem_of_getElem? hqz)
            obtain ⟨Az3, lz3, capz3, hkvz⟩ : ∃ A l cap, oz.kv = .slice A l cap := by obtain ⟨_, A, cap, h, _⟩ := hoz.keep; exact ⟨A, _, cap, h⟩
            obtain ⟨mz, hmz⟩ : ∃ m : Nat, oz.kind = (m : Int) := ⟨oz.kind.toNat, by have := hoz.kind.1; omega⟩
            obtain ⟨kdz, sz1, sz2, sz3, nz, foz, kvoz, ksoz⟩ := oz
            dsimp only at hmz hkvz
            subst hkvz hmz
            simp only [ocs] at helz
            have hok2' := opD_ok (o := ⟨(mz : Nat), sz1, sz2, sz3, nz, foz, .slice Az3 lz3 capz3, ksoz⟩) hok2 hoz.n.2
            have hw2' := opD_in hw2 ⟨(mz : Nat), sz1, sz2, sz3, nz, foz, .slice Az3 lz3 capz3, ksoz⟩
            refine s_on rfl rfl ?_
            refine s_pu (pu_move rfl) ?_
            refine s_on rfl rfl ?_
            refine s_pu (pu_move rfl) ?_
            refine s_on rfl rfl ?_
            refine s_pu (pu_move rfl) ?_
            refine s_on rfl rfl ?_
            refine s_pu (pu_move rfl) ?_
            refine s_on rfl rfl ?_
            refine s_pu (pu_indexAddr (offz + i * 7) rfl rfl (by omega) (by omega) (by rw [Int.toNat_natCast])) ?_
            refine s_on rfl rfl ?_
            refine s_rd (rd_roA rfl rfl (helz.le (by first | exact hle.trans hle5 | exact hle))) ?_
            refine s_on rfl rfl ?_
            refine s_ef (ef_fn (lstep_spec μ4 c v d2 d2 hok2 hf2 hok2 hf2 ⟨(mz : Nat), sz1, sz2, sz3, nz, foz, .slice Az3 lz3 capz3, ksoz⟩ (hoz.le hle) htz) rfl rfl (by repeat (first | exact Split.nil | (apply Split.cons; (repeat (first | with_reducible exact Take.here | apply Take.there)))))) ?_
            rintro v87 L1 ⟨bb, μ6, rfl, hbb, hle6, rfl⟩
            obtain rfl := hbb rfl
            refine swl_app ?_
            refine s_on rfl rfl ?_
            refine s_pu (pu_not rfl) ?_
            refine s_on rfl rfl ?_
            first | refine s_pu (pu_pick_t rfl rfl) ?_ | refine s_pu (pu_pick_f rfl rfl) ?_
            first | refine s_pu (pu_pick_t rfl rfl) ?_ | refine s_pu (pu_pick_f rfl rfl) ?_
            refine s_pu (pu_move rfl) ?_
            refine s_split 91 rfl (fun h91 => by cases h91) (fun h91 => ?_)
            refine s_on rfl rfl ?_
            refine s_pu (pu_move rfl) ?_
            refine s_on rfl rfl ?_
            refine s_pu (pu_move rfl) ?_
            refine s_on rfl rfl ?_
            refine s_ef (ef_fn (told_spec p w _ hok1 hf1) rfl rfl (by repeat (first | exact Split.nil | (apply Split.cons; (repeat (first | with_reducible exact Take.here | apply Take.there)))))) ?_
            rintro v94 L1 ⟨rfl, rfl⟩
            refine swl_app ?_
            refine s_on rfl rfl ?_
            refine s_pu (pu_not rfl) ?_
            first | refine s_pu (pu_pick_t rfl rfl) ?_ | refine s_pu (pu_pick_f rfl rfl) ?_
            refine s_pu (pu_move rfl) ?_
            refine s_split 97 rfl (fun h97 => by cases h97) (fun h97 => ?_)
            refine s_on rfl rfl ?_
            refine s_pu (pu_move rfl) ?_
            refine s_on rfl rfl ?_
            refine s_pu (pu_move rfl) ?_
            refine s_on rfl rfl ?_
            refine s_ef (ef_fn (told_spec c v _ hok2' (hw2'.few (by omega))) rfl rfl (by repeat (first | exact Split.nil | (apply Split.cons; (repeat (first | with_reducible exact Take.here | apply Take.there)))))) ?_
            rintro v100 L1 ⟨rfl, rfl⟩
            refine swl_app ?_
            refine s_on rfl rfl ?_
            refine s_pu (pu_not rfl) ?_
            first | refine s_pu (pu_pick_t rfl rfl) ?_ | refine s_pu (pu_pick_f rfl rfl) ?_
            refine swl_sub _ (.cons (t := 7) rfl (.cons (t := 8) rfl (.cons (t := 12) rfl (.cons (t := 13) rfl (.cons (t := 14) rfl (.cons (t := 15) rfl (.cons (t := 16) rfl (.cons (t := 58) rfl (.cons (t := 102) rfl .nil))))))))) ?_
            refine swl_nil ?_
            refine then_n ?_
            refine swp_cond (b := _) rfl (fun h102 => by cases h102) (fun h102 => ?_)
            refine swp_skip ?_
            exact then_n ⟨_, _, μ6, ⟨rfl, rfl, rfl, rfl, rfl, rfl, rfl, rfl, trivial⟩, Split.ent' (by repeat (first | exact Split.nil | (apply Split.cons; (repeat (first | with_reducible exact Take.here | apply Take.there))))), hle.trans hle6, hok1, hok2', hw1.mono (by omega), hw2'.mono (by omega)⟩
          · skip   -- 80 F
            refine s_off rfl rfl rfl ?_
            refine s_off rfl rfl rfl ?_
            refine s_off rfl rfl rfl ?_
            refine s_off rfl rfl rfl ?_
            refine s_off rfl rfl rfl ?_
            refine s_off rfl rfl rfl ?_
            refine s_off rfl rfl rfl ?_
            refine s_off rfl rfl rfl ?_
            refine s_on rfl rfl ?_
            first | refine s_pu (pu_pick_t rfl rfl) ?_ | refine s_pu (pu_pick_f rfl rfl) ?_
            first | refine s_pu (pu_pick_t rfl rfl) ?_ | refine s_pu (pu_pick_f rfl rfl) ?_
            refine s_pu (pu_move rfl) ?_
            refine s_split 91 rfl (fun h91 => by cases h91) (fun h91 => ?_)
            refine s_on rfl rfl ?_
            refine s_pu (pu_move rfl) ?_
            refine s_on rfl rfl ?_
            refine s_pu (pu_move rfl) ?_
            refine s_on rfl rfl ?_
            refine s_ef (ef_fn (told_spec p w _ hok1 hf1) rfl rfl (by repeat (first | exact Split.nil | (apply Split.cons; (repeat (first | with_reducible exact Take.here | apply Take.there)))))) ?_
            rintro v94 L1 ⟨rfl, rfl⟩
            refine swl_app ?_
            refine s_on rfl rfl ?_
            refine s_pu (pu_not rfl) ?_
            first | refine s_pu (pu_pick_t rfl rfl) ?_ | refine s_pu (pu_pick_f rfl rfl) ?_
            refine s_pu (pu_move rfl) ?_
            refine s_split 97 rfl (fun h97 => by cases h97) (fun h97 => ?_)
            refine s_on rfl rfl ?_
            refine s_pu (pu_move rfl) ?_
            refine s_on rfl rfl ?_
            refine s_pu (pu_move rfl) ?_
            refine s_on rfl rfl ?_
            refine s_ef (ef_fn (told_spec c v _ hok2 hf2) rfl rfl (by repeat (first | exact Split.nil | (apply Split.cons; (repeat (first | with_reducible exact Take.here | apply Take.there)))))) ?_
            rintro v100 L1 ⟨rfl, rfl⟩
            refine swl_app ?_
            refine s_on rfl rfl ?_
            refine s_pu (pu_not rfl) ?_
            first | refine s_pu (pu_pick_t rfl rfl) ?_ | refine s_pu (pu_pick_f rfl rfl) ?_
            refine swl_sub _ (.cons (t := 7) rfl (.cons (t := 8) rfl (.cons (t := 12) rfl (.cons (t := 13) rfl (.cons (t := 14) rfl (.cons (t := 15) rfl (.cons (t := 16) rfl (.cons (t := 58) rfl (.cons (t := 102) rfl .nil))))))))) ?_
            refine swl_nil ?_
            refine then_n ?_
            refine swp_cond (b := _) rfl (fun h102 => by cases h102) (fun h102 => ?_)
            refine swp_skip ?_
            exact then_n ⟨_, _, μ4, ⟨rfl, rfl, rfl, rfl, rfl, rfl, rfl, rfl, trivial⟩, Split.ent' (by repeat (first | exact Split.nil | (apply Split.cons; (repeat (first | with_reducible exact Take.here | apply Take.there))))), hle, hok1, hok2, hw1.mono (by omega), hw2.mono (by omega)⟩
      clear hle hok1 hok2 hw1 hw2 hf1 hf2
      rintro env L ⟨d1, d2, μ4, hsub, hE, hle, hok1, hok2, hw1, hw2⟩
      refine swp_sub _ hsub ?_
      refine swp_ent hE ?_
      clear hsub hE env L
      refine swp_seq ?_
      refine swp_region ?_
      refine s_pu (pu_move rfl) ?_
      refine s_pu (pu_move rfl) ?_
      refine s_pu (pu_len rfl) ?_
      refine s_pu (pu_geq rfl rfl) ?_
      refine s_pu (pu_move rfl) ?_
      refine s_split 107 rfl (fun h107 => ?_) (fun h107 => ?_)
      · skip   -- 107 T
        refine s_on rfl rfl ?_
        refine s_pu (pu_move rfl) ?_
        refine s_on rfl rfl ?_
        refine s_pu (pu_move rfl) ?_
        refine s_on rfl rfl ?_
        refine s_pu (pu_len rfl) ?_
        refine s_on rfl rfl ?_
        refine s_pu (pu_geq rfl rfl) ?_
        first | refine s_pu (pu_pick_t rfl rfl) ?_ | refine s_pu (pu_pick_f rfl rfl) ?_
        refine swl_sub _ (.cons (t := 7) rfl (.cons (t := 8) rfl (.cons (t := 12) rfl (.cons (t := 13) rfl (.cons (t := 14) rfl (.cons (t := 15) rfl (.cons (t := 58) rfl (.cons (t := 112) rfl .nil)))))))) ?_
        refine swl_nil ?_
        refine then_n ?_
        refine swp_cond (b := _) rfl (fun h112 => ?_) (fun h112 => ?_)
        · skip   -- 112 T
          refine swp_seq ?_
          refine swp_region ?_
          refine s_pu (pu_assign rfl) ?_
          refine swl_sub _ (.cons (t := 6) rfl .nil) ?_
          refine swl_nil ?_
          refine then_n ?_
          refine swp_ret ?_
          refine block_r ?_
          refine then_r ?_
          refine then_r ?_
          refine block_r ?_
          refine then_r ?_
          exact done_retE [ro μ4] (.tmp rfl .nil) ⟨rfl, μ4, [], hle, rfl⟩ (Split.ent' (by repeat (first | exact Split.nil | (apply Split.cons; (repeat (first | with_reducible exact Take.here | apply Take.there))))))
        · skip   -- 112 F
          refine swp_skip ?_
          refine block_n ?_
          refine then_n ?_
          refine swp_region ?_
          refine s_pu (pu_add_as ((i + 1 : Nat) : Int) rfl rfl (by omega) (by omega) (by omega)) ?_
          refine s_pu (pu_move rfl) ?_
          refine swl_sub _ (.cons (t := 7) rfl (.cons (t := 8) rfl (.cons (t := 12) rfl (.cons (t := 13) rfl (.cons (t := 14) rfl (.cons (t := 15) rfl (.cons (t := 58) rfl .nil))))))) ?_
          refine swl_nil ?_
          exact then_n ⟨i + 1, ⟨d1, d2, μ4, ⟨rfl, rfl, rfl, rfl, rfl, rfl, rfl, trivial⟩, Split.ent' (by repeat (first | exact Split.nil | (apply Split.cons; (repeat (first | with_reducible exact Take.here | apply Take.there))))), h59', hle, hok1, hok2, hw1, hw2⟩, by omega⟩
      · skip   -- 107 F
        refine s_off rfl rfl rfl ?_
        refine s_off rfl rfl rfl ?_
        refine s_off rfl rfl rfl ?_
        refine s_off rfl rfl rfl ?_
        first | refine s_pu (pu_pick_t rfl rfl) ?_ | refine s_pu (pu_pick_f rfl rfl) ?_
        refine swl_sub _ (.cons (t := 7) rfl (.cons (t := 8) rfl (.cons (t := 12) rfl (.cons (t := 13) rfl (.cons (t := 14) rfl (.cons (t := 15) rfl (.cons (t := 58) rfl (.cons (t := 112) rfl .nil)))))))) ?_
        refine swl_nil ?_
        refine then_n ?_
        refine swp_cond (b := _) rfl (fun h112 => ?_) (fun h112 => ?_)
        · skip   -- 112 T
          refine swp_seq ?_
          refine swp_region ?_
          refine s_pu (pu_assign rfl) ?_
          refine swl_sub _ (.cons (t := 6) rfl .nil) ?_
          refine swl_nil ?_
          refine then_n ?_
          refine swp_ret ?_
          refine block_r ?_
          refine then_r ?_
          refine then_r ?_
          refine block_r ?_
          refine then_r ?_
          exact done_retE [ro μ4] (.tmp rfl .nil) ⟨rfl, μ4, [], hle, rfl⟩ (Split.ent' (by repeat (first | exact Split.nil | (apply Split.cons; (repeat (first | with_reducible exact Take.here | apply Take.there))))))
        · skip   -- 112 F
          refine swp_skip ?_
          refine block_n ?_
          refine then_n ?_
          refine swp_region ?_
          refine s_pu (pu_add_as ((i + 1 : Nat) : Int) rfl rfl (by omega) (by omega) (by omega)) ?_
          refine s_pu (pu_move rfl) ?_
          refine swl_sub _ (.cons (t := 7) rfl (.cons (t := 8) rfl (.cons (t := 12) rfl (.cons (t := 13) rfl (.cons (t := 14) rfl (.cons (t := 15) rfl (.cons (t := 58) rfl .nil))))))) ?_
          refine swl_nil ?_
          exact then_n ⟨i + 1, ⟨d1, d2, μ4, ⟨rfl, rfl, rfl, rfl, rfl, rfl, rfl, trivial⟩, Split.ent' (by repeat (first | exact Split.nil | (apply Split.cons; (repeat (first | with_reducible exact Take.here | apply Take.there))))), h59', hle, hok1, hok2, hw1, hw2⟩, by omega⟩
    · skip   -- 59 F
      refine swp_exit ?_
      refine then_x ?_
      refine then_x ?_
      refine block_hit rfl ?_
      refine then_n ?_
      refine swp_seq ?_
      refine swp_region ?_
      refine s_pu (pu_assign rfl) ?_
      refine swl_sub _ (.cons (t := 6) rfl .nil) ?_
      refine swl_nil ?_
      refine then_n ?_
      refine swp_ret ?_
      exact done_retE [ro μ4] (.tmp rfl .nil) ⟨rfl, μ4, [], hle, rfl⟩ (Split.ent' (by repeat (first | exact Split.nil | (apply Split.cons; (repeat (first | with_reducible exact Take.here | apply Take.there))))))
theorem simfscopies_spec (μ : PH) (q : Int) (v1 v2 v3 : Value) (xs ys zs : List OpA) (hrow0 : Row μ v1 7 xs.length (xs.flatMap ocs)) (hops : ∀ o ∈ xs, OpOk μ o) (hts : ∀ o ∈ xs, o.text.size ≤ 140737488351232)
    (hrow1 : Row μ v2 7 ys.length (ys.flatMap ocs)) (hopsy : ∀ o ∈ ys, OpOk μ o) (htsy : ∀ o ∈ ys, o.text.size ≤ 140737488351232) (hrow2 : Row μ v3 7 zs.length (zs.flatMap ocs)) (hopsz : ∀ o ∈ zs, OpOk μ o) (htsz : ∀ o ∈ zs, o.text.size ≤ 140737488351232) :
    Spec Try.prog 8 [.int .i64 q, v1, .agg #[v2, v3]] [ro μ] (fun r L => r = .bool true ∧ ∃ μ' R, Le μ μ' ∧ L = ro μ' :: R) := by
  by_cases h : newOk q
  · exact simfscopies_good μ q v1 v2 v3 xs ys zs h hrow0 hops hts hrow1 hopsy htsy hrow2 hopsz htsz
  · exact simfscopies_bad μ q v1 v2 v3 (by obtain ⟨_, A, c, h, _⟩ := hrow1; exact ⟨A, _, c, h⟩) (by obtain ⟨_, A, c, h, _⟩ := hrow2; exact ⟨A, _, c, h⟩) h
end SX
