/- A part of the proof: walks of the program's functions, and the rules by which they go. -/
import Derived.Test.YtkldhmbmahgnjaaDoorB31910f8a
import Derived.Test.YtkldhmbmahgnjaaDoorB07fc7719
import Derived.Test.YtkldhmbmahgnjaaDoorBad04c986
import Derived.Test.YtkldhmbmahgnjaaDoorBefc9fc6e
import Derived.Test.YtkldhmbmahgnjaaDoorB8c6e828a
import Derived.Test.YtkldhmbmahgnjaaDoorRows
import Derived.ProofKit
import Derived.LaidMore
import Derived.OpenShut
import Derived.Stop.Joined
namespace SX
open Go Go.Proofs
theorem virtV_in {W : HW} {a b limit : Int} (h : (virtV W a b limit).2.2.2 = 0) (hn : W.n ≤ 10000) : ∃ i j : Nat, a = (i : Int) ∧ b = (j : Int) ∧ i < W.n ∧ j < W.n := by
  have h1 : askedV W.n a b = 0 := by
    by_cases e : askedV W.n a b = 0
    · exact e
    · unfold virtV at h; rw [if_pos e] at h; exact absurd h e
  unfold askedV at h1
  have h2 : ¬ (min a b < 0 ∨ min (W.n : Int) 65536 ≤ max a b) := fun hc => by rw [if_pos hc] at h1; cases h1
  exact ⟨a.toNat, b.toNat, by omega, by omega, by omega, by omega⟩
/-- the merge over it: tree, conflicts, steps, error -/
def mergeV (W : HW) (a b limit : Int) : List En × List Cf × Int × Int :=
  if (virtV W a b limit).2.2.2 ≠ 0 then ([], [], 0, (virtV W a b limit).2.2.2) else
  (VM (virtV W a b limit).1 (VT W a) (VT W b), cfR (rowsB (virtV W a b limit).1 (VT W a) (VT W b)), (virtV W a b limit).2.2.1, 0)
set_option maxHeartbeats 4000000 in
theorem vmerge_spec (W : HW) (μ0 : PH) (hW : W.Ok μ0) (hn : W.n ≤ 10000) (μ : PH) (h0 : Le μ0 μ) (hT : RowAt μ 1 0 tabV) (s : HSt) (m : Nat) (hs : AskB m s) (hm : m + 4098 ≤ 4611686018427387904) (a b limit : Int) :
    Spec Tryd.prog 12 [W.sv, .int .i64 a, .int .i64 b, .int .i64 limit] [W.A s, ro μ] (fun r L => ∃ (tv cv : Value) (s' : HSt) (μ' : PH), Le μ μ' ∧ AskB (m + 4097) s' ∧ TOk W.U (mergeV W a b limit).1 ∧ r = .tuple #[tv, cv, .int .i64 (mergeV W a b limit).2.2.1, .int .i64 (mergeV W a b limit).2.2.2] ∧
      L = [own 52 2 tv (mergeV W a b limit).1.length (ens (mergeV W a b limit).1), own 96 4 cv (mergeV W a b limit).2.1.length (cfs (mergeV W a b limit).2.1), W.A s', ro μ']) := by
  have hUl := HW.U_len hW hn
  refine Spec.of 45 Tryd.func12 rfl rfl rfl ?_
  refine swp_seq ?_
  refine swp_region ?_
  refine s_pu (pu_assign rfl) ?_
  refine s_pu (pu_assign rfl) ?_
  refine s_pu (pu_assign rfl) ?_
  refine s_pu (pu_assign rfl) ?_
  refine swl_sub _ (.cons (t := 0) rfl (.cons (t := 1) rfl (.cons (t := 2) rfl (.cons (t := 3) rfl .nil)))) ?_
  refine swl_nil ?_
  refine then_n ?_
  refine swp_seq ?_
  refine swp_region ?_
  refine s_pu (pu_move rfl) ?_
  refine s_pu (pu_move rfl) ?_
  refine s_pu (pu_move rfl) ?_
  refine s_pu (pu_move rfl) ?_
  refine s_ef (ef_fn (virtual_spec W μ0 hW hn μ h0 hT s m hs hm a b limit) rfl rfl (by repeat (first | exact Split.nil | (apply Split.cons; (repeat (first | with_reducible exact Take.here | apply Take.there)))))) ?_
  rintro v23 L1 ⟨tv, s1, μ1, h1, hs1, ht, rfl, rfl⟩
  refine swl_app ?_
  refine s_pu (pu_move rfl) ?_
  first | refine s_pu (pu_extractL rfl) ?_ | refine s_pu (pu_extract rfl rfl) ?_
  first | refine s_pu (pu_extractL rfl) ?_ | refine s_pu (pu_extract rfl rfl) ?_
  first | refine s_pu (pu_extractL rfl) ?_ | refine s_pu (pu_extract rfl rfl) ?_
  first | refine s_pu (pu_extractL rfl) ?_ | refine s_pu (pu_extract rfl rfl) ?_
  refine s_pu (pu_assign rfl) ?_
  refine s_pu (pu_assign rfl) ?_
  refine s_pu (pu_assign rfl) ?_
  refine s_pu (pu_assign rfl) ?_
  refine swl_sub _ (.cons (t := 0) rfl (.cons (t := 1) rfl (.cons (t := 2) rfl (.cons (t := 12) rfl (.cons (t := 14) rfl (.cons (t := 15) rfl .nil)))))) ?_
  refine swl_nil ?_
  refine then_n ?_
  refine swp_seq ?_
  refine swp_seq ?_
  refine swp_region ?_
  refine s_pu (pu_move rfl) ?_
  refine s_pu (pu_neq rfl rfl) ?_
  refine swl_sub _ (.cons (t := 0) rfl (.cons (t := 1) rfl (.cons (t := 2) rfl (.cons (t := 12) rfl (.cons (t := 14) rfl (.cons (t := 15) rfl (.cons (t := 29) rfl .nil))))))) ?_
  refine swl_nil ?_
  refine then_n ?_
  refine swp_cond (b := _) rfl (fun h29 => ?_) (fun h29 => ?_)
  · skip   -- 29 T
    refine swp_seq ?_
    refine swp_region ?_
    refine s_pu (pu_move rfl) ?_
    refine s_pu (pu_assign rfl) ?_
    refine s_pu (pu_assign rfl) ?_
    refine s_pu (pu_assign rfl) ?_
    refine s_pu (pu_assign rfl) ?_
    refine swl_sub _ (.cons (t := 8) rfl (.cons (t := 9) rfl (.cons (t := 10) rfl (.cons (t := 11) rfl .nil)))) ?_
    refine swl_nil ?_
    refine then_n ?_
    refine swp_ret ?_
    refine then_r ?_
    have h29' : (virtV W a b limit).2.2.2 ≠ 0 := fun e => by rw [e] at h29; exact absurd h29 (by decide)
    have e : mergeV W a b limit = ([], [], 0, (virtV W a b limit).2.2.2) := by unfold mergeV; rw [if_pos h29']
    rw [e]
    exact done_retE [own 52 2 (.slice none 0 0) 0 [], own 96 4 (.slice none 0 0) 0 [], W.A s1, ro μ1] (.tmp rfl (.tmp rfl (.tmp rfl (.tmp rfl .nil)))) ⟨_, _, s1, μ1, h1, hs1, TOk.nil _, rfl, rfl⟩ (own_nil_ent.trans (own_nil_ent.trans (Split.ent' (K := [own 52 2 (.slice none 0 0) 0 [], own 96 4 (.slice none 0 0) 0 [], W.A s1, ro μ1]) (by repeat (first | exact Split.nil | (apply Split.cons; (repeat (first | with_reducible exact Take.here | apply Take.there))))))))
  · skip   -- 29 F
    have h29' : (virtV W a b limit).2.2.2 = 0 := by
      by_cases e : (virtV W a b limit).2.2.2 = 0
      · exact e
      · rw [decide_eq_false e] at h29; cases h29
    obtain ⟨i, j, ha, hb, hi, hj⟩ := virtV_in h29' hn
    have e : mergeV W a b limit = (VM (virtV W a b limit).1 (VT W a) (VT W b), cfR (rowsB (virtV W a b limit).1 (VT W a) (VT W b)), (virtV W a b limit).2.2.1, 0) := by unfold mergeV; rw [if_neg (not_not_intro h29')]
    rw [e]
    have eT : ∀ k : Nat, VT W (k : Int) = treeOf W.T k := fun k => rfl
    generalize virtV W a b limit = V at *
    subst ha hb
    rw [eT, eT]
    refine swp_share_own (e := 52) (n := 2) (v := tv) (μ := μ1) (by repeat (first | exact Split.nil | (apply Split.cons; (repeat (first | with_reducible exact Take.here | apply Take.there))))) fun μ2 h2 rT => ?_
    have hW2 := hW.le (h0.trans (h1.trans h2))
    refine swp_skip ?_
    refine then_n ?_
    refine swp_seq ?_
    refine swp_region ?_
    refine s_pu (pu_move rfl) ?_
    refine s_pu (pu_move rfl) ?_
    refine s_pu (pu_move rfl) ?_
    refine s_ef (ef_invS rfl (Nat.zero_le _) (hcontentR W μ2 hW2 s1 i hi) rfl (by repeat (first | exact Split.nil | (apply Split.cons; (repeat (first | with_reducible exact Take.here | apply Take.there)))))) ?_
    rintro v35 L1 ⟨μ3, h3, rA, rfl⟩
    refine swl_app ?_
    refine s_pu (pu_move rfl) ?_
    refine s_pu (pu_move rfl) ?_
    refine s_ef (ef_invS rfl (Nat.zero_le _) (hcontentR W μ3 (hW2.le h3) (lookS s1 i) j hj) rfl (by repeat (first | exact Split.nil | (apply Split.cons; (repeat (first | with_reducible exact Take.here | apply Take.there)))))) ?_
    rintro v38 L1 ⟨μ4, h4, rB, rfl⟩
    refine swl_app ?_
    refine s_ef (ef_fn (three_form μ4 tv v35 v38 V.1 (treeOf W.T i) (treeOf W.T j) (rT.le (h3.trans h4)) (rA.le h4) rB ⟨by have := ht.len; omega, by have := (vt_ok hW2 hi).len; omega, by have := (vt_ok hW2 hj).len; omega⟩ ⟨ht.u32, (vt_ok hW2 hi).u32, (vt_ok hW2 hj).u32⟩) rfl rfl (by repeat (first | exact Split.nil | (apply Split.cons; (repeat (first | with_reducible exact Take.here | apply Take.there)))))) ?_
    rintro v39 L1 ⟨A8, k8, v9, μ5, h5, rfl, rfl⟩
    refine swl_app ?_
    refine s_pu (pu_move rfl) ?_
    first | refine s_pu (pu_extractL rfl) ?_ | refine s_pu (pu_extract rfl rfl) ?_
    first | refine s_pu (pu_extractL rfl) ?_ | refine s_pu (pu_extract rfl rfl) ?_
    refine s_pu (pu_assign rfl) ?_
    refine s_pu (pu_assign rfl) ?_
    refine swl_sub _ (.cons (t := 14) rfl (.cons (t := 16) rfl (.cons (t := 17) rfl .nil))) ?_
    refine swl_nil ?_
    refine then_n ?_
    refine swp_seq ?_
    refine swp_region ?_
    refine s_pu (pu_move rfl) ?_
    refine s_pu (pu_move rfl) ?_
    refine s_pu (pu_move rfl) ?_
    refine s_pu (pu_assign rfl) ?_
    refine s_pu (pu_assign rfl) ?_
    refine s_pu (pu_assign rfl) ?_
    refine s_pu (pu_assign rfl) ?_
    refine swl_sub _ (.cons (t := 8) rfl (.cons (t := 9) rfl (.cons (t := 10) rfl (.cons (t := 11) rfl .nil)))) ?_
    refine swl_nil ?_
    refine then_n ?_
    refine swp_ret ?_
    exact done_retE [own 52 2 (.slice A8 (VM V.1 (treeOf W.T i) (treeOf W.T j)).length k8) (VM V.1 (treeOf W.T i) (treeOf W.T j)).length (ens (VM V.1 (treeOf W.T i) (treeOf W.T j))), own 96 4 v9 (cfR (rowsB V.1 (treeOf W.T i) (treeOf W.T j))).length (cfs (cfR (rowsB V.1 (treeOf W.T i) (treeOf W.T j)))), W.A (lookS (lookS s1 i) j), ro μ5] (.tmp rfl (.tmp rfl (.tmp rfl (.tmp rfl .nil)))) ⟨_, _, lookS (lookS s1 i) j, μ5, h1.trans (h2.trans (h3.trans (h4.trans h5))), fun c => hs1 c, ht.merge (vt_ok hW2 hi) (vt_ok hW2 hj), rfl, rfl⟩ (Split.ent' (by repeat (first | exact Split.nil | (apply Split.cons; (repeat (first | with_reducible exact Take.here | apply Take.there))))))
end SX
namespace SX
open Go Go.Proofs
theorem trow {μ : PH} {vT : Value} {T : List (Value × List En)} (hT : Row μ vT 1 T.length (T.flatMap gT)) {c : Nat} (hc : c < T.length) : ∃ b off cap, vT = .slice (some ⟨b, off, none⟩) T.length cap ∧ CellAt μ b (off + c * 1) (T[c]).1 := by
  obtain ⟨b, off, cap, hv, _, _, hr⟩ := hT.pos (by omega)
  exact ⟨b, off, cap, hv, (hr.elem (f := gT) (n := 1) (fun _ => rfl) (List.getElem?_eq_getElem hc)).cell⟩
theorem was_spec (μ : PH) (vG vT : Value) (G : List (Value × List Int)) (T : List (Value × List En)) (n : Nat) (hG : Graph μ vG G) (hT : Row μ vT 1 T.length (T.flatMap gT)) (hTr : ∀ t ∈ T, Row μ t.1 2 t.2.length (ens t.2) ∧ t.2.length ≤ 100 ∧ GoodT t.2 ∧ U32s t.2) (hTn : T.length = G.length) (hg : Good (nums G)) (hn : n < G.length) :
    Spec Tryd.prog 22 [vG, vT, .int .i64 (n : Nat)] [ro μ] (fun r L => ∃ t, Row μ r 2 t.length (ens t) ∧ t.length ≤ 100 ∧ GoodT t ∧ L = [ro μ]) := by
  obtain ⟨gb, off, cap, x, hv, hx, hxc, hxr, hnx⟩ := row_at hG hn
  refine Spec.of 22 Tryd.func22 rfl rfl rfl ?_
  refine swp_seq ?_
  refine swp_region ?_
  refine s_pu (pu_assign rfl) ?_
  refine swl_sub _ (.cons (t := 0) rfl (.cons (t := 1) rfl (.cons (t := 2) rfl .nil))) ?_
  refine swl_nil ?_
  refine then_n ?_
  refine swp_seq ?_
  refine swp_seq ?_
  refine swp_region ?_
  refine s_pu (pu_move rfl) ?_
  refine s_pu (pu_move rfl) ?_
  refine s_pu (pu_indexAddr (off + n * 1) (congrArg some hv) rfl (by omega) (by omega) (by rw [Int.toNat_natCast])) ?_
  refine s_rd (rd_ro rfl hxc) ?_
  refine s_pu (pu_len_row hxr rfl) ?_
  refine s_pu (pu_eql rfl rfl) ?_
  refine swl_sub _ (.cons (t := 0) rfl (.cons (t := 1) rfl (.cons (t := 2) rfl (.cons (t := 12) rfl .nil)))) ?_
  refine swl_nil ?_
  refine then_n ?_
  refine swp_cond (b := _) rfl (fun h12 => ?_) (fun h12 => ?_)
  · skip   -- 12 T
    refine swp_seq ?_
    refine swp_region ?_
    refine s_pu (pu_assign rfl) ?_
    refine swl_sub _ (.cons (t := 6) rfl .nil) ?_
    refine swl_nil ?_
    refine then_n ?_
    refine swp_ret ?_
    refine then_r ?_
    exact done_ret [ro μ] (.tmp rfl .nil) ⟨[], Row.nil _ _, Nat.zero_le _, good_nil, rfl⟩ (by repeat (first | exact Split.nil | (apply Split.cons; (repeat (first | with_reducible exact Take.here | apply Take.there)))))
  · skip   -- 12 F
    have h12' : ¬ x.2.length = 0 := by have := of_decide_eq_false h12; omega
    obtain ⟨c, rs, hrest⟩ : ∃ c rs, x.2 = c :: rs := by
      cases hq : x.2 with
      | nil => rw [hq] at h12'; exact absurd rfl h12'
      | cons c rs => exact ⟨c, rs, rfl⟩
    have hcin := hg n x.2 hnx c (by rw [hrest]; exact List.mem_cons_self ..)
    obtain ⟨k, rfl⟩ : ∃ k : Nat, c = (k : Int) := ⟨c.toNat, by omega⟩
    have hkn : k < T.length := by omega
    obtain ⟨pb, po, pc, hpv, hpc⟩ := hxr.at_ (show x.2[0]? = some (k : Int) by rw [hrest]; rfl)
    obtain ⟨tb, to, tc, htv, htc⟩ := trow hT hkn
    have ht := hTr _ (List.getElem_mem hkn)
    refine swp_skip ?_
    refine then_n ?_
    refine swp_seq ?_
    refine swp_region ?_
    refine s_pu (pu_move rfl) ?_
    refine s_pu (pu_move rfl) ?_
    refine s_pu (pu_move rfl) ?_
    refine s_pu (pu_indexAddr (off + n * 1) (congrArg some hv) rfl (by omega) (by omega) (by rw [Int.toNat_natCast])) ?_
    refine s_rd (rd_ro rfl hxc) ?_
    refine s_pu (pu_indexAddr (po + 0 * 1) (congrArg some hpv) rfl (by omega) (by omega) rfl) ?_
    refine s_rd (rd_ro rfl hpc) ?_
    refine s_pu (pu_indexAddr (to + k * 1) (congrArg some htv) rfl (by omega) (by omega) (by rw [Int.toNat_natCast])) ?_
    refine s_rd (rd_ro rfl htc) ?_
    refine s_pu (pu_assign rfl) ?_
    refine swl_sub _ (.cons (t := 6) rfl .nil) ?_
    refine swl_nil ?_
    refine then_n ?_
    refine swp_ret ?_
    exact done_ret [ro μ] (.tmp rfl .nil) ⟨_, ht.1, ht.2.1, ht.2.2.1, rfl⟩ (by repeat (first | exact Split.nil | (apply Split.cons; (repeat (first | with_reducible exact Take.here | apply Take.there)))))
end SX
namespace SX
open Go Go.Proofs
theorem gens_row {g : List (List Int)} {gs : List Int} (h : moreG [] g = some gs) {i : Nat} {r : List Int} (hi : g[i]? = some r) : r.length ≤ i := by
  obtain ⟨h1, h2⟩ := okRow_iff.1 (gens_at h hi).2
  have h3 := nodup_in (U := (List.range i).map fun k : Nat => (k : Int)) h2 fun p hp => List.mem_map.2 ⟨p.toNat, List.mem_range.2 (by have := h1 p hp; omega), by have := h1 p hp; omega⟩
  rwa [List.length_map, List.length_range] at h3
theorem more_row {G : List (Value × List Int)} {gs : List Int} (h : moreG [] (nums G) = some gs) {x : Value × List Int} (hx : x ∈ G) : x.2.length ≤ G.length := by
  obtain ⟨i, hi⟩ := List.getElem?_of_mem hx
  have hlt := (List.getElem?_eq_some_iff.1 hi).1
  have := gens_row h (i := i) (r := x.2) (by rw [List.getElem?_map, hi]; rfl)
  omega
set_option maxHeartbeats 2000000 in
theorem goodw_spec (μ : PH) (v : Value) (G : List (Value × List Int)) (mo : Nat) (kn : Int) (hG : Graph μ v G) (hmo : mo ≤ 1048576) :
    Spec Tryd.prog 19 [v, .int .i64 (mo : Nat), .int .i64 kn] [ro μ] (fun r L => ∃ μ', Le μ μ' ∧
      ((¬ chkFrom 0 (nums (G.take (min G.length mo))) = 0 ∧ r = .pointer none ∧ L = [ro μ'])
       ∨ ∃ p v' vn gs, r = .pointer (some ⟨p, 0, none⟩) ∧ Graph μ' v' (G.take (min G.length mo)) ∧ moreG [] (nums (G.take (min G.length mo))) = some gs ∧ Row μ' vn 1 (cutG kn.toNat gs).length ((cutG kn.toNat gs).flatMap (icsk .i64)) ∧ L = [gA p v' vn (min G.length mo) noAsk, ro μ'])) := by
  refine Spec.of 42 Tryd.func19 rfl rfl rfl ?_
  refine swp_seq ?_
  refine swp_region ?_
  refine s_pu (pu_assign rfl) ?_
  refine swl_sub _ (.cons (t := 0) rfl (.cons (t := 1) rfl (.cons (t := 2) rfl .nil))) ?_
  refine swl_nil ?_
  refine then_n ?_
  refine swp_seq ?_
  obtain ⟨v', hG1, hsl⟩ := graph_take (P := Tryd.prog) (tG := 22) hG (min G.length mo) (Nat.min_le_left _ _)
  have hmn : (min (G.length : Int) (mo : Int)) = ((min G.length mo : Nat) : Int) := by omega
  have hlen1 : (G.take (min G.length mo)).length = min G.length mo := by rw [List.length_take]; omega
  have hml : min G.length mo ≤ 1048576 := by omega
  generalize hm : min G.length mo = m at *
  generalize G.take m = Gm at *
  refine swp_region ?_
  refine s_pu (pu_move rfl) ?_
  refine s_pu (pu_move rfl) ?_
  refine s_pu (pu_len_row hG.1 rfl) ?_
  refine s_pu (pu_move rfl) ?_
  refine s_pu (pu_min2 rfl rfl) ?_
  rw [hmn]
  refine s_pu (hsl _ _ _ .i64 _ rfl rfl rfl) ?_
  refine s_pu (pu_assign rfl) ?_
  refine swl_sub _ (.cons (t := 0) rfl (.cons (t := 2) rfl .nil)) ?_
  refine swl_nil ?_
  refine then_n ?_
  refine swp_seq ?_
  refine swp_seq ?_
  refine swp_region ?_
  refine s_pu (pu_move rfl) ?_
  refine s_ef (ef_fn (rcheck_spec μ v' Gm hG1 (by omega)) rfl rfl (by repeat (first | exact Split.nil | (apply Split.cons; (repeat (first | with_reducible exact Take.here | apply Take.there)))))) ?_
  rintro v17 L1 ⟨rfl, rfl⟩
  refine swl_app ?_
  refine s_pu (pu_neq rfl rfl) ?_
  refine swl_sub _ (.cons (t := 0) rfl (.cons (t := 2) rfl (.cons (t := 18) rfl .nil))) ?_
  refine swl_nil ?_
  refine then_n ?_
  refine swp_cond (b := _) rfl (fun h18 => ?_) (fun h18 => ?_)
  · skip   -- 18 T
    have hc : ¬ chkFrom 0 (nums Gm) = 0 := by simpa using h18
    refine swp_seq ?_
    refine swp_region ?_
    refine s_pu (pu_assign rfl) ?_
    refine swl_sub _ (.cons (t := 6) rfl .nil) ?_
    refine swl_nil ?_
    refine then_n ?_
    refine swp_ret ?_
    refine then_r ?_
    exact done_ret [ro μ] (.tmp rfl .nil) ⟨μ, Le.refl _, .inl ⟨hc, rfl, rfl⟩⟩ (by repeat (first | exact Split.nil | (apply Split.cons; (repeat (first | with_reducible exact Take.here | apply Take.there)))))
  · skip   -- 18 F
    have hc : chkFrom 0 (nums Gm) = 0 := by simpa using h18
    obtain ⟨a, ha⟩ : ∃ a, moreG [] (nums Gm) = some a := by
      have hs : (moreG [] (nums Gm)).isSome = true ↔ chkFrom 0 (nums Gm) = 0 := moreG_chk (all := [])
      exact Option.isSome_iff_exists.1 (hs.2 hc)
    have hrows1 : ∀ x ∈ Gm, x.2.length ≤ 1048576 := fun x hx => by
      have := more_row ha hx
      omega
    have hal : a.length = m := by rw [gens_len ha, List.length_map, hlen1]
    have hyes := moreL_some ha
    refine swp_skip ?_
    refine then_n ?_
    refine swp_seq ?_
    refine swp_region ?_
    refine s_pu (pu_move rfl) ?_
    refine s_ef (ef_fn (rall_spec μ v' Gm hG1 (by omega) hrows1) rfl rfl (by repeat (first | exact Split.nil | (apply Split.cons; (repeat (first | with_reducible exact Take.here | apply Take.there)))))) ?_
    rintro v21 L1 ⟨lv, rfl, rfl⟩
    refine swl_app ?_
    rw [hyes.1, hyes.2, show a.drop ([] : List Int).length = a from rfl]
    refine swl_fact (fun m h => own_shape .here h) fun hs1 => ?_
    have hform := shape_len hs1
    refine s_pu (pu_move rfl) ?_
    first | refine s_pu (pu_extractL rfl) ?_ | refine s_pu (pu_extract rfl rfl) ?_
    first | refine s_pu (pu_extractL rfl) ?_ | refine s_pu (pu_extract rfl rfl) ?_
    refine s_pu (pu_assign rfl) ?_
    refine s_pu (pu_assign rfl) ?_
    refine swl_sub _ (.cons (t := 0) rfl (.cons (t := 2) rfl (.cons (t := 7) rfl .nil))) ?_
    refine swl_nil ?_
    refine then_n ?_
    refine swp_seq ?_
    refine swp_seq ?_
    refine swp_region ?_
    refine s_pu (pu_move rfl) ?_
    refine s_pu (pu_max2 rfl rfl) ?_
    rw [show max kn 0 = ((kn.toNat : Nat) : Int) by omega]
    generalize kn.toNat = kk at *
    refine s_pu (pu_assign rfl) ?_
    refine swl_sub _ (.cons (t := 0) rfl (.cons (t := 7) rfl (.cons (t := 9) rfl .nil))) ?_
    refine swl_nil ?_
    refine then_n ?_
    refine swp_block ?_
    rw [ncs_of, ncs_ext (d := fun j => if kk ≤ j ∧ j < kk then 1024 else a.getD j 0) (fun j _ => (if_neg (by omega)).symm)]
    refine swp_sub _ (.cons (t := 0) rfl (.cons (t := 7) rfl (.cons (t := 9) rfl .nil))) ?_
    refine swp_loop (ι := Nat) (fun i env L => env = [(0, v'), (7, lv), (9, .int .i64 (i : Nat))] ∧ L = [own 3 1 lv a.length (ncs a.length (fun j => if kk ≤ j ∧ j < i then 1024 else a.getD j 0)), ro μ] ∧ kk ≤ i) (fun i => a.length - i) kk ⟨rfl, rfl, Nat.le_refl _⟩ ?_
    rintro i env L ⟨rfl, rfl, hi⟩
    refine swp_seq ?_
    refine swp_seq ?_
    refine swp_region ?_
    refine s_pu (pu_move rfl) ?_
    refine s_pu (pu_move rfl) ?_
    refine s_pu (pu_len_own hform rfl) ?_
    refine s_pu (pu_lss rfl rfl) ?_
    refine swl_sub _ (.cons (t := 0) rfl (.cons (t := 7) rfl (.cons (t := 9) rfl (.cons (t := 29) rfl .nil)))) ?_
    refine swl_nil ?_
    refine then_n ?_
    refine swp_cond (b := _) rfl (fun h29 => ?_) (fun h29 => ?_)
    · skip   -- 29 T
      have h29' : i < a.length := by have := of_decide_eq_true h29; omega
      refine swp_own (fun h0 l0 _ => by omega) (fun b1 c1 ex1 hv1 w1 w2 w3 w4 => ?_)
      subst hv1
      refine swp_skip ?_
      refine then_n ?_
      refine swp_seq ?_
      refine swp_block ?_
      refine swp_region ?_
      refine s_pu (pu_move rfl) ?_
      refine s_pu (pu_move rfl) ?_
      refine s_pu (pu_indexAddr i rfl rfl (by omega) (by omega) (by omega)) ?_
      refine s_ef0 (ef_storeP rfl rfl rfl (by rw [List.length_append, ncs_len]; omega)) ?_
      refine swl_sub _ (.cons (t := 0) rfl (.cons (t := 7) rfl (.cons (t := 9) rfl .nil))) ?_
      rw [List.set_append_left (h := by rw [ncs_len]; exact h29'), ncs_set (d := fun j => if kk ≤ j ∧ j < i + 1 then 1024 else a.getD j 0) (fun j => by
        by_cases e : j = i
        · subst e; rw [if_pos rfl, if_pos ⟨hi, Nat.lt_succ_self _⟩]
        · rw [if_neg e]
          by_cases h : kk ≤ j ∧ j < i
          · rw [if_pos h, if_pos (by omega)]
          · rw [if_neg h, if_neg (by omega)])]
      refine swl_ent (own_close (n := 1) (by rw [ncs_len]; omega) w4 w1 w2) ?_
      refine swl_nil ?_
      refine block_n ?_
      refine then_n ?_
      refine swp_region ?_
      refine s_pu (pu_move rfl) ?_
      refine s_pu (pu_add_as ((i + 1 : Nat) : Int) rfl rfl (by omega) (by omega) (by omega)) ?_
      refine s_pu (pu_assign rfl) ?_
      refine swl_sub _ (.cons (t := 0) rfl (.cons (t := 7) rfl (.cons (t := 9) rfl .nil))) ?_
      refine swl_nil ?_
      exact then_n ⟨i + 1, ⟨rfl, rfl, by omega⟩, by omega⟩
    · skip   -- 29 F
      have h29' := of_decide_eq_false h29
      rw [ncs_ext (d := fun j => if j < kk then a.getD j 0 else 1024) (fun j hj => by
        by_cases h : j < kk
        · rw [if_pos h, if_neg (by omega)]
        · rw [if_neg h, if_pos (by omega)]), ← ncs_cut]
      have hcl := cutG_len kk a
      rw [← hcl]
      refine swp_share_own (μ := μ) (by repeat (first | exact Split.nil | (apply Split.cons; (repeat (first | with_reducible exact Take.here | apply Take.there))))) fun μ4 h4 r4 => ?_
      obtain ⟨A9, c9, rfl⟩ := r4.sl
      obtain ⟨A8, c8, rfl⟩ := hG1.1.sl
      refine swp_exit ?_
      refine then_x ?_
      refine then_x ?_
      refine block_hit rfl ?_
      refine then_n ?_
      refine swp_seq ?_
      refine swp_region ?_
      refine s_pu (pu_move rfl) ?_
      refine s_pu (pu_move rfl) ?_
      refine s_pu (pu_move rfl) ?_
      refine s_pu (pu_len_row hG1.1 rfl) ?_
      refine s_ef (ef_make1 m rfl rfl (by rw [hlen1]) (by omega) (by simp only [maxLen]; omega)) ?_
      rintro b39
      skip
      refine s_pu (pu_bld (qs := [(0, _), (1, _), (2, _)]) rfl) ?_
      refine s_ef (ef_box rfl rfl) ?_
      intro b41
      refine s_pu (pu_assign rfl) ?_
      refine swl_sub _ (.cons (t := 6) rfl .nil) ?_
      rw [show List.replicate m (Value.int .i64 0) = askV m noAsk from ncs_zero m]
      refine swl_ent (Split.ent' (K := [blk b39 3 (askV m noAsk), blk b41 45 [.slice A8 Gm.length c8, .slice A9 (cutG kk a).length c9, .slice (some ⟨b39, 0, none⟩) m m], ro μ4]) (by repeat (first | exact Split.nil | (apply Split.cons; (repeat (first | with_reducible exact Take.here | apply Take.there)))))) ?_
      refine swl_ent (own_full (by unfold askV; rw [ncs_len]) (by simp only [maxLen]; omega)) ?_
      refine swl_nil ?_
      refine then_n ?_
      refine swp_ret ?_
      refine done_retE [gA b41 (.slice A8 Gm.length c8) (.slice A9 (cutG kk a).length c9) m noAsk, ro μ4] (.tmp rfl .nil) ⟨μ4, h4, .inr ⟨b41, _, _, a, rfl, hG1.le h4, ha, r4, rfl⟩⟩ ?_
      exact (Ent.perm (.swap _ _ _)).trans gA_close
theorem good2w_spec (μ : PH) (v : Value) (G : List (Value × List Int)) (mo : Nat) (kn : Int) (hG : Graph μ v G) (hmo : mo ≤ 65536) :
    Spec Tryd.prog 19 [v, .int .i64 (mo : Nat), .int .i64 kn] [ro μ] (fun r L => ∃ μ' o A, Le μ μ' ∧ r = .pointer o ∧ L = [A, ro μ'] ∧ GoodIs G mo kn μ' o A) := by
  refine Spec.ent3 (goodw_spec μ v G mo kn hG (by omega)) fun r L ⟨μ', h1, h2⟩ => ?_
  have hl : (G.take (min G.length mo)).length = min G.length mo := by rw [List.length_take]; omega
  rcases h2 with ⟨k1, rfl, rfl⟩ | ⟨p, v', vn, gs, rfl, k1, k2, k3, rfl⟩
  · exact ⟨_, star_close (K := []) (L := [ro μ']), μ', none, star [], h1, rfl, rfl, .inl ⟨rfl, k1⟩⟩
  · exact ⟨_, Ent.refl _, μ', _, _, h1, rfl, rfl, .inr ⟨p, v', vn, gs, rfl, ⟨k1, k2, k3, by omega, fun x hx => by have := more_row k2 hx; omega⟩, by rw [hl]⟩⟩
end SX
namespace SX
open Go Go.Proofs
/-- the world of a law -/
structure Wld where
  vG : Value
  vT : Value
  vF : Value
  S : Sett
  G : List (Value × List Int)
  T : List (Value × List En)
  F : List Bool
abbrev Wld.cells (w : Wld) : List Value := [w.vG, w.vT, .int .i64 w.S.ha, .int .i64 w.S.pe, .int .i64 w.S.mo, .int .u32 (w.S.seed.toNat : Nat), w.vF]
structure Wld.Ok (w : Wld) (μ : PH) : Prop where
  hG : Graph μ w.vG w.G
  hT : Row μ w.vT 1 w.T.length (w.T.flatMap gT)
  hTr : ∀ t ∈ w.T, Row μ t.1 2 t.2.length (ens t.2) ∧ U32s t.2
  hF : Row μ w.vF 1 w.F.length (w.F.map .bool)
theorem Wld.Ok.le {w : Wld} {μ μ' : PH} (h : w.Ok μ) (k : Le μ μ') : w.Ok μ' := ⟨h.hG.le k, h.hT.le k, fun t ht => ⟨(h.hTr t ht).1.le k, (h.hTr t ht).2⟩, h.hF.le k⟩
def ofT (T : List (Value × List En)) (c : Nat) : List En := if T.length = 0 then [] else goodE ((T[c % T.length]?).getD (.slice none 0 0, [])).2
theorem ofT_ok {T : List (Value × List En)} (hu : ∀ t ∈ T, U32s t.2) (c : Nat) : (ofT T c).length ≤ 100 ∧ GoodT (ofT T c) ∧ U32s (ofT T c) := by
  unfold ofT
  split
  · exact ⟨Nat.zero_le _, good_nil, fun _ h => by cases h⟩
  · have hm : c % T.length < T.length := Nat.mod_lt _ (by omega)
    rw [List.getElem?_eq_getElem hm]
    exact ⟨goodE_len _, good_good _, u32s_good (hu _ (List.getElem_mem hm))⟩
theorem fil_zero (n : Nat) : ((List.replicate n ()).flatMap fun _ => [Value.int .i64 0, .string ⟨#[]⟩]) = (List.replicate n ((0, []) : Fil)).flatMap encF := by
  induction n with
  | zero => rfl
  | succ n ih => rw [List.replicate_succ, List.replicate_succ, List.flatMap_cons, List.flatMap_cons, ih]; rfl
theorem bcn_zero (n : Nat) : ((List.replicate n ()).flatMap fun _ => [Value.bool false]) = bcn n fun _ => false := by
  have e : ∀ l : List Nat, ((List.replicate l.length ()).flatMap fun _ => [Value.bool false]) = l.map fun _ => Value.bool false := fun l => by
    induction l with
    | nil => rfl
    | cons a l ih => rw [List.length_cons, List.replicate_succ, List.flatMap_cons, ih]; rfl
  have := e (List.range n)
  rwa [List.length_range] at this
theorem ro_less {μ μ' : PH} (h : Le μ μ') {L : List Assn} : Ent (ro μ' :: L) (ro μ :: L) := Ent.imp fun _ hm b o hb => hm b o (h b o hb)
/-- a filter, and nothing in memory -/
theorem sof2_spec (μ : PH) (s : Sett) (va vb : Value) (a b : List En) (ha : Row μ va 2 a.length (ens a)) (hb : Row μ vb 2 b.length (ens b)) (hsz : a.length ≤ 100 ∧ b.length ≤ 100) (ga : GoodT a) (gb : GoodT b) :
    Spec Tryd.prog 21 [.agg (encS s).toArray, va, vb] [ro μ] (fun r L => ∃ (f : Fil) (e : Int), r = .tuple #[.agg (encF f).toArray, .int .i64 e] ∧ f.2.length ≤ 1048576 ∧ L = [ro μ]) :=
  Spec.ent3 (sof_spec μ s va vb a b ha hb hsz ga gb) fun r L ⟨f, e, μ', h1, h2, h3, _, h4⟩ => ⟨[ro μ], by rw [h4]; exact ro_less h1, f, e, h2, h3, rfl⟩
def st00 : HSt := ⟨noAsk, fun _ => false, fun _ => false⟩
set_option maxHeartbeats 8000000 in
theorem of_spec (w : Wld) (μ : PH) (h : w.Ok μ) (mo : Nat) (hmo : mo ≤ 10000) :
    Spec Tryd.prog 9 [.agg w.cells.toArray, .int .i64 (mo : Nat)] [ro μ] (fun r L => ∃ μ', Le μ μ' ∧
      ((¬ chkFrom 0 (nums (w.G.take (min w.G.length mo))) = 0 ∧ r = .pointer none ∧ L = [ro μ']) ∨
       ∃ W : HW, r = .pointer (some ⟨W.p, 0, none⟩) ∧ W.Ok μ' ∧ W.G = w.G.take (min w.G.length mo) ∧ W.n = min w.G.length mo ∧ W.T.map (·.2) = (List.range W.n).map (ofT w.T) ∧ L = [W.A st00, ro μ'])) := by
  refine Spec.of 113 Tryd.func9 rfl rfl rfl ?_
  refine swp_seq ?_
  refine swp_region ?_
  refine s_ef (ef_box rfl rfl) ?_
  intro b2
  refine s_pu (pu_assign rfl) ?_
  refine swl_sub _ (.cons (t := 1) rfl (.cons (t := 2) rfl .nil)) ?_
  refine swl_nil ?_
  refine then_n ?_
  refine swp_seq ?_
  refine swp_region ?_
  first | refine s_pu (pu_fieldAddr0 rfl) ?_ | refine s_pu (pu_fieldAddr rfl) ?_
  refine s_rd (rd_load rfl rfl) ?_
  refine s_pu (pu_move rfl) ?_
  refine s_pu (pu_move rfl) ?_
  refine s_ef (ef_fn (good2w_spec μ w.vG w.G mo mo h.hG (by omega)) rfl rfl (by repeat (first | exact Split.nil | (apply Split.cons; (repeat (first | with_reducible exact Take.here | apply Take.there)))))) ?_
  rintro v15 L1 ⟨μ1, o, A, h1, rfl, rfl, hp⟩
  skip
  refine s_pu (pu_assign rfl) ?_
  refine swl_sub _ (.cons (t := 2) rfl (.cons (t := 5) rfl .nil)) ?_
  refine swl_nil ?_
  refine then_n ?_
  refine swp_seq ?_
  refine swp_seq ?_
  refine swp_region ?_
  refine s_pu (pu_move rfl) ?_
  refine s_pu (pu_ptr_eq_nil rfl rfl) ?_
  refine swl_sub _ (.cons (t := 2) rfl (.cons (t := 5) rfl (.cons (t := 17) rfl .nil))) ?_
  refine swl_nil ?_
  refine then_n ?_
  refine swp_cond (b := _) rfl (fun h17 => ?_) (fun h17 => ?_)
  · skip   -- 17 T
    refine swp_seq ?_
    refine swp_region ?_
    refine s_pu (pu_assign rfl) ?_
    refine swl_sub _ (.cons (t := 4) rfl .nil) ?_
    refine swl_nil ?_
    refine then_n ?_
    refine swp_ret ?_
    refine then_r ?_
    rcases hp with ⟨rfl, k1⟩ | ⟨p, v', vn, gs, rfl, _⟩
    · exact done_retE [ro μ1] (.tmp rfl .nil) ⟨μ1, h1, .inl ⟨k1, rfl, rfl⟩⟩ (show Ent (A :: ro μ1 :: _) _ from Ent.drop.trans (Split.ent' (by repeat (first | exact Split.nil | (apply Split.cons; (repeat (first | with_reducible exact Take.here | apply Take.there)))))))
    · cases h17
  · skip   -- 17 F
    obtain ⟨p, v', vn, gs, rfl, hGS, rfl⟩ : ∃ p v' vn gs, o = some ⟨p, 0, none⟩ ∧ GS μ1 v' vn (w.G.take (min w.G.length mo)) gs mo ∧ A = gA p v' vn (w.G.take (min w.G.length mo)).length noAsk := by
      rcases hp with ⟨rfl, _⟩ | k
      · cases h17
      · exact k
    clear hp
    have hgood := gens_good hGS.ha
    have hGn : (w.G.take (min w.G.length mo)).length = min w.G.length mo := by rw [List.length_take]; omega
    have hn10 : (w.G.take (min w.G.length mo)).length ≤ 10000 := by omega
    generalize w.G.take (min w.G.length mo) = G at *
    obtain ⟨n, hn⟩ : ∃ n, n = G.length := ⟨_, rfl⟩
    have hG1 := hGS.hG
    have hT1 := h.hT.le h1
    have hF1 := h.hF.le h1
    have hTs := hT1.small
    have hFs := hF1.small
    refine swp_ex fun va => ?_
    simp only [List.append_eq, List.cons_append, List.nil_append]
    obtain ⟨AG, cG, hvG⟩ : ∃ A c, v' = .slice A n c := by obtain ⟨_, A, c, e, _⟩ := hG1.1; exact ⟨A, c, by rw [hn]; exact e⟩
    rw [← hn]
    refine swp_skip ?_
    refine then_n ?_
    refine swp_seq ?_
    refine swp_region ?_
    refine s_pu (pu_move rfl) ?_
    first | refine s_pu (pu_nilCheck rfl) ?_ | refine s_pu (pu_nilCheck_fn rfl) ?_ | refine s_pu (pu_nilCheck_if rfl) ?_
    first | refine s_pu (pu_fieldAddr0 rfl) ?_ | refine s_pu (pu_fieldAddr rfl) ?_
    refine s_rd (rd_load rfl rfl) ?_
    refine s_pu (pu_len (congrArg some hvG)) ?_
    refine s_pu (pu_assign rfl) ?_
    refine swl_sub _ (.cons (t := 2) rfl (.cons (t := 5) rfl (.cons (t := 6) rfl .nil))) ?_
    refine swl_nil ?_
    refine then_n ?_
    refine swp_cut (fun env L => ∃ (b33 b27 : Nat) (vl vm : Value), Sub env [(2, .pointer (some ⟨b2, 0, none⟩)), (5, .pointer (some ⟨p, 0, none⟩)), (6, .int .i64 (n : Nat)), (7, .pointer (some ⟨b33, 0, none⟩))] ∧ Ent L [blk b33 42 [.pointer (some ⟨p, 0, none⟩), .slice none 0 0, .int .i64 w.S.ha, .int .i64 w.S.pe, .int .i64 w.S.mo, .int .u32 (w.S.seed.toNat : Nat), .slice (some ⟨b27, 0, none⟩) n n, vl, vm], own 72 2 (.slice (some ⟨b27, 0, none⟩) n n) n ((List.replicate n ()).flatMap fun _ => [.int .i64 0, .string ⟨#[]⟩]), own 4 1 vl n ((List.replicate n ()).flatMap fun _ => [.bool false]), own 4 1 vm n ((List.replicate n ()).flatMap fun _ => [.bool false]), blk b2 29 w.cells, blk p 45 [v', vn, va], own 3 1 va n (askV n noAsk), ro μ1]) ?_ ?_
    · skip
      refine swp_draw [2] _ [] (by simp only [List.append_nil]; exact Ent.refl _) (by kernel_rfl) ?_
      refine d_pu 0 rfl (pu_move rfl) (by kernel_rfl) (by kernel_rfl) (by kernel_rfl) ?_
      first | refine d_pu 1 rfl (pu_fieldAddr0 rfl) (by kernel_rfl) (by kernel_rfl) (by kernel_rfl) ?_ | refine d_pu 1 rfl (pu_fieldAddr rfl) (by kernel_rfl) (by kernel_rfl) (by kernel_rfl) ?_
      first | refine d_rd 2 rfl (rd_loadW rfl rfl) rfl (by kernel_rfl) (by kernel_rfl) (by kernel_rfl) ?_ | refine d_rd 2 rfl (rd_loadX rfl rfl rfl) rfl (by kernel_rfl) (by kernel_rfl) (by kernel_rfl) ?_
      refine d_pu 3 rfl (pu_move rfl) (by kernel_rfl) (by kernel_rfl) (by kernel_rfl) ?_
      refine d_pu 5 rfl (pu_move rfl) (by kernel_rfl) (by kernel_rfl) (by kernel_rfl) ?_
      refine d_pu 7 rfl (pu_move rfl) (by kernel_rfl) (by kernel_rfl) (by kernel_rfl) ?_
      refine d_amb [4, 6, 8] (by kernel_rfl) rfl ⟨?_, ?_, ?_⟩
      · skip   -- 4 comes first
        refine dA_ef 4 rfl GOn.none (ef_makeN n rfl rfl rfl (by omega) (by simp only [maxLen]; omega)) ?_
        rintro b27
        refine ⟨_, Split.ent (by repeat (first | exact Split.nil | (apply Split.cons; (repeat (first | with_reducible exact Take.here | apply Take.there))))), ?_⟩
        refine d_amb [6, 8] (by kernel_rfl) rfl ⟨?_, ?_⟩
        · skip   -- 6 comes first
          refine dA_ef 6 rfl GOn.none (ef_makeN n rfl rfl rfl (by omega) (by simp only [maxLen]; omega)) ?_
          rintro b29
          refine ⟨_, Split.ent (by repeat (first | exact Split.nil | (apply Split.cons; (repeat (first | with_reducible exact Take.here | apply Take.there))))), ?_⟩
          refine d_eft 8 rfl (by kernel_rfl) (ef_makeN n rfl rfl rfl (by omega) (by simp only [maxLen]; omega)) ?_
          rintro b31
          refine ⟨_, Split.ent (by repeat (first | exact Split.nil | (apply Split.cons; (repeat (first | with_reducible exact Take.here | apply Take.there))))), ?_⟩
          simp only [show List.take 4 (List.drop 2 w.cells) = [.int .i64 w.S.ha, .int .i64 w.S.pe, .int .i64 w.S.mo, .int .u32 (w.S.seed.toNat : Nat)] from rfl]
          refine d_pu 9 rfl (pu_bld (qs := [(0, _), (2, _), (3, _), (4, _), (5, _)]) rfl) (by kernel_rfl) (by kernel_rfl) (by kernel_rfl) ?_
          first | refine d_fint 10 rfl (by kernel_rfl) (by kernel_rfl) (ef_box rfl rfl) ?_ | refine d_finf 10 rfl (by kernel_rfl) (by kernel_rfl) (ef_box rfl rfl) ?_
          intro b33
          refine d_pu 11 rfl (pu_assign rfl) (by kernel_rfl) (by kernel_rfl) (by kernel_rfl) ?_
          refine d_sub _ (.cons (t := 2) rfl (.cons (t := 5) rfl (.cons (t := 6) rfl (.cons (t := 7) rfl .nil)))) ?_
          first | refine d_nilt (by kernel_rfl) ?_ | refine d_nilf (by kernel_rfl) ?_
          exact then_n ⟨b33, b27, _, _, ⟨rfl, rfl, rfl, rfl, trivial⟩, Split.ent' (by repeat (first | exact Split.nil | (apply Split.cons; (repeat (first | with_reducible exact Take.here | apply Take.there)))))⟩
        · skip   -- 8 comes first
          refine dA_ef 8 rfl GOn.none (ef_makeN n rfl rfl rfl (by omega) (by simp only [maxLen]; omega)) ?_
          rintro b31
          refine ⟨_, Split.ent (by repeat (first | exact Split.nil | (apply Split.cons; (repeat (first | with_reducible exact Take.here | apply Take.there))))), ?_⟩
          refine d_eft 6 rfl (by kernel_rfl) (ef_makeN n rfl rfl rfl (by omega) (by simp only [maxLen]; omega)) ?_
          rintro b29
          refine ⟨_, Split.ent (by repeat (first | exact Split.nil | (apply Split.cons; (repeat (first | with_reducible exact Take.here | apply Take.there))))), ?_⟩
          simp only [show List.take 4 (List.drop 2 w.cells) = [.int .i64 w.S.ha, .int .i64 w.S.pe, .int .i64 w.S.mo, .int .u32 (w.S.seed.toNat : Nat)] from rfl]
          refine d_pu 9 rfl (pu_bld (qs := [(0, _), (2, _), (3, _), (4, _), (5, _)]) rfl) (by kernel_rfl) (by kernel_rfl) (by kernel_rfl) ?_
          first | refine d_fint 10 rfl (by kernel_rfl) (by kernel_rfl) (ef_box rfl rfl) ?_ | refine d_finf 10 rfl (by kernel_rfl) (by kernel_rfl) (ef_box rfl rfl) ?_
          intro b33
          refine d_pu 11 rfl (pu_assign rfl) (by kernel_rfl) (by kernel_rfl) (by kernel_rfl) ?_
          refine d_sub _ (.cons (t := 2) rfl (.cons (t := 5) rfl (.cons (t := 6) rfl (.cons (t := 7) rfl .nil)))) ?_
          first | refine d_nilt (by kernel_rfl) ?_ | refine d_nilf (by kernel_rfl) ?_
          exact then_n ⟨b33, b27, _, _, ⟨rfl, rfl, rfl, rfl, trivial⟩, Split.ent' (by repeat (first | exact Split.nil | (apply Split.cons; (repeat (first | with_reducible exact Take.here | apply Take.there)))))⟩
      · skip   -- 6 comes first
        refine dA_ef 6 rfl GOn.none (ef_makeN n rfl rfl rfl (by omega) (by simp only [maxLen]; omega)) ?_
        rintro b29
        refine ⟨_, Split.ent (by repeat (first | exact Split.nil | (apply Split.cons; (repeat (first | with_reducible exact Take.here | apply Take.there))))), ?_⟩
        refine d_amb [4, 8] (by kernel_rfl) rfl ⟨?_, ?_⟩
        · skip   -- 4 comes first
          refine dA_ef 4 rfl GOn.none (ef_makeN n rfl rfl rfl (by omega) (by simp only [maxLen]; omega)) ?_
          rintro b27
          refine ⟨_, Split.ent (by repeat (first | exact Split.nil | (apply Split.cons; (repeat (first | with_reducible exact Take.here | apply Take.there))))), ?_⟩
          refine d_eft 8 rfl (by kernel_rfl) (ef_makeN n rfl rfl rfl (by omega) (by simp only [maxLen]; omega)) ?_
          rintro b31
          refine ⟨_, Split.ent (by repeat (first | exact Split.nil | (apply Split.cons; (repeat (first | with_reducible exact Take.here | apply Take.there))))), ?_⟩
          simp only [show List.take 4 (List.drop 2 w.cells) = [.int .i64 w.S.ha, .int .i64 w.S.pe, .int .i64 w.S.mo, .int .u32 (w.S.seed.toNat : Nat)] from rfl]
          refine d_pu 9 rfl (pu_bld (qs := [(0, _), (2, _), (3, _), (4, _), (5, _)]) rfl) (by kernel_rfl) (by kernel_rfl) (by kernel_rfl) ?_
          first | refine d_fint 10 rfl (by kernel_rfl) (by kernel_rfl) (ef_box rfl rfl) ?_ | refine d_finf 10 rfl (by kernel_rfl) (by kernel_rfl) (ef_box rfl rfl) ?_
          intro b33
          refine d_pu 11 rfl (pu_assign rfl) (by kernel_rfl) (by kernel_rfl) (by kernel_rfl) ?_
          refine d_sub _ (.cons (t := 2) rfl (.cons (t := 5) rfl (.cons (t := 6) rfl (.cons (t := 7) rfl .nil)))) ?_
          first | refine d_nilt (by kernel_rfl) ?_ | refine d_nilf (by kernel_rfl) ?_
          exact then_n ⟨b33, b27, _, _, ⟨rfl, rfl, rfl, rfl, trivial⟩, Split.ent' (by repeat (first | exact Split.nil | (apply Split.cons; (repeat (first | with_reducible exact Take.here | apply Take.there)))))⟩
        · skip   -- 8 comes first
          refine dA_ef 8 rfl GOn.none (ef_makeN n rfl rfl rfl (by omega) (by simp only [maxLen]; omega)) ?_
          rintro b31
          refine ⟨_, Split.ent (by repeat (first | exact Split.nil | (apply Split.cons; (repeat (first | with_reducible exact Take.here | apply Take.there))))), ?_⟩
          refine d_eft 4 rfl (by kernel_rfl) (ef_makeN n rfl rfl rfl (by omega) (by simp only [maxLen]; omega)) ?_
          rintro b27
          refine ⟨_, Split.ent (by repeat (first | exact Split.nil | (apply Split.cons; (repeat (first | with_reducible exact Take.here | apply Take.there))))), ?_⟩
          simp only [show List.take 4 (List.drop 2 w.cells) = [.int .i64 w.S.ha, .int .i64 w.S.pe, .int .i64 w.S.mo, .int .u32 (w.S.seed.toNat : Nat)] from rfl]
          refine d_pu 9 rfl (pu_bld (qs := [(0, _), (2, _), (3, _), (4, _), (5, _)]) rfl) (by kernel_rfl) (by kernel_rfl) (by kernel_rfl) ?_
          first | refine d_fint 10 rfl (by kernel_rfl) (by kernel_rfl) (ef_box rfl rfl) ?_ | refine d_finf 10 rfl (by kernel_rfl) (by kernel_rfl) (ef_box rfl rfl) ?_
          intro b33
          refine d_pu 11 rfl (pu_assign rfl) (by kernel_rfl) (by kernel_rfl) (by kernel_rfl) ?_
          refine d_sub _ (.cons (t := 2) rfl (.cons (t := 5) rfl (.cons (t := 6) rfl (.cons (t := 7) rfl .nil)))) ?_
          first | refine d_nilt (by kernel_rfl) ?_ | refine d_nilf (by kernel_rfl) ?_
          exact then_n ⟨b33, b27, _, _, ⟨rfl, rfl, rfl, rfl, trivial⟩, Split.ent' (by repeat (first | exact Split.nil | (apply Split.cons; (repeat (first | with_reducible exact Take.here | apply Take.there)))))⟩
      · skip   -- 8 comes first
        refine dA_ef 8 rfl GOn.none (ef_makeN n rfl rfl rfl (by omega) (by simp only [maxLen]; omega)) ?_
        rintro b31
        refine ⟨_, Split.ent (by repeat (first | exact Split.nil | (apply Split.cons; (repeat (first | with_reducible exact Take.here | apply Take.there))))), ?_⟩
        refine d_amb [4, 6] (by kernel_rfl) rfl ⟨?_, ?_⟩
        · skip   -- 4 comes first
          refine dA_ef 4 rfl GOn.none (ef_makeN n rfl rfl rfl (by omega) (by simp only [maxLen]; omega)) ?_
          rintro b27
          refine ⟨_, Split.ent (by repeat (first | exact Split.nil | (apply Split.cons; (repeat (first | with_reducible exact Take.here | apply Take.there))))), ?_⟩
          refine d_eft 6 rfl (by kernel_rfl) (ef_makeN n rfl rfl rfl (by omega) (by simp only [maxLen]; omega)) ?_
          rintro b29
          refine ⟨_, Split.ent (by repeat (first | exact Split.nil | (apply Split.cons; (repeat (first | with_reducible exact Take.here | apply Take.there))))), ?_⟩
          simp only [show List.take 4 (List.drop 2 w.cells) = [.int .i64 w.S.ha, .int .i64 w.S.pe, .int .i64 w.S.mo, .int .u32 (w.S.seed.toNat : Nat)] from rfl]
          refine d_pu 9 rfl (pu_bld (qs := [(0, _), (2, _), (3, _), (4, _), (5, _)]) rfl) (by kernel_rfl) (by kernel_rfl) (by kernel_rfl) ?_
          first | refine d_fint 10 rfl (by kernel_rfl) (by kernel_rfl) (ef_box rfl rfl) ?_ | refine d_finf 10 rfl (by kernel_rfl) (by kernel_rfl) (ef_box rfl rfl) ?_
          intro b33
          refine d_pu 11 rfl (pu_assign rfl) (by kernel_rfl) (by kernel_rfl) (by kernel_rfl) ?_
          refine d_sub _ (.cons (t := 2) rfl (.cons (t := 5) rfl (.cons (t := 6) rfl (.cons (t := 7) rfl .nil)))) ?_
          first | refine d_nilt (by kernel_rfl) ?_ | refine d_nilf (by kernel_rfl) ?_
          exact then_n ⟨b33, b27, _, _, ⟨rfl, rfl, rfl, rfl, trivial⟩, Split.ent' (by repeat (first | exact Split.nil | (apply Split.cons; (repeat (first | with_reducible exact Take.here | apply Take.there)))))⟩
        · skip   -- 6 comes first
          refine dA_ef 6 rfl GOn.none (ef_makeN n rfl rfl rfl (by omega) (by simp only [maxLen]; omega)) ?_
          rintro b29
          refine ⟨_, Split.ent (by repeat (first | exact Split.nil | (apply Split.cons; (repeat (first | with_reducible exact Take.here | apply Take.there))))), ?_⟩
          refine d_eft 4 rfl (by kernel_rfl) (ef_makeN n rfl rfl rfl (by omega) (by simp only [maxLen]; omega)) ?_
          rintro b27
          refine ⟨_, Split.ent (by repeat (first | exact Split.nil | (apply Split.cons; (repeat (first | with_reducible exact Take.here | apply Take.there))))), ?_⟩
          simp only [show List.take 4 (List.drop 2 w.cells) = [.int .i64 w.S.ha, .int .i64 w.S.pe, .int .i64 w.S.mo, .int .u32 (w.S.seed.toNat : Nat)] from rfl]
          refine d_pu 9 rfl (pu_bld (qs := [(0, _), (2, _), (3, _), (4, _), (5, _)]) rfl) (by kernel_rfl) (by kernel_rfl) (by kernel_rfl) ?_
          first | refine d_fint 10 rfl (by kernel_rfl) (by kernel_rfl) (ef_box rfl rfl) ?_ | refine d_finf 10 rfl (by kernel_rfl) (by kernel_rfl) (ef_box rfl rfl) ?_
          intro b33
          refine d_pu 11 rfl (pu_assign rfl) (by kernel_rfl) (by kernel_rfl) (by kernel_rfl) ?_
          refine d_sub _ (.cons (t := 2) rfl (.cons (t := 5) rfl (.cons (t := 6) rfl (.cons (t := 7) rfl .nil)))) ?_
          first | refine d_nilt (by kernel_rfl) ?_ | refine d_nilf (by kernel_rfl) ?_
          exact then_n ⟨b33, b27, _, _, ⟨rfl, rfl, rfl, rfl, trivial⟩, Split.ent' (by repeat (first | exact Split.nil | (apply Split.cons; (repeat (first | with_reducible exact Take.here | apply Take.there)))))⟩
    rintro env L ⟨b33, b27, vl, vm, hsub, hE⟩
    refine swp_sub _ hsub ?_
    refine swp_ent hE ?_
    clear hsub hE env L
    refine swp_seq ?_
    refine swp_seq ?_
    refine swp_region ?_
    refine s_pu (pu_move rfl) ?_
    refine s_pu (pu_move rfl) ?_
    refine swl_sub _ (.cons (t := 2) rfl (.cons (t := 5) rfl (.cons (t := 6) rfl (.cons (t := 7) rfl (.cons (t := 34) rfl (.cons (t := 35) rfl .nil)))))) ?_
    refine swl_nil ?_
    refine then_n ?_
    refine swp_block ?_
    refine swp_loop (ι := Nat) (fun i env L => ∃ (tv : Value) (T' : List (Value × List En)) (μ2 : PH), Sub env [(2, .pointer (some ⟨b2, 0, none⟩)), (5, .pointer (some ⟨p, 0, none⟩)), (6, .int .i64 (n : Nat)), (7, .pointer (some ⟨b33, 0, none⟩)), (34, .int .i64 (n : Nat)), (35, .int .i64 (i : Nat))] ∧ Ent L [blk b33 42 [.pointer (some ⟨p, 0, none⟩), tv, .int .i64 w.S.ha, .int .i64 w.S.pe, .int .i64 w.S.mo, .int .u32 (w.S.seed.toNat : Nat), .slice (some ⟨b27, 0, none⟩) n n, vl, vm], own 33 1 tv i (T'.flatMap gT), own 72 2 (.slice (some ⟨b27, 0, none⟩) n n) n ((List.replicate n ()).flatMap fun _ => [.int .i64 0, .string ⟨#[]⟩]), own 4 1 vl n ((List.replicate n ()).flatMap fun _ => [.bool false]), own 4 1 vm n ((List.replicate n ()).flatMap fun _ => [.bool false]), blk b2 29 w.cells, blk p 45 [v', vn, va], own 3 1 va n (askV n noAsk), ro μ2] ∧ Le μ1 μ2 ∧ T'.length = i ∧ i ≤ n ∧ (∀ t ∈ T', Row μ2 t.1 2 t.2.length (ens t.2)) ∧ T'.map (·.2) = (List.range i).map (ofT w.T)) (fun i => n - i) 0 ⟨.slice none 0 0, [], μ1, ⟨rfl, rfl, rfl, rfl, rfl, rfl, trivial⟩, own_nil_ent.trans (Split.ent' (K := [blk b33 42 [.pointer (some ⟨p, 0, none⟩), .slice none 0 0, .int .i64 w.S.ha, .int .i64 w.S.pe, .int .i64 w.S.mo, .int .u32 (w.S.seed.toNat : Nat), .slice (some ⟨b27, 0, none⟩) n n, vl, vm], own 33 1 (.slice none 0 0) 0 [], own 72 2 (.slice (some ⟨b27, 0, none⟩) n n) n ((List.replicate n ()).flatMap fun _ => [.int .i64 0, .string ⟨#[]⟩]), own 4 1 vl n ((List.replicate n ()).flatMap fun _ => [.bool false]), own 4 1 vm n ((List.replicate n ()).flatMap fun _ => [.bool false]), blk b2 29 w.cells, blk p 45 [v', vn, va], own 3 1 va n (askV n noAsk), ro μ1]) (by repeat (first | exact Split.nil | (apply Split.cons; (repeat (first | with_reducible exact Take.here | apply Take.there)))))), Le.refl _, rfl, Nat.zero_le _, (fun t ht => by cases ht), rfl⟩ ?_
    rintro i env L ⟨tv, T', μ2, hsub, hE, h2, hl, hi, hTr, hTm⟩
    refine swp_sub _ hsub ?_
    refine swp_ent hE ?_
    clear hsub hE env L
    have hT2 := hT1.le h2
    refine swp_seq ?_
    refine swp_region ?_
    refine s_pu (pu_lss rfl rfl) ?_
    refine swl_sub _ (.cons (t := 2) rfl (.cons (t := 5) rfl (.cons (t := 6) rfl (.cons (t := 7) rfl (.cons (t := 34) rfl (.cons (t := 35) rfl (.cons (t := 36) rfl .nil))))))) ?_
    refine swl_nil ?_
    refine then_n ?_
    refine swp_seq ?_
    refine swp_cond (b := _) rfl (fun h36 => ?_) (fun h36 => ?_)
    · skip   -- 36 T
      have h36' : i < n := by have := of_decide_eq_true h36; omega
      refine swp_skip ?_
      refine then_n ?_
      refine swp_seq ?_
      refine swp_block ?_
      refine swp_seq ?_
      refine swp_region ?_
      refine s_pu (pu_move rfl) ?_
      refine s_pu (pu_assign rfl) ?_
      refine swl_sub _ (.cons (t := 2) rfl (.cons (t := 5) rfl (.cons (t := 6) rfl (.cons (t := 7) rfl (.cons (t := 8) rfl (.cons (t := 34) rfl (.cons (t := 35) rfl .nil))))))) ?_
      refine swl_nil ?_
      refine then_n ?_
      refine swp_seq ?_
      refine swp_region ?_
      refine s_pu (pu_assign rfl) ?_
      refine swl_sub _ (.cons (t := 2) rfl (.cons (t := 5) rfl (.cons (t := 6) rfl (.cons (t := 7) rfl (.cons (t := 8) rfl (.cons (t := 9) rfl (.cons (t := 34) rfl (.cons (t := 35) rfl .nil)))))))) ?_
      refine swl_nil ?_
      refine then_n ?_
      refine swp_cut (fun env L => ∃ (A : Option Addr) (c : Nat) (μ3 : PH), Sub env [(2, .pointer (some ⟨b2, 0, none⟩)), (5, .pointer (some ⟨p, 0, none⟩)), (6, .int .i64 (n : Nat)), (7, .pointer (some ⟨b33, 0, none⟩)), (34, .int .i64 (n : Nat)), (35, .int .i64 (i : Nat)), (9, .slice A (ofT w.T i).length c)] ∧ Ent L [blk b33 42 [.pointer (some ⟨p, 0, none⟩), tv, .int .i64 w.S.ha, .int .i64 w.S.pe, .int .i64 w.S.mo, .int .u32 (w.S.seed.toNat : Nat), .slice (some ⟨b27, 0, none⟩) n n, vl, vm], own 33 1 tv i (T'.flatMap gT), own 72 2 (.slice (some ⟨b27, 0, none⟩) n n) n ((List.replicate n ()).flatMap fun _ => [.int .i64 0, .string ⟨#[]⟩]), own 4 1 vl n ((List.replicate n ()).flatMap fun _ => [.bool false]), own 4 1 vm n ((List.replicate n ()).flatMap fun _ => [.bool false]), blk b2 29 w.cells, blk p 45 [v', vn, va], own 3 1 va n (askV n noAsk), ro μ3] ∧ Le μ2 μ3 ∧ Row μ3 (.slice A (ofT w.T i).length c) 2 (ofT w.T i).length (ens (ofT w.T i))) ?_ ?_
      · skip
        refine swp_seq ?_
        refine swp_region ?_
        first | refine s_pu (pu_fieldAddr0 rfl) ?_ | refine s_pu (pu_fieldAddr rfl) ?_
        refine s_rd (rd_load rfl rfl) ?_
        refine s_pu (pu_len_row hT2 rfl) ?_
        refine s_pu (pu_gtr rfl rfl) ?_
        refine swl_sub _ (.cons (t := 2) rfl (.cons (t := 5) rfl (.cons (t := 6) rfl (.cons (t := 7) rfl (.cons (t := 8) rfl (.cons (t := 9) rfl (.cons (t := 34) rfl (.cons (t := 35) rfl (.cons (t := 41) rfl .nil))))))))) ?_
        refine swl_nil ?_
        refine then_n ?_
        refine swp_cond (b := _) rfl (fun h41 => ?_) (fun h41 => ?_)
        · skip   -- 41 T
          have h41' : 0 < w.T.length := by have := of_decide_eq_true h41; omega
          have hmod : i % w.T.length < w.T.length := Nat.mod_lt _ h41'
          obtain ⟨tb, to, tc, htv, htc⟩ := trow hT2 hmod
          have htr := (h.hTr _ (List.getElem_mem hmod)).1.le (h1.trans h2)
          have hgs := good_spec μ2 (w.T[i % w.T.length]).1 (w.T[i % w.T.length]).2 htr
          have hoT : ofT w.T i = goodE (w.T[i % w.T.length]).2 := by unfold ofT; rw [if_neg (by omega), List.getElem?_eq_getElem hmod]; rfl
          rw [← hoT] at hgs
          refine swp_draw [1, 4, 8] _ [] (by simp only [List.append_nil]; exact Ent.refl _) (by kernel_rfl) ?_
          first | refine d_pu 0 rfl (pu_fieldAddr0 rfl) (by kernel_rfl) (by kernel_rfl) (by kernel_rfl) ?_ | refine d_pu 0 rfl (pu_fieldAddr rfl) (by kernel_rfl) (by kernel_rfl) (by kernel_rfl) ?_
          refine d_rd 1 rfl (rd_load rfl rfl) rfl (by kernel_rfl) (by kernel_rfl) (by kernel_rfl) ?_
          refine d_pu 2 rfl (pu_move rfl) (by kernel_rfl) (by kernel_rfl) (by kernel_rfl) ?_
          first | refine d_pu 3 rfl (pu_fieldAddr0 rfl) (by kernel_rfl) (by kernel_rfl) (by kernel_rfl) ?_ | refine d_pu 3 rfl (pu_fieldAddr rfl) (by kernel_rfl) (by kernel_rfl) (by kernel_rfl) ?_
          refine d_rd 4 rfl (rd_load rfl rfl) rfl (by kernel_rfl) (by kernel_rfl) (by kernel_rfl) ?_
          refine d_pu 5 rfl (pu_len_row hT2 rfl) (by kernel_rfl) (by kernel_rfl) (by kernel_rfl) ?_
          refine d_pu 6 rfl (pu_rem_as ((i % w.T.length : Nat) : Int) rfl rfl (by omega) (by omega) (by omega)) (by kernel_rfl) (by kernel_rfl) (by kernel_rfl) ?_
          refine d_pu 7 rfl (pu_indexAddr (to + (i % w.T.length) * 1) (congrArg some htv) rfl (by omega) (by omega) (by rw [Int.toNat_natCast])) (by kernel_rfl) (by kernel_rfl) (by kernel_rfl) ?_
          refine d_rd 8 rfl (rd_ro rfl htc) rfl (by kernel_rfl) (by kernel_rfl) (by kernel_rfl) ?_
          first | refine d_fint 9 rfl (by kernel_rfl) (by kernel_rfl) (ef_fn hgs rfl rfl (by repeat (first | exact Split.nil | (apply Split.cons; (repeat (first | with_reducible exact Take.here | apply Take.there)))))) ?_ | refine d_finf 9 rfl (by kernel_rfl) (by kernel_rfl) (ef_fn hgs rfl rfl (by repeat (first | exact Split.nil | (apply Split.cons; (repeat (first | with_reducible exact Take.here | apply Take.there)))))) ?_
          rintro v51 L1 ⟨μ3, h3, hr3, rfl⟩
          refine swd_app ?_
          obtain ⟨A3, c3, rfl⟩ := hr3.sl
          refine d_pu 10 rfl (pu_assign rfl) (by kernel_rfl) (by kernel_rfl) (by kernel_rfl) ?_
          refine d_sub _ (.cons (t := 2) rfl (.cons (t := 5) rfl (.cons (t := 6) rfl (.cons (t := 7) rfl (.cons (t := 9) rfl (.cons (t := 34) rfl (.cons (t := 35) rfl .nil))))))) ?_
          first | refine d_nilt (by kernel_rfl) ?_ | refine d_nilf (by kernel_rfl) ?_
          refine then_n ⟨A3, c3, μ3, ⟨rfl, rfl, rfl, rfl, rfl, rfl, rfl, trivial⟩, Split.ent' (by repeat (first | exact Split.nil | (apply Split.cons; (repeat (first | with_reducible exact Take.here | apply Take.there))))), h3, hr3⟩
        · skip   -- 41 F
          have h41' : w.T.length = 0 := by have := of_decide_eq_false h41; omega
          have hoT : ofT w.T i = [] := by unfold ofT; rw [if_pos h41']
          refine swp_skip ?_
          rw [hoT]
          exact then_n ⟨none, 0, μ2, ⟨rfl, rfl, rfl, rfl, rfl, rfl, rfl, trivial⟩, Split.ent' (by repeat (first | exact Split.nil | (apply Split.cons; (repeat (first | with_reducible exact Take.here | apply Take.there))))), Le.refl _, Row.nil _ _⟩
      rintro env L ⟨A3, c3, μ3, hsub, hE, h3, hr3⟩
      refine swp_sub _ hsub ?_
      refine swp_ent hE ?_
      clear hsub hE env L
      refine swp_region ?_
      refine s_pu (pu_move rfl) ?_
      refine s_pu (pu_move rfl) ?_
      first | refine s_pu (pu_nilCheck rfl) ?_ | refine s_pu (pu_nilCheck_fn rfl) ?_ | refine s_pu (pu_nilCheck_if rfl) ?_
      first | refine s_pu (pu_fieldAddr0 rfl) ?_ | refine s_pu (pu_fieldAddr rfl) ?_
      refine s_rd (rd_load rfl rfl) ?_
      refine s_pu (pu_move rfl) ?_
      refine s_ef (ef_bldS (qs := [(0, _)]) rfl rfl rfl) ?_
      intro b58
      refine s_ef (ef_append_lit (l := i) (m := 1) rfl rfl (by repeat (first | exact Split.nil | (apply Split.cons; (repeat (first | with_reducible exact Take.here | apply Take.there))))) (by simp only [maxLen]; omega) (by omega)) ?_
      rintro v59 hv59
      obtain ⟨g7, c7, rfl⟩ := hv59 (by decide)
      first | refine s_pu (pu_nilCheck rfl) ?_ | refine s_pu (pu_nilCheck_fn rfl) ?_ | refine s_pu (pu_nilCheck_if rfl) ?_
      first | refine s_pu (pu_fieldAddr0 rfl) ?_ | refine s_pu (pu_fieldAddr rfl) ?_
      refine s_ef0 (ef_store rfl rfl rfl) ?_
      refine swl_sub _ (.cons (t := 2) rfl (.cons (t := 5) rfl (.cons (t := 6) rfl (.cons (t := 7) rfl (.cons (t := 34) rfl (.cons (t := 35) rfl .nil)))))) ?_
      refine swl_nil ?_
      refine block_n ?_
      refine then_n ?_
      refine swp_region ?_
      refine s_pu (pu_add_as ((i + 1 : Nat) : Int) rfl rfl (by omega) (by omega) (by omega)) ?_
      refine s_pu (pu_move rfl) ?_
      refine swl_sub _ (.cons (t := 2) rfl (.cons (t := 5) rfl (.cons (t := 6) rfl (.cons (t := 7) rfl (.cons (t := 34) rfl (.cons (t := 35) rfl .nil)))))) ?_
      refine swl_nil ?_
      refine then_n ⟨i + 1, ⟨.slice (some ⟨g7, 0, none⟩) (i + 1) c7, T' ++ [(.slice A3 (ofT w.T i).length c3, ofT w.T i)], μ3, ⟨rfl, rfl, rfl, rfl, rfl, rfl, trivial⟩, ?_, h2.trans h3, by rw [List.length_append, hl]; rfl, h36', ?_, ?_⟩, by show n - (i + 1) < n - i; omega⟩
      · have e1 : (T' ++ [(Value.slice A3 (ofT w.T i).length c3, ofT w.T i)]).flatMap gT = T'.flatMap gT ++ [Value.slice A3 (ofT w.T i).length c3] := by rw [List.flatMap_append]; rfl
        rw [e1]
        exact Split.ent' (by repeat (first | exact Split.nil | (apply Split.cons; (repeat (first | with_reducible exact Take.here | apply Take.there)))))
      · intro t ht
        rcases List.mem_append.1 ht with ht | ht
        · exact (hTr t ht).le h3
        · rw [List.mem_singleton.1 ht]; exact hr3
      · rw [List.map_append, hTm, List.range_succ, List.map_append]; rfl
    · skip   -- 36 F
      obtain rfl : n = i := by have := of_decide_eq_false h36; omega
      rw [fil_zero]
      have hTall : ∀ t ∈ T', t.2.length ≤ 100 ∧ GoodT t.2 ∧ U32s t.2 := fun t ht => by
        have hm : t.2 ∈ T'.map (·.2) := List.mem_map_of_mem ht
        rw [hTm] at hm
        obtain ⟨c, _, hc⟩ := List.mem_map.1 hm
        rw [← hc]
        exact ofT_ok (fun t ht => (h.hTr t ht).2) c
      refine swp_share_own (e := 33) (n := 1) (v := tv) (μ := μ2) (by repeat (first | exact Split.nil | (apply Split.cons; (repeat (first | with_reducible exact Take.here | apply Take.there))))) fun μ3 h3 hrT => ?_
      rw [← hl] at hrT
      have hG3 := hG1.le (h2.trans h3)
      have hTr3 : ∀ t ∈ T', Row μ3 t.1 2 t.2.length (ens t.2) ∧ t.2.length ≤ 100 ∧ GoodT t.2 ∧ U32s t.2 := fun t ht => ⟨(hTr t ht).le h3, hTall t ht⟩
      refine swp_exit ?_
      refine then_x ?_
      refine then_x ?_
      refine block_hit rfl ?_
      refine then_n ?_
      refine swp_seq ?_
      refine swp_seq ?_
      refine swp_region ?_
      refine s_pu (pu_move rfl) ?_
      refine s_pu (pu_move rfl) ?_
      refine swl_sub _ (.cons (t := 2) rfl (.cons (t := 5) rfl (.cons (t := 7) rfl (.cons (t := 63) rfl (.cons (t := 64) rfl .nil))))) ?_
      refine swl_nil ?_
      refine then_n ?_
      refine swp_block ?_
      refine swp_loop (ι := Nat) (fun i env L => ∃ (F : List Fil) (μ4 : PH), Sub env [(2, .pointer (some ⟨b2, 0, none⟩)), (5, .pointer (some ⟨p, 0, none⟩)), (7, .pointer (some ⟨b33, 0, none⟩)), (63, .int .i64 (n : Nat)), (64, .int .i64 (i : Nat))] ∧ Ent L [blk b33 42 [.pointer (some ⟨p, 0, none⟩), tv, .int .i64 w.S.ha, .int .i64 w.S.pe, .int .i64 w.S.mo, .int .u32 (w.S.seed.toNat : Nat), .slice (some ⟨b27, 0, none⟩) n n, vl, vm], own 72 2 (.slice (some ⟨b27, 0, none⟩) n n) n (F.flatMap encF), own 4 1 vl n ((List.replicate n ()).flatMap fun _ => [.bool false]), own 4 1 vm n ((List.replicate n ()).flatMap fun _ => [.bool false]), blk b2 29 w.cells, blk p 45 [v', vn, va], own 3 1 va n (askV n noAsk), ro μ4] ∧ Le μ3 μ4 ∧ F.length = n ∧ i ≤ n ∧ (∀ f ∈ F, f.2.length ≤ 1048576)) (fun i => n - i) 0 ⟨List.replicate n ((0, []) : Fil), μ3, ⟨rfl, rfl, rfl, rfl, rfl, trivial⟩, Split.ent' (by repeat (first | exact Split.nil | (apply Split.cons; (repeat (first | with_reducible exact Take.here | apply Take.there))))), Le.refl _, List.length_replicate, Nat.zero_le _, (fun f hf => by rw [(List.mem_replicate.1 hf).2]; exact Nat.zero_le _)⟩ ?_
      rintro i env L ⟨F, μ4, hsub, hE, h4, hFl, hi, hFs2⟩
      refine swp_sub _ hsub ?_
      refine swp_ent hE ?_
      clear hsub hE env L
      have hF4 := hF1.le (h2.trans (h3.trans h4))
      refine swp_seq ?_
      refine swp_region ?_
      refine s_pu (pu_lss rfl rfl) ?_
      refine swl_sub _ (.cons (t := 2) rfl (.cons (t := 5) rfl (.cons (t := 7) rfl (.cons (t := 63) rfl (.cons (t := 64) rfl (.cons (t := 65) rfl .nil)))))) ?_
      refine swl_nil ?_
      refine then_n ?_
      refine swp_seq ?_
      refine swp_cond (b := _) rfl (fun h65 => ?_) (fun h65 => ?_)
      · skip   -- 65 T
        have h65' : i < n := by have := of_decide_eq_true h65; omega
        refine swp_skip ?_
        refine then_n ?_
        refine swp_seq ?_
        refine swp_block ?_
        refine swp_seq ?_
        refine swp_region ?_
        refine s_pu (pu_move rfl) ?_
        refine s_pu (pu_assign rfl) ?_
        refine swl_sub _ (.cons (t := 2) rfl (.cons (t := 5) rfl (.cons (t := 7) rfl (.cons (t := 10) rfl (.cons (t := 63) rfl (.cons (t := 64) rfl .nil)))))) ?_
        refine swl_nil ?_
        refine then_n ?_
        refine swp_seq ?_
        refine swp_draw [1, 6, 9, 13] _ [] (by simp only [List.append_nil]; exact Ent.refl _) (by kernel_rfl) ?_
        first | refine d_pu 0 rfl (pu_fieldAddr0 rfl) (by kernel_rfl) (by kernel_rfl) (by kernel_rfl) ?_ | refine d_pu 0 rfl (pu_fieldAddr rfl) (by kernel_rfl) (by kernel_rfl) (by kernel_rfl) ?_
        refine d_rd 1 rfl (rd_load rfl rfl) rfl (by kernel_rfl) (by kernel_rfl) (by kernel_rfl) ?_
        refine d_pu 2 rfl (pu_len_row hF4 rfl) (by kernel_rfl) (by kernel_rfl) (by kernel_rfl) ?_
        refine d_pu 3 rfl (pu_gtr rfl rfl) (by kernel_rfl) (by kernel_rfl) (by kernel_rfl) ?_
        refine d_pu 4 rfl (pu_move rfl) (by kernel_rfl) (by kernel_rfl) (by kernel_rfl) ?_
        refine d_split 71 rfl (fun h71 => ?_) (fun h71 => ?_)
        · skip   -- 71 T
          have h71' : 0 < w.F.length := by have := of_decide_eq_true h71; omega
          have hmod : i % w.F.length < w.F.length := Nat.mod_lt _ h71'
          obtain ⟨fb, fo, fc, hfv, _, _, hfr⟩ := hF4.pos h71'
          have hfc : CellAt μ4 fb (fo + i % w.F.length) (.bool (w.F[i % w.F.length])) := hfr _ _ (by rw [List.getElem?_map, List.getElem?_eq_getElem hmod]; rfl)
          first | refine d_pu_on 5 rfl rfl rfl (pu_fieldAddr0 rfl) (by kernel_rfl) (by kernel_rfl) (by kernel_rfl) ?_ | refine d_pu_on 5 rfl rfl rfl (pu_fieldAddr rfl) (by kernel_rfl) (by kernel_rfl) (by kernel_rfl) ?_
          refine d_rd_on 6 rfl rfl rfl (rd_load rfl rfl) rfl (by kernel_rfl) (by kernel_rfl) (by kernel_rfl) ?_
          refine d_pu_on 7 rfl rfl rfl (pu_move rfl) (by kernel_rfl) (by kernel_rfl) (by kernel_rfl) ?_
          first | refine d_pu_on 8 rfl rfl rfl (pu_fieldAddr0 rfl) (by kernel_rfl) (by kernel_rfl) (by kernel_rfl) ?_ | refine d_pu_on 8 rfl rfl rfl (pu_fieldAddr rfl) (by kernel_rfl) (by kernel_rfl) (by kernel_rfl) ?_
          refine d_rd_on 9 rfl rfl rfl (rd_load rfl rfl) rfl (by kernel_rfl) (by kernel_rfl) (by kernel_rfl) ?_
          refine d_pu_on 10 rfl rfl rfl (pu_len_row hF4 rfl) (by kernel_rfl) (by kernel_rfl) (by kernel_rfl) ?_
          refine d_pu_on 11 rfl rfl rfl (pu_rem_as ((i % w.F.length : Nat) : Int) rfl rfl (by omega) (by omega) (by omega)) (by kernel_rfl) (by kernel_rfl) (by kernel_rfl) ?_
          refine d_pu_on 12 rfl rfl rfl (pu_indexAddr (fo + i % w.F.length) (congrArg some hfv) rfl (by omega) (by omega) (by rw [Int.toNat_natCast, Nat.mul_one])) (by kernel_rfl) (by kernel_rfl) (by kernel_rfl) ?_
          refine d_rd_on 13 rfl rfl rfl (rd_ro rfl hfc) rfl (by kernel_rfl) (by kernel_rfl) (by kernel_rfl) ?_
          first | refine d_pu 14 rfl (pu_pick_t rfl rfl) (by kernel_rfl) (by kernel_rfl) (by kernel_rfl) ?_ | refine d_pu 14 rfl (pu_pick_f rfl rfl) (by kernel_rfl) (by kernel_rfl) (by kernel_rfl) ?_
          refine d_sub _ (.cons (t := 2) rfl (.cons (t := 5) rfl (.cons (t := 7) rfl (.cons (t := 10) rfl (.cons (t := 63) rfl (.cons (t := 64) rfl (.cons (t := 81) rfl .nil))))))) ?_
          first | refine d_nilt (by kernel_rfl) ?_ | refine d_nilf (by kernel_rfl) ?_
          refine then_n ?_
          refine swp_cond (b := _) rfl (fun h81 => ?_) (fun h81 => ?_)
          · skip   -- 81 T
            have hiT : i < T'.length := by omega
            obtain ⟨tb, to, tc, htv, htc⟩ := trow (hrT.le h4) hiT
            have hti := hTr3 _ (List.getElem_mem hiT)
            have hwas := was_spec μ4 v' tv G T' i (hG3.le h4) (hrT.le h4) (fun t ht => ⟨(hTr3 t ht).1.le h4, (hTr3 t ht).2⟩) (by omega) hgood (by omega)
            refine swp_draw [3, 6, 10, 14, 20, 23] _ [] (by simp only [List.append_nil]; exact Ent.refl _) (by kernel_rfl) ?_
            refine d_pu 0 rfl (pu_move rfl) (by kernel_rfl) (by kernel_rfl) (by kernel_rfl) ?_
            first | refine d_pu 1 rfl (pu_nilCheck rfl) (by kernel_rfl) (by kernel_rfl) (by kernel_rfl) ?_ | refine d_pu 1 rfl (pu_nilCheck_fn rfl) (by kernel_rfl) (by kernel_rfl) (by kernel_rfl) ?_ | refine d_pu 1 rfl (pu_nilCheck_if rfl) (by kernel_rfl) (by kernel_rfl) (by kernel_rfl) ?_
            first | refine d_pu 2 rfl (pu_fieldAddr0 rfl) (by kernel_rfl) (by kernel_rfl) (by kernel_rfl) ?_ | refine d_pu 2 rfl (pu_fieldAddr rfl) (by kernel_rfl) (by kernel_rfl) (by kernel_rfl) ?_
            refine d_rd 3 rfl (rd_load rfl rfl) rfl (by kernel_rfl) (by kernel_rfl) (by kernel_rfl) ?_
            refine d_pu 4 rfl (pu_move rfl) (by kernel_rfl) (by kernel_rfl) (by kernel_rfl) ?_
            first | refine d_pu 5 rfl (pu_fieldAddr0 rfl) (by kernel_rfl) (by kernel_rfl) (by kernel_rfl) ?_ | refine d_pu 5 rfl (pu_fieldAddr rfl) (by kernel_rfl) (by kernel_rfl) (by kernel_rfl) ?_
            first | refine d_rd 6 rfl (rd_loadW rfl rfl) rfl (by kernel_rfl) (by kernel_rfl) (by kernel_rfl) ?_ | refine d_rd 6 rfl (rd_loadX rfl rfl rfl) rfl (by kernel_rfl) (by kernel_rfl) (by kernel_rfl) ?_
            refine d_pu 7 rfl (pu_move rfl) (by kernel_rfl) (by kernel_rfl) (by kernel_rfl) ?_
            first | refine d_pu 8 rfl (pu_nilCheck rfl) (by kernel_rfl) (by kernel_rfl) (by kernel_rfl) ?_ | refine d_pu 8 rfl (pu_nilCheck_fn rfl) (by kernel_rfl) (by kernel_rfl) (by kernel_rfl) ?_ | refine d_pu 8 rfl (pu_nilCheck_if rfl) (by kernel_rfl) (by kernel_rfl) (by kernel_rfl) ?_
            first | refine d_pu 9 rfl (pu_fieldAddr0 rfl) (by kernel_rfl) (by kernel_rfl) (by kernel_rfl) ?_ | refine d_pu 9 rfl (pu_fieldAddr rfl) (by kernel_rfl) (by kernel_rfl) (by kernel_rfl) ?_
            refine d_rd 10 rfl (rd_load rfl rfl) rfl (by kernel_rfl) (by kernel_rfl) (by kernel_rfl) ?_
            refine d_pu 11 rfl (pu_move rfl) (by kernel_rfl) (by kernel_rfl) (by kernel_rfl) ?_
            first | refine d_pu 12 rfl (pu_nilCheck rfl) (by kernel_rfl) (by kernel_rfl) (by kernel_rfl) ?_ | refine d_pu 12 rfl (pu_nilCheck_fn rfl) (by kernel_rfl) (by kernel_rfl) (by kernel_rfl) ?_ | refine d_pu 12 rfl (pu_nilCheck_if rfl) (by kernel_rfl) (by kernel_rfl) (by kernel_rfl) ?_
            first | refine d_pu 13 rfl (pu_fieldAddr0 rfl) (by kernel_rfl) (by kernel_rfl) (by kernel_rfl) ?_ | refine d_pu 13 rfl (pu_fieldAddr rfl) (by kernel_rfl) (by kernel_rfl) (by kernel_rfl) ?_
            refine d_rd 14 rfl (rd_load rfl rfl) rfl (by kernel_rfl) (by kernel_rfl) (by kernel_rfl) ?_
            refine d_pu 15 rfl (pu_move rfl) (by kernel_rfl) (by kernel_rfl) (by kernel_rfl) ?_
            refine d_pu 17 rfl (pu_move rfl) (by kernel_rfl) (by kernel_rfl) (by kernel_rfl) ?_
            first | refine d_pu 18 rfl (pu_nilCheck rfl) (by kernel_rfl) (by kernel_rfl) (by kernel_rfl) ?_ | refine d_pu 18 rfl (pu_nilCheck_fn rfl) (by kernel_rfl) (by kernel_rfl) (by kernel_rfl) ?_ | refine d_pu 18 rfl (pu_nilCheck_if rfl) (by kernel_rfl) (by kernel_rfl) (by kernel_rfl) ?_
            first | refine d_pu 19 rfl (pu_fieldAddr0 rfl) (by kernel_rfl) (by kernel_rfl) (by kernel_rfl) ?_ | refine d_pu 19 rfl (pu_fieldAddr rfl) (by kernel_rfl) (by kernel_rfl) (by kernel_rfl) ?_
            refine d_rd 20 rfl (rd_load rfl rfl) rfl (by kernel_rfl) (by kernel_rfl) (by kernel_rfl) ?_
            refine d_pu 21 rfl (pu_move rfl) (by kernel_rfl) (by kernel_rfl) (by kernel_rfl) ?_
            refine d_pu 22 rfl (pu_indexAddr (to + i * 1) (congrArg some htv) rfl (by omega) (by omega) (by rw [Int.toNat_natCast])) (by kernel_rfl) (by kernel_rfl) (by kernel_rfl) ?_
            refine d_rd 23 rfl (rd_ro rfl htc) rfl (by kernel_rfl) (by kernel_rfl) (by kernel_rfl) ?_
            refine d_eft 16 rfl (by kernel_rfl) (ef_fn hwas rfl rfl (by repeat (first | exact Split.nil | (apply Split.cons; (repeat (first | with_reducible exact Take.here | apply Take.there)))))) ?_
            rintro v99 L1 ⟨t, ht1, ht2, ht3, rfl⟩
            refine ⟨_, ent_appC (Split.ent (by repeat (first | exact Split.nil | (apply Split.cons; (repeat (first | with_reducible exact Take.here | apply Take.there)))))), ?_⟩
            refine d_eft 24 rfl (by kernel_rfl) (ef_fn (sof2_spec μ4 w.S v99 _ t _ ht1 (hti.1.le h4) ⟨ht2, hti.2.1⟩ ht3 hti.2.2.1) rfl rfl (by repeat (first | exact Split.nil | (apply Split.cons; (repeat (first | with_reducible exact Take.here | apply Take.there)))))) ?_
            rintro v107 L1 ⟨f, e, rfl, hfl, rfl⟩
            refine ⟨_, ent_appC (Split.ent (by repeat (first | exact Split.nil | (apply Split.cons; (repeat (first | with_reducible exact Take.here | apply Take.there)))))), ?_⟩
            refine d_pu 25 rfl (pu_move rfl) (by kernel_rfl) (by kernel_rfl) (by kernel_rfl) ?_
            first | refine d_pu 26 rfl (pu_extractL rfl) (by kernel_rfl) (by kernel_rfl) (by kernel_rfl) ?_ | refine d_pu 26 rfl (pu_extract rfl rfl) (by kernel_rfl) (by kernel_rfl) (by kernel_rfl) ?_
            first | refine d_pu 27 rfl (pu_extractL rfl) (by kernel_rfl) (by kernel_rfl) (by kernel_rfl) ?_ | refine d_pu 27 rfl (pu_extract rfl rfl) (by kernel_rfl) (by kernel_rfl) (by kernel_rfl) ?_
            refine d_pu 28 rfl (pu_indexAddr (0 + i * 2) rfl rfl (by omega) (by omega) (by rw [Int.toNat_natCast])) (by kernel_rfl) (by kernel_rfl) (by kernel_rfl) ?_
            first | refine d_fin0t 29 rfl (by kernel_rfl) (by kernel_rfl) (ef_store_ownA rfl rfl (by repeat (first | exact Split.nil | (apply Split.cons; (repeat (first | with_reducible exact Take.here | apply Take.there))))) (by show 0 + i * 2 + 2 ≤ _; rw [flat_length (f := encF) (k := 2) (fun _ => rfl)]; omega) rfl rfl) ?_ | refine d_fin0f 29 rfl (by kernel_rfl) (by kernel_rfl) (ef_store_ownA rfl rfl (by repeat (first | exact Split.nil | (apply Split.cons; (repeat (first | with_reducible exact Take.here | apply Take.there))))) (by show 0 + i * 2 + 2 ≤ _; rw [flat_length (f := encF) (k := 2) (fun _ => rfl)]; omega) rfl rfl) ?_
            refine d_sub _ (.cons (t := 2) rfl (.cons (t := 5) rfl (.cons (t := 7) rfl (.cons (t := 63) rfl (.cons (t := 64) rfl .nil))))) ?_
            first | refine d_nilt (by kernel_rfl) ?_ | refine d_nilf (by kernel_rfl) ?_
            refine block_n ?_
            refine then_n ?_
            refine swp_region ?_
            refine s_pu (pu_add_as ((i + 1 : Nat) : Int) rfl rfl (by omega) (by omega) (by omega)) ?_
            refine s_pu (pu_move rfl) ?_
            refine swl_sub _ (.cons (t := 2) rfl (.cons (t := 5) rfl (.cons (t := 7) rfl (.cons (t := 63) rfl (.cons (t := 64) rfl .nil))))) ?_
            refine swl_nil ?_
            refine then_n ⟨i + 1, ⟨F.set i f, μ4, ⟨rfl, rfl, rfl, rfl, rfl, trivial⟩, ?_, h4, by rw [List.length_set, hFl], h65', ?_⟩, by show n - (i + 1) < n - i; omega⟩
            · rw [Nat.zero_add, flat_over2 (f := encF) (n := 2) (fun _ => rfl) (by omega)]
              exact Split.ent' (by repeat (first | exact Split.nil | (apply Split.cons; (repeat (first | with_reducible exact Take.here | apply Take.there)))))
            · intro g hg
              rcases List.mem_or_eq_of_mem_set hg with hg | rfl
              · exact hFs2 g hg
              · exact hfl
          · skip   -- 81 F
            refine swp_skip ?_
            refine block_n ?_
            refine then_n ?_
            refine swp_region ?_
            refine s_pu (pu_add_as ((i + 1 : Nat) : Int) rfl rfl (by omega) (by omega) (by omega)) ?_
            refine s_pu (pu_move rfl) ?_
            refine swl_sub _ (.cons (t := 2) rfl (.cons (t := 5) rfl (.cons (t := 7) rfl (.cons (t := 63) rfl (.cons (t := 64) rfl .nil))))) ?_
            refine swl_nil ?_
            exact then_n ⟨i + 1, ⟨F, μ4, ⟨rfl, rfl, rfl, rfl, rfl, trivial⟩, Split.ent' (by repeat (first | exact Split.nil | (apply Split.cons; (repeat (first | with_reducible exact Take.here | apply Take.there))))), h4, hFl, h65', hFs2⟩, by show n - (i + 1) < n - i; omega⟩
        · skip   -- 71 F
          refine d_off 5 rfl rfl rfl rfl (by kernel_rfl) (by kernel_rfl) (by kernel_rfl) ?_
          refine d_off 6 rfl rfl rfl rfl (by kernel_rfl) (by kernel_rfl) (by kernel_rfl) ?_
          refine d_off 7 rfl rfl rfl rfl (by kernel_rfl) (by kernel_rfl) (by kernel_rfl) ?_
          refine d_off 8 rfl rfl rfl rfl (by kernel_rfl) (by kernel_rfl) (by kernel_rfl) ?_
          refine d_off 9 rfl rfl rfl rfl (by kernel_rfl) (by kernel_rfl) (by kernel_rfl) ?_
          refine d_off 10 rfl rfl rfl rfl (by kernel_rfl) (by kernel_rfl) (by kernel_rfl) ?_
          refine d_off 11 rfl rfl rfl rfl (by kernel_rfl) (by kernel_rfl) (by kernel_rfl) ?_
          refine d_off 12 rfl rfl rfl rfl (by kernel_rfl) (by kernel_rfl) (by kernel_rfl) ?_
          refine d_off 13 rfl rfl rfl rfl (by kernel_rfl) (by kernel_rfl) (by kernel_rfl) ?_
          first | refine d_pu 14 rfl (pu_pick_t rfl rfl) (by kernel_rfl) (by kernel_rfl) (by kernel_rfl) ?_ | refine d_pu 14 rfl (pu_pick_f rfl rfl) (by kernel_rfl) (by kernel_rfl) (by kernel_rfl) ?_
          refine d_sub _ (.cons (t := 2) rfl (.cons (t := 5) rfl (.cons (t := 7) rfl (.cons (t := 10) rfl (.cons (t := 63) rfl (.cons (t := 64) rfl (.cons (t := 81) rfl .nil))))))) ?_
          first | refine d_nilt (by kernel_rfl) ?_ | refine d_nilf (by kernel_rfl) ?_
          refine then_n ?_
          refine swp_cond (b := _) rfl (fun h81 => by cases h81) (fun h81 => ?_)
          refine swp_skip ?_
          refine block_n ?_
          refine then_n ?_
          refine swp_region ?_
          refine s_pu (pu_add_as ((i + 1 : Nat) : Int) rfl rfl (by omega) (by omega) (by omega)) ?_
          refine s_pu (pu_move rfl) ?_
          refine swl_sub _ (.cons (t := 2) rfl (.cons (t := 5) rfl (.cons (t := 7) rfl (.cons (t := 63) rfl (.cons (t := 64) rfl .nil))))) ?_
          refine swl_nil ?_
          exact then_n ⟨i + 1, ⟨F, μ4, ⟨rfl, rfl, rfl, rfl, rfl, trivial⟩, Split.ent' (by repeat (first | exact Split.nil | (apply Split.cons; (repeat (first | with_reducible exact Take.here | apply Take.there))))), h4, hFl, h65', hFs2⟩, by show n - (i + 1) < n - i; omega⟩
      · skip   -- 65 F
        rw [bcn_zero]
        refine swp_share_own (e := 72) (n := 2) (v := .slice (some ⟨b27, 0, none⟩) n n) (μ := μ4) (by repeat (first | exact Split.nil | (apply Split.cons; (repeat (first | with_reducible exact Take.here | apply Take.there))))) fun μ5 h5 hrF => ?_
        refine swp_exit ?_
        refine then_x ?_
        refine then_x ?_
        refine block_hit rfl ?_
        refine then_n ?_
        refine swp_seq ?_
        refine swp_region ?_
        refine s_pu (pu_move rfl) ?_
        refine s_pu (pu_assign rfl) ?_
        refine swl_sub _ (.cons (t := 4) rfl .nil) ?_
        refine swl_nil ?_
        refine then_n ?_
        refine swp_ret ?_
        refine done_retE [HW.A ⟨b33, p, v', vn, tv, .slice (some ⟨b27, 0, none⟩) n n, w.S, G, T', F⟩ st00, ro μ5] (.tmp rfl .nil) ⟨μ5, h1.trans (h2.trans (h3.trans (h4.trans h5))), .inr ⟨⟨b33, p, v', vn, tv, .slice (some ⟨b27, 0, none⟩) n n, w.S, G, T', F⟩, rfl, ⟨hG3.le (h4.trans h5), hgood, hGS.hn, hGS.hr, hrT.le (h4.trans h5), fun t ht => ⟨(hTr3 t ht).1.le (h4.trans h5), (hTr3 t ht).2⟩, by show T'.length = G.length; omega, ?_, by show F.length = G.length; omega, hFs2⟩, rfl, hGn, ?_, rfl⟩⟩ ?_
        · show Row μ5 _ 2 F.length _
          rw [hFl]; exact hrF
        · show T'.map (·.2) = (List.range G.length).map (ofT w.T)
          rw [hTm, hn]
        · refine (Split.ent' (K := [blk p 45 [v', vn, va], own 3 1 va n (askV n noAsk), blk b33 42 [.pointer (some ⟨p, 0, none⟩), tv, .int .i64 w.S.ha, .int .i64 w.S.pe, .int .i64 w.S.mo, .int .u32 (w.S.seed.toNat : Nat), .slice (some ⟨b27, 0, none⟩) n n, vl, vm], own 4 1 vl n (bcn n fun _ => false), own 4 1 vm n (bcn n fun _ => false), ro μ5]) (by repeat (first | exact Split.nil | (apply Split.cons; (repeat (first | with_reducible exact Take.here | apply Take.there)))))).trans (gA_close.trans ?_)
          refine (Split.ent' (K := [blk b33 42 [.pointer (some ⟨p, 0, none⟩), tv, .int .i64 w.S.ha, .int .i64 w.S.pe, .int .i64 w.S.mo, .int .u32 (w.S.seed.toNat : Nat), .slice (some ⟨b27, 0, none⟩) n n, vl, vm], gA p v' vn n noAsk, own 4 1 vl n (bcn n fun _ => false), own 4 1 vm n (bcn n fun _ => false), ro μ5]) (by repeat (first | exact Split.nil | (apply Split.cons; (repeat (first | with_reducible exact Take.here | apply Take.there)))))).trans ?_
          subst hn
          exact HW.close (W := ⟨b33, p, v', vn, tv, .slice (some ⟨b27, 0, none⟩) G.length G.length, w.S, G, T', F⟩) (s := st00)
end SX
namespace SX
open Go Go.Proofs
/-- the virtual ancestor, of graph and trees alone -/
def virtG (g : List (List Int)) (ts : List (List En)) (a b limit : Int) : List En × Bool × Int × Int :=
  if askedV g.length a b ≠ 0 then ([], false, 0, askedV g.length a b) else
  match vall (fun x y => sidesA g x [y]) (fun c => (ts[c.toNat]?).getD []) VM [] (min (max limit 0) 4096).toNat [a] b with
  | (none, _) => ([], false, 0, 12)
  | (some (t, ok), left) => (t, ok, (((min (max limit 0) 4096).toNat - left : Nat) : Int), 0)
theorem vt_map (W : HW) : VT W = fun c => ((W.T.map (·.2))[c.toNat]?).getD [] := by
  funext c
  unfold VT treeOf
  rw [List.getElem?_map]
  cases W.T[c.toNat]? <;> rfl
theorem virt_of {W : HW} {g : List (List Int)} {ts : List (List En)} (hg : nums W.G = g) (ht : W.T.map (·.2) = ts) (a b limit : Int) : virtV W a b limit = virtG g ts a b limit := by
  subst hg ht
  unfold virtV virtG VS
  rw [vt_map, List.length_map]
  rfl
abbrev xG : List (List Int) := [[], [0], [0], [1, 2], [2, 1]]
abbrev xp1 : List En := [(⟨#[112]⟩, 1)]
abbrev xp2 : List En := [(⟨#[112]⟩, 2)]
abbrev xpq : List En := [(⟨#[112]⟩, 1), (⟨#[113]⟩, 3)]
abbrev xT : List (List En) := [xp1, xp2, xpq, xp1, xp2]
theorem x_good : chkFrom 0 xG = 0 ∧ goodE xp1 = xp1 ∧ goodE xp2 = xp2 ∧ goodE xpq = xpq := by decide +kernel
theorem uni_lit {xs ys : List ByteArray} (hp : ys.Pairwise fun a b => strLt a b = true) (h1 : xs.all (fun q => ys.any fun p => decide (q = p)) = true) (h2 : ys.all (fun q => xs.any fun p => decide (q = p)) = true) : uniS xs = ys := rise_ext (uniS_rises _) hp fun q => by
  have key : ∀ {us ws : List ByteArray}, us.all (fun q => ws.any fun p => decide (q = p)) = true → q ∈ us → q ∈ ws := fun {us ws} h hq => by
    obtain ⟨p, hp, he⟩ := List.any_eq_true.1 (List.all_eq_true.1 h q hq)
    rw [of_decide_eq_true he]; exact hp
  rw [uniS_mem]
  exact ⟨key h1, key h2⟩
theorem rises_one (p : ByteArray) (b : Int) : Rises [(p, b)] := List.pairwise_singleton _ _
theorem x_vm : VM xp1 xp2 xpq = [(⟨#[112]⟩, 2), (⟨#[113]⟩, 3)] := by
  have e : pathsE xp1 xp2 xpq = [⟨#[112]⟩, ⟨#[113]⟩] := uni_lit (by decide +kernel) (by decide +kernel) (by decide +kernel)
  unfold VM
  rw [rowsB_L (rises_one _ _) (rises_one _ _) (show Rises xpq from by unfold Rises; decide +kernel), e]
  decide +kernel
theorem x_vall : vall (fun x y => sidesA xG x [y]) (fun c => (xT[c.toNat]?).getD []) VM [] 9 [3] 4 = (some (VM xp1 xp2 xpq, true), 7) := by
  kernel_rfl
theorem x_vall1 : (vall (fun x y => sidesA xG x [y]) (fun c => (xT[c.toNat]?).getD []) VM [] 1 [3] 4).1 = none := by
  kernel_rfl
theorem x_virt : virtG xG xT 3 4 9 = ([(⟨#[112]⟩, 2), (⟨#[113]⟩, 3)], true, 2, 0) := by
  unfold virtG
  rw [if_neg (by decide), show (min (max (9 : Int) 0) 4096).toNat = 9 from rfl, x_vall, x_vm]
  rfl
theorem x_virt1 : virtG xG xT 3 4 1 = ([], false, 0, 12) := by
  unfold virtG
  have h := x_vall1
  rw [if_neg (by decide), show (min (max (1 : Int) 0) 4096).toNat = 1 from rfl]
  generalize vall (fun x y => sidesA xG x [y]) (fun c => (xT[c.toNat]?).getD []) VM [] 1 [3] 4 = q at h
  obtain ⟨q1, q2⟩ := q
  dsimp only at h
  subst h; rfl
end SX
namespace SX
open Go Go.Proofs
set_option maxHeartbeats 4000000 in
theorem crossed_spec (μ : PH) : Spec Tryd.prog 18 [] [ro μ] (fun r L => ∃ (W : HW) (μ' : PH), Le μ μ' ∧ r = .pointer (some ⟨W.p, 0, none⟩) ∧ W.Ok μ' ∧ nums W.G = xG ∧ W.T.map (·.2) = xT ∧ W.n = 5 ∧ L = [W.A st00, ro μ']) := by
  refine Spec.of 24 Tryd.func18 rfl rfl rfl ?_
  refine swp_seq ?_
  refine swp_region ?_
  refine s_pu (pu_assign rfl) ?_
  refine swl_sub _ .nil ?_
  refine swl_nil ?_
  refine then_n ?_
  refine swp_seq ?_
  refine swp_region ?_
  refine s_pu (pu_bld (qs := [(0, _), (1, _)]) rfl) ?_
  refine s_ef (ef_bldS (qs := [(0, _)]) rfl rfl rfl) ?_
  intro b5
  refine s_pu (pu_bld (qs := [(0, _), (1, _)]) rfl) ?_
  refine s_ef (ef_bldS (qs := [(0, _)]) rfl rfl rfl) ?_
  intro b7
  refine s_pu (pu_bld (qs := [(0, _), (1, _)]) rfl) ?_
  refine s_pu (pu_bld (qs := [(0, _), (1, _)]) rfl) ?_
  refine s_ef (ef_bldS (qs := [(0, _), (1, _)]) rfl rfl rfl) ?_
  intro b10
  refine s_pu (pu_assign rfl) ?_
  refine s_pu (pu_assign rfl) ?_
  refine s_pu (pu_assign rfl) ?_
  refine swl_sub _ (.cons (t := 1) rfl (.cons (t := 2) rfl (.cons (t := 3) rfl .nil))) ?_
  refine swl_nil ?_
  refine then_n ?_
  refine swp_seq ?_
  refine swp_region ?_
  refine s_ef (ef_bldS (qs := [(0, _)]) rfl rfl rfl) ?_
  intro b11
  refine s_ef (ef_bldS (qs := [(0, _)]) rfl rfl rfl) ?_
  intro b12
  refine s_ef (ef_bldS (qs := [(0, _), (1, _)]) rfl rfl rfl) ?_
  intro b13
  refine s_ef (ef_bldS (qs := [(0, _), (1, _)]) rfl rfl rfl) ?_
  intro b14
  refine s_ef (ef_bldS (qs := [(0, _), (1, _), (2, _), (3, _), (4, _)]) rfl rfl rfl) ?_
  intro b15
  refine s_pu (pu_move rfl) ?_
  refine s_pu (pu_move rfl) ?_
  refine s_pu (pu_move rfl) ?_
  refine s_pu (pu_move rfl) ?_
  refine s_pu (pu_move rfl) ?_
  refine s_ef (ef_bldS (qs := [(0, _), (1, _), (2, _), (3, _), (4, _)]) rfl rfl rfl) ?_
  intro b21
  refine s_pu (pu_bld (qs := [(0, _), (1, _)]) rfl) ?_
  refine swl_share (b := b5) (μ := μ) (by repeat (first | exact Split.nil | (apply Split.cons; (repeat (first | with_reducible exact Take.here | apply Take.there))))) fun μ1 h1 k5 => ?_
  refine swl_share (b := b7) (μ := μ1) (by repeat (first | exact Split.nil | (apply Split.cons; (repeat (first | with_reducible exact Take.here | apply Take.there))))) fun μ2 h2 k7 => ?_
  refine swl_share (b := b10) (μ := μ2) (by repeat (first | exact Split.nil | (apply Split.cons; (repeat (first | with_reducible exact Take.here | apply Take.there))))) fun μ3 h3 k10 => ?_
  refine swl_share (b := b11) (μ := μ3) (by repeat (first | exact Split.nil | (apply Split.cons; (repeat (first | with_reducible exact Take.here | apply Take.there))))) fun μ4 h4 k11 => ?_
  refine swl_share (b := b12) (μ := μ4) (by repeat (first | exact Split.nil | (apply Split.cons; (repeat (first | with_reducible exact Take.here | apply Take.there))))) fun μ5 h5 k12 => ?_
  refine swl_share (b := b13) (μ := μ5) (by repeat (first | exact Split.nil | (apply Split.cons; (repeat (first | with_reducible exact Take.here | apply Take.there))))) fun μ6 h6 k13 => ?_
  refine swl_share (b := b14) (μ := μ6) (by repeat (first | exact Split.nil | (apply Split.cons; (repeat (first | with_reducible exact Take.here | apply Take.there))))) fun μ7 h7 k14 => ?_
  refine swl_share (b := b15) (μ := μ7) (by repeat (first | exact Split.nil | (apply Split.cons; (repeat (first | with_reducible exact Take.here | apply Take.there))))) fun μ8 h8 k15 => ?_
  refine swl_share (b := b21) (μ := μ8) (by repeat (first | exact Split.nil | (apply Split.cons; (repeat (first | with_reducible exact Take.here | apply Take.there))))) fun μ9 h9 k21 => ?_
  have l8 := h9
  have l7 := h8.trans l8
  have l6 := h7.trans l7
  have l5 := h6.trans l6
  have l4 := h5.trans l5
  have l3 := h4.trans l4
  have l2 := h3.trans l3
  have l1 := h2.trans l2
  have l0 := h1.trans l1
  have p1 : Row μ9 (.slice (some ⟨b5, 0, none⟩) 1 1) 2 xp1.length (ens xp1) := (row_of_blk k5 rfl (by decide)).le l1
  have p2 : Row μ9 (.slice (some ⟨b7, 0, none⟩) 1 1) 2 xp2.length (ens xp2) := (row_of_blk k7 rfl (by decide)).le l2
  have pq : Row μ9 (.slice (some ⟨b10, 0, none⟩) 2 2) 2 xpq.length (ens xpq) := (row_of_blk k10 rfl (by decide)).le l3
  have r1 : Row μ9 (.slice (some ⟨b11, 0, none⟩) 1 1) 1 1 ([0].flatMap (icsk .i64)) := (row_of_blk (n := 1) (l := 1) (cs := [0].flatMap (icsk .i64)) k11 (by rfl) (by decide)).le l4
  have r2 : Row μ9 (.slice (some ⟨b12, 0, none⟩) 1 1) 1 1 ([0].flatMap (icsk .i64)) := (row_of_blk (n := 1) (l := 1) (cs := [0].flatMap (icsk .i64)) k12 (by rfl) (by decide)).le l5
  have r3 : Row μ9 (.slice (some ⟨b13, 0, none⟩) 2 2) 1 2 ([1, 2].flatMap (icsk .i64)) := (row_of_blk (n := 1) (l := 2) (cs := [1, 2].flatMap (icsk .i64)) k13 (by rfl) (by decide)).le l6
  have r4 : Row μ9 (.slice (some ⟨b14, 0, none⟩) 2 2) 1 2 ([2, 1].flatMap (icsk .i64)) := (row_of_blk (n := 1) (l := 2) (cs := [2, 1].flatMap (icsk .i64)) k14 (by rfl) (by decide)).le l7
  have hG : Graph μ9 (.slice (some ⟨b15, 0, none⟩) 5 5) [(.slice none 0 0, []), (.slice (some ⟨b11, 0, none⟩) 1 1, [0]), (.slice (some ⟨b12, 0, none⟩) 1 1, [0]), (.slice (some ⟨b13, 0, none⟩) 2 2, [1, 2]), (.slice (some ⟨b14, 0, none⟩) 2 2, [2, 1])] := by
    refine ⟨(row_of_blk k15 (by rfl) (by decide)).le l8, fun x hx => ?_⟩
    rcases List.mem_cons.1 hx with rfl | hx
    · exact Row.nil _ _
    rcases List.mem_cons.1 hx with rfl | hx
    · exact r1
    rcases List.mem_cons.1 hx with rfl | hx
    · exact r2
    rcases List.mem_cons.1 hx with rfl | hx
    · exact r3
    obtain rfl := List.mem_singleton.1 hx
    exact r4
  have u1 : U32s xp1 := fun e he => by rw [List.mem_singleton.1 he]; unfold U32; dsimp only; omega
  have u2 : U32s xp2 := fun e he => by rw [List.mem_singleton.1 he]; unfold U32; dsimp only; omega
  have uq : U32s xpq := fun e he => by
    rcases List.mem_cons.1 he with rfl | he
    · unfold U32; dsimp only; omega
    · rw [List.mem_singleton.1 he]; unfold U32; dsimp only; omega
  obtain ⟨w, hw, hwn, hwt, hwG, hwc⟩ : ∃ w : Wld, w.Ok μ9 ∧ nums w.G = xG ∧ (List.range 5).map (ofT w.T) = xT ∧ w.G.length = 5 ∧ w.cells = [.slice (some ⟨b15, 0, none⟩) 5 5, .slice (some ⟨b21, 0, none⟩) 5 5, .int .i64 0, .int .i64 0, .int .i64 0, .int .u32 0, .slice none 0 0] := by
    refine ⟨⟨.slice (some ⟨b15, 0, none⟩) 5 5, .slice (some ⟨b21, 0, none⟩) 5 5, .slice none 0 0, ⟨0, 0, 0, 0#32⟩, _, [(.slice (some ⟨b5, 0, none⟩) 1 1, xp1), (.slice (some ⟨b7, 0, none⟩) 1 1, xp2), (.slice (some ⟨b10, 0, none⟩) 2 2, xpq), (.slice (some ⟨b5, 0, none⟩) 1 1, xp1), (.slice (some ⟨b7, 0, none⟩) 1 1, xp2)], []⟩, ⟨hG, row_of_blk k21 (by rfl) (by decide), fun t ht => ?_, Row.nil _ _⟩, rfl, ?_, rfl, rfl⟩
    · rcases List.mem_cons.1 ht with rfl | ht
      · exact ⟨p1, u1⟩
      rcases List.mem_cons.1 ht with rfl | ht
      · exact ⟨p2, u2⟩
      rcases List.mem_cons.1 ht with rfl | ht
      · exact ⟨pq, uq⟩
      rcases List.mem_cons.1 ht with rfl | ht
      · exact ⟨p1, u1⟩
      obtain rfl := List.mem_singleton.1 ht
      exact ⟨p2, u2⟩
    · show [goodE xp1, goodE xp2, goodE xpq, goodE xp1, goodE xp2] = xT
      rw [x_good.2.1, x_good.2.2.1, x_good.2.2.2]
  refine s_ef (ef_fn (of_spec w μ9 hw 9 (by decide)) rfl (by rw [hwc]; rfl) (by repeat (first | exact Split.nil | (apply Split.cons; (repeat (first | with_reducible exact Take.here | apply Take.there)))))) ?_
  rintro v23 L1 ⟨μa, ha, hp⟩
  obtain ⟨W, rfl, hWok, hWG, hWn, hWT, rfl⟩ : ∃ W : HW, v23 = .pointer (some ⟨W.p, 0, none⟩) ∧ W.Ok μa ∧ W.G = w.G.take (min w.G.length 9) ∧ W.n = min w.G.length 9 ∧ W.T.map (·.2) = (List.range W.n).map (ofT w.T) ∧ L1 = [W.A st00, ro μa] := by
    rcases hp with ⟨h, _⟩ | h
    · rw [show min w.G.length 9 = w.G.length by omega, List.take_length, hwn] at h; exact absurd x_good.1 h
    · exact h
  have hWn5 : W.n = 5 := by rw [hWn, hwG]; rfl
  have hWx : nums W.G = xG := by rw [hWG, show min w.G.length 9 = w.G.length by omega, List.take_length, hwn]
  rw [hWn5, hwt] at hWT
  refine swl_app ?_
  refine s_pu (pu_assign rfl) ?_
  refine swl_sub _ (.cons (t := 0) rfl .nil) ?_
  refine swl_nil ?_
  refine then_n ?_
  refine swp_ret ?_
  exact done_ret [W.A st00, ro μa] (.tmp rfl .nil) ⟨W, μa, l0.trans ha, rfl, hWok, hWx, hWT, hWn5, rfl⟩ (by repeat (first | exact Split.nil | (apply Split.cons; (repeat (first | with_reducible exact Take.here | apply Take.there)))))
end SX
namespace SX
open Go Go.Proofs
theorem askB0 : AskB 0 st00 := fun _ => Nat.le_refl _
set_option maxHeartbeats 4000000 in
theorem crosses_spec (μ : PH) (hT : RowAt μ 1 0 tabV) : Spec Tryd.prog 8 [] [ro μ] (fun r L => r = .bool true ∧ ∃ μ', Le μ μ' ∧ L = [ro μ']) := by
  refine Spec.of 45 Tryd.func8 rfl rfl rfl ?_
  refine swp_seq ?_
  refine swp_region ?_
  refine s_pu (pu_assign rfl) ?_
  refine swl_sub _ .nil ?_
  refine swl_nil ?_
  refine then_n ?_
  refine swp_seq ?_
  refine swp_region ?_
  refine s_ef (ef_fn (crossed_spec μ) rfl rfl (by repeat (first | exact Split.nil | (apply Split.cons; (repeat (first | with_reducible exact Take.here | apply Take.there)))))) ?_
  rintro v10 L1 ⟨W, μ1, h1, rfl, hW, hg, ht, hn, rfl⟩
  refine swl_app ?_
  refine s_pu (pu_iface rfl) ?_
  refine s_ef (ef_fn (virtual_spec W μ1 hW (by omega) μ1 (Le.refl _) (hT.le h1) st00 0 askB0 (by omega) 3 4 9) rfl rfl (by repeat (first | exact Split.nil | (apply Split.cons; (repeat (first | with_reducible exact Take.here | apply Take.there)))))) ?_
  rintro v12 L1 ⟨tv, s2, μ2, h2, _, _, rfl, rfl⟩
  rw [virt_of hg ht, x_virt]
  refine swl_app ?_
  refine swl_share_own (v := tv) (μ := μ2) (by repeat (first | exact Split.nil | (apply Split.cons; (repeat (first | with_reducible exact Take.here | apply Take.there))))) fun μ3 h3 rt => ?_
  refine s_pu (pu_move rfl) ?_
  first | refine s_pu (pu_extractL rfl) ?_ | refine s_pu (pu_extract rfl rfl) ?_
  first | refine s_pu (pu_extractL rfl) ?_ | refine s_pu (pu_extract rfl rfl) ?_
  first | refine s_pu (pu_extractL rfl) ?_ | refine s_pu (pu_extract rfl rfl) ?_
  first | refine s_pu (pu_extractL rfl) ?_ | refine s_pu (pu_extract rfl rfl) ?_
  refine s_pu (pu_assign rfl) ?_
  refine s_pu (pu_assign rfl) ?_
  refine s_pu (pu_assign rfl) ?_
  refine s_pu (pu_assign rfl) ?_
  refine swl_sub _ (.cons (t := 1) rfl (.cons (t := 2) rfl (.cons (t := 3) rfl (.cons (t := 4) rfl .nil)))) ?_
  refine swl_nil ?_
  refine then_n ?_
  refine swp_seq ?_
  refine swp_region ?_
  refine s_ef (ef_fn (crossed_spec μ3) rfl rfl (by repeat (first | exact Split.nil | (apply Split.cons; (repeat (first | with_reducible exact Take.here | apply Take.there)))))) ?_
  rintro v18 L1 ⟨W', μ4, h4, rfl, hW', hg', ht', hn', rfl⟩
  refine swl_app ?_
  refine s_pu (pu_iface rfl) ?_
  refine s_ef (ef_fn (virtual_spec W' μ4 hW' (by omega) μ4 (Le.refl _) (hT.le (h1.trans (h2.trans (h3.trans h4)))) st00 0 askB0 (by omega) 3 4 1) rfl rfl (by repeat (first | exact Split.nil | (apply Split.cons; (repeat (first | with_reducible exact Take.here | apply Take.there)))))) ?_
  rintro v20 L1 ⟨tv2, s5, μ5, h5, _, _, rfl, rfl⟩
  rw [virt_of hg' ht', x_virt1]
  refine swl_app ?_
  refine s_pu (pu_move rfl) ?_
  first | refine s_pu (pu_extractL rfl) ?_ | refine s_pu (pu_extract rfl rfl) ?_
  first | refine s_pu (pu_extractL rfl) ?_ | refine s_pu (pu_extract rfl rfl) ?_
  first | refine s_pu (pu_extractL rfl) ?_ | refine s_pu (pu_extract rfl rfl) ?_
  first | refine s_pu (pu_extractL rfl) ?_ | refine s_pu (pu_extract rfl rfl) ?_
  refine s_pu (pu_assign rfl) ?_
  refine s_pu (pu_assign rfl) ?_
  refine s_pu (pu_assign rfl) ?_
  refine s_pu (pu_assign rfl) ?_
  refine swl_sub _ (.cons (t := 1) rfl (.cons (t := 2) rfl (.cons (t := 3) rfl (.cons (t := 4) rfl (.cons (t := 8) rfl .nil))))) ?_
  refine swl_nil ?_
  refine then_n ?_
  refine swp_seq ?_
  refine swp_region ?_
  refine s_pu (pu_move rfl) ?_
  refine s_pu (pu_move rfl) ?_
  refine s_on rfl rfl ?_
  refine s_pu (pu_move rfl) ?_
  refine s_on rfl rfl ?_
  refine s_pu (pu_eql rfl rfl) ?_
  first | refine s_pu (pu_pick_t rfl rfl) ?_ | refine s_pu (pu_pick_f rfl rfl) ?_
  refine s_pu (pu_move rfl) ?_
  refine s_on rfl rfl ?_
  refine s_pu (pu_move rfl) ?_
  refine s_on rfl rfl ?_
  refine s_pu (pu_eql rfl rfl) ?_
  first | refine s_pu (pu_pick_t rfl rfl) ?_ | refine s_pu (pu_pick_f rfl rfl) ?_
  refine s_pu (pu_move rfl) ?_
  refine s_on rfl rfl ?_
  refine s_pu (pu_move rfl) ?_
  refine s_on rfl rfl ?_
  refine s_pu (pu_eql rfl rfl) ?_
  first | refine s_pu (pu_pick_t rfl rfl) ?_ | refine s_pu (pu_pick_f rfl rfl) ?_
  refine s_pu (pu_move rfl) ?_
  refine s_on rfl rfl ?_
  refine s_pu (pu_move rfl) ?_
  refine s_on rfl rfl ?_
  refine s_pu (pu_bld (qs := [(0, _), (1, _)]) rfl) ?_
  refine s_on rfl rfl ?_
  refine s_pu (pu_bld (qs := [(0, _), (1, _)]) rfl) ?_
  refine s_on rfl rfl ?_
  refine s_ef (ef_bldS (qs := [(0, _), (1, _)]) rfl rfl rfl) ?_
  intro b42
  refine s_on rfl rfl ?_
  refine s_ef (ef_fn (same_lit μ5 tv b42 [(⟨#[112]⟩, 2), (⟨#[113]⟩, 3)] [(⟨#[112]⟩, 2), (⟨#[113]⟩, 3)] (rt.le (h4.trans h5)) (by decide) (cs := [.string ⟨#[112]⟩, .int .u32 2, .string ⟨#[113]⟩, .int .u32 3]) rfl) rfl rfl (by repeat (first | exact Split.nil | (apply Split.cons; (repeat (first | with_reducible exact Take.here | apply Take.there)))))) ?_
  rintro v43 L1 ⟨rfl, rfl⟩
  refine swl_app ?_
  first | refine s_pu (pu_pick_t rfl rfl) ?_ | refine s_pu (pu_pick_f rfl rfl) ?_
  refine s_pu (pu_assign rfl) ?_
  refine swl_sub _ (.cons (t := 0) rfl .nil) ?_
  refine swl_nil ?_
  refine then_n ?_
  refine swp_ret ?_
  refine done_retE [ro μ5] (.tmp rfl .nil) ⟨?_, μ5, h1.trans (h2.trans (h3.trans (h4.trans h5))), rfl⟩ (Split.ent' (by repeat (first | exact Split.nil | (apply Split.cons; (repeat (first | with_reducible exact Take.here | apply Take.there))))))
  show Value.bool (decide _) = _
  simp
end SX
namespace SX
open Go Go.Proofs
theorem virtV_steps (W : HW) (a b : Int) (L : Nat) (hL : L ≤ 4096) :
    ((virtV W a b L).2.2.2 ≠ 0 → virtV W a b L = ([], false, 0, (virtV W a b L).2.2.2) ∧ ((virtV W a b L).2.2.2 = 9 ∨ (virtV W a b L).2.2.2 = 12)) ∧
    ((virtV W a b L).2.2.2 = 0 → 1 ≤ (virtV W a b L).2.2.1 ∧ (virtV W a b L).2.2.1 ≤ L ∧ virtV W a b (virtV W a b L).2.2.1 = virtV W a b L ∧ virtV W a b ((virtV W a b L).2.2.1 - 1) = ([], false, 0, 12)) := by
  have hlim : ∀ k : Nat, k ≤ 4096 → (min (max (k : Int) 0) 4096).toNat = k := fun k hk => by omega
  by_cases h0 : askedV W.n a b = 0
  · have hV : ∀ k : Nat, k ≤ 4096 → virtV W a b k = match vall (VS W) (VT W) VM [] k [a] b with | (none, _) => ([], false, 0, 12) | (some (t, ok), left) => (t, ok, ((k - left : Nat) : Int), 0) := fun k hk => by
      unfold virtV; rw [if_neg (not_not_intro h0), hlim k hk]; rfl
    have hVL := hV L hL
    cases hq : vall (VS W) (VT W) VM [] L [a] b with
    | mk o l =>
      rw [hq] at hVL
      cases o with
      | none =>
        rw [hVL]
        exact ⟨fun _ => ⟨rfl, .inr rfl⟩, fun h => by cases h⟩
      | some r =>
        obtain ⟨t, ok⟩ := r
        dsimp only at hVL
        rw [hVL]
        obtain ⟨k1, k2⟩ := vall_steps (VS W) (VT W) VM [] hq
        refine ⟨fun h => absurd rfl h, fun _ => ⟨?_, ?_, ?_, ?_⟩⟩
        · dsimp only; omega
        · dsimp only; omega
        · dsimp only
          rw [hV _ (by omega), (k2 (L - l)).1 (Nat.le_refl _)]
          dsimp only
          rw [Nat.sub_self, Nat.sub_zero]
        · dsimp only
          rw [show ((L - l : Nat) : Int) - 1 = ((L - l - 1 : Nat) : Int) by omega, hV _ (by omega)]
          have := (k2 (L - l - 1)).2 (by omega)
          generalize vall (VS W) (VT W) VM [] (L - l - 1) [a] b = q at this
          obtain ⟨q1, q2⟩ := q
          dsimp only at this
          subst this; rfl
  · have hV : ∀ k : Int, virtV W a b k = ([], false, 0, askedV W.n a b) := fun k => by unfold virtV; rw [if_pos h0]
    have h9 : askedV W.n a b = 9 := by
      unfold askedV at h0 ⊢
      split
      · rfl
      · rename_i h; rw [if_neg h] at h0; exact absurd rfl h0
    rw [hV]
    exact ⟨fun _ => ⟨rfl, .inl h9⟩, fun h => absurd h h0⟩
/-- a source, or none -/
def OfIs (w : Wld) (mo : Nat) (μ' : PH) (o : Option Addr) (A : Assn) : Prop :=
  (o = none ∧ ¬ chkFrom 0 (nums (w.G.take (min w.G.length mo))) = 0) ∨
  ∃ W : HW, o = some ⟨W.p, 0, none⟩ ∧ W.Ok μ' ∧ W.G = w.G.take (min w.G.length mo) ∧ W.n = min w.G.length mo ∧ W.T.map (·.2) = (List.range W.n).map (ofT w.T) ∧ A = W.A st00
theorem of2_spec (w : Wld) (μ : PH) (h : w.Ok μ) (mo : Nat) (hmo : mo ≤ 10000) :
    Spec Tryd.prog 9 [.agg w.cells.toArray, .int .i64 (mo : Nat)] [ro μ] (fun r L => ∃ μ' o A, Le μ μ' ∧ r = .pointer o ∧ L = [A, ro μ'] ∧ OfIs w mo μ' o A) :=
  Spec.ent3 (of_spec w μ h mo hmo) fun r L ⟨μ', h1, hp⟩ => by
    rcases hp with ⟨k1, rfl, rfl⟩ | ⟨W, rfl, k1, k2, k3, k4, rfl⟩
    · exact ⟨_, star_close (K := []) (L := [ro μ']), μ', none, star [], h1, rfl, rfl, .inl ⟨rfl, k1⟩⟩
    · exact ⟨_, Ent.refl _, μ', _, _, h1, rfl, rfl, .inr ⟨W, rfl, k1, k2, k3, k4, rfl⟩⟩
theorem ofis_some {w : Wld} {mo : Nat} {μ' : PH} {o : Option Addr} {A : Assn} (h : OfIs w mo μ' o A) (ho : o.isNone = false) : ∃ W : HW, o = some ⟨W.p, 0, none⟩ ∧ W.Ok μ' ∧ W.n ≤ mo ∧ W.n ≤ w.G.length ∧ A = W.A st00 := by
  rcases h with ⟨rfl, _⟩ | ⟨W, h1, h2, h3, h4, h5, h6⟩
  · cases ho
  · exact ⟨W, h1, h2, by omega, by omega, h6⟩
end SX
namespace SX
open Go Go.Proofs
/-! histories that cross, plainly -/
/-- how far down -/
def lay (j : Nat) : Nat := (j + 1) / 2
end SX
namespace SX
open Go Go.Proofs
end SX
namespace SX
open Go Go.Proofs
theorem vloop_count {τ : Type} (S : List Int → Int → List Int) (T : Int → τ) (M : τ → τ → τ → τ) (z : τ) : ∀ (rest node : List Int) (t : τ) (left : Nat) (r : τ) (l : Nat), vloop T M (vall S T M z) rest node t left = (some r, l) → l + rest.length ≤ left
  | [], _, _, left, r, l, h => by
    simp only [vloop, Prod.mk.injEq] at h
    rw [List.length_nil]; omega
  | c :: rest, node, t, left, r, l, h => by
    rw [vloop] at h
    cases hv : vall S T M z left node c with
    | mk o k =>
      rw [hv] at h
      cases o with
      | none => cases h
      | some u =>
        obtain ⟨u, ub⟩ := u
        have h1 := (vall_steps S T M z hv).1
        have h2 := vloop_count S T M z rest (node ++ [c]) (M u t (T c)) k r l h
        rw [List.length_cons]; omega
theorem onlyE_asked {g : List (List Int)} (a b : Int) (hn : g.length ≤ 10000) : onlyE g [a] [b] = askedV g.length a b := by
  unfold onlyE askedE askedV
  simp only [List.all_cons, List.all_nil, Bool.and_true, inR, Bool.and_eq_true, decide_eq_true_eq]
  by_cases h1 : 0 ≤ a ∧ a < (g.length : Int)
  · by_cases h2 : 0 ≤ b ∧ b < (g.length : Int)
    · rw [if_pos ⟨h1, h2⟩, if_neg (by omega)]
    · rw [if_neg (fun k => h2 k.2), if_pos (by omega)]
  · rw [if_neg (fun k => h1 k.1), if_pos (by omega)]
/-- what the law asks of the bases and the virtual ancestor -/
structure BLaw (W : HW) (a b : Int) : Prop where
  bad : askedV W.n a b ≠ 0 → virtV W a b 300 = ([], false, 0, askedV W.n a b)
  lim : (virtV W a b 300).2.2.2 = 12 → 1 < (sidesA (nums W.G) [a] [b]).length
  ok : askedV W.n a b = 0 → (virtV W a b 300).2.2.2 ≠ 12 → (virtV W a b 300).2.2.2 = 0 ∧ (virtV W a b 300).2.1 = decide (0 < (sidesA (nums W.G) [a] [b]).length) ∧ ((sidesA (nums W.G) [a] [b]).length : Int) ≤ (virtV W a b 300).2.2.1
  none : askedV W.n a b = 0 → sidesA (nums W.G) [a] [b] = [] → virtV W a b 300 = ([], false, 1, 0)
  one : ∀ c, askedV W.n a b = 0 → sidesA (nums W.G) [a] [b] = [c] → virtV W a b 300 = (VT W c, true, 1, 0)
  two : ∀ c d, askedV W.n a b = 0 → sidesA (nums W.G) [a] [b] = [c, d] → (virtV W a b 300).2.2.2 ≠ 12 → (virtV W c d 300).2.2.2 = 0 ∧ (virtV W a b 300).2.2.1 = (virtV W c d 300).2.2.1 + 1 ∧ (virtV W a b 300).1 = VM (virtV W c d 300).1 (VT W c) (VT W d)
theorem b_law (W : HW) (a b : Int) (hn : W.n ≤ 10000) : BLaw W a b := by
  have hV : ∀ x y, askedV W.n x y = 0 → virtV W x y 300 = match vall (VS W) (VT W) VM [] 300 [x] y with | (none, _) => ([], false, 0, 12) | (some (t, ok), left) => (t, ok, ((300 - left : Nat) : Int), 0) := fun x y h0 => by
    unfold virtV; rw [if_neg (not_not_intro h0)]; rfl
  have hA := vall_eq (VS W) (VT W) VM [] 300 [a] b
  rw [if_neg (by omega), show VS W [a] b = sidesA (nums W.G) [a] [b] from rfl] at hA
  have hin : ∀ x ∈ sidesA (nums W.G) [a] [b], 0 ≤ x ∧ x < (W.n : Int) := fun x hx => by
    have := sidesA_in hx
    rwa [show (nums W.G).length = W.n from List.length_map _] at this
  have hbad : askedV W.n a b ≠ 0 → virtV W a b 300 = ([], false, 0, askedV W.n a b) := fun h => by unfold virtV; rw [if_pos h]
  have h912 : askedV W.n a b ≠ 12 := by unfold askedV; split <;> decide
  generalize hl : sidesA (nums W.G) [a] [b] = l at hA hin
  refine ⟨hbad, ?_, ?_, ?_, ?_, ?_⟩ <;> rw [hl]
  · intro h
    by_cases h0 : askedV W.n a b = 0
    · rw [hV a b h0, hA] at h
      match l, h with
      | [], h => cases h
      | [c], h => cases h
      | _ :: _ :: _, _ => simp
    · rw [hbad h0] at h
      exact absurd h h912
  · intro h0 h
    rw [hV a b h0, hA] at h ⊢
    match l, h with
    | [], _ => exact ⟨rfl, rfl, by show ((0 : Nat) : Int) ≤ ((300 - (300 - 1) : Nat) : Int); omega⟩
    | c :: r, h =>
      dsimp only at h ⊢
      cases hv : vloop (VT W) VM (vall (VS W) (VT W) VM []) r [c] (VT W c) (300 - 1) with
      | mk o k =>
        rw [hv] at h
        cases o with
        | none => exact absurd rfl h
        | some t =>
          have := vloop_count _ _ _ _ _ _ _ _ _ _ hv
          refine ⟨rfl, by simp, ?_⟩
          show (((c :: r).length : Nat) : Int) ≤ ((300 - k : Nat) : Int)
          rw [List.length_cons]
          omega
  · intro h0 h
    rw [hV a b h0, hA, h]; rfl
  · intro c h0 h
    rw [hV a b h0, hA, h]; rfl
  · intro c d h0 h hne
    have hc := hin c (by rw [h]; simp)
    have hd := hin d (by rw [h]; simp)
    have hcd : askedV W.n c d = 0 := by unfold askedV; rw [if_neg (by omega)]
    rw [hV a b h0, hA, h] at hne ⊢
    rw [hV c d hcd]
    dsimp only at hne ⊢
    rw [vloop] at hne ⊢
    cases hv : vall (VS W) (VT W) VM [] (300 - 1) [c] d with
    | mk o k =>
      rw [hv] at hne
      cases o with
      | none => exact absurd rfl hne
      | some u =>
        obtain ⟨u, ub⟩ := u
        obtain ⟨k1, k2⟩ := vall_steps _ _ _ _ hv
        rw [(k2 300).1 (by omega)]
        refine ⟨rfl, ?_, rfl⟩
        show ((300 - k : Nat) : Int) = ((300 - (300 - (300 - 1 - k)) : Nat) : Int) + 1
        omega
end SX
namespace SX
open Go Go.Proofs
theorem content_look (W : HW) (μ : PH) (h : W.Ok μ) (s : HSt) (c : Nat) (hc : c < W.n) : Spec Tryd.prog 13 [.pointer (some ⟨W.p, 0, none⟩), .int .i64 (c : Nat)] [W.A s, ro μ] (fun r L => L = [own 52 2 r (treeOf W.T c).length (ens (treeOf W.T c)), W.A (lookS s c), ro μ]) := content_spec W μ h s c hc
/-- the bases of two, over the law's source -/
theorem hmerge_spec (W : HW) (μ : PH) (h : W.Ok μ) (s : HSt) (m : Nat) (hs : AskB m s) (hm : m + 1 ≤ 4611686018427387904) (a b : Int) (hT : RowAt μ 1 0 tabV) :
    Spec Tryd.prog 15 [W.sv, .int .i64 a, .int .i64 b] [W.A s, ro μ] (fun r L => ∃ lv s' μ', AskB (m + 1) s' ∧ Le μ μ' ∧ r = .tuple #[lv, .int .i64 (onlyE (nums W.G) [a] [b])] ∧ L = [own 3 1 lv (sidesA (nums W.G) [a] [b]).length (ivs (sidesA (nums W.G) [a] [b])), W.A s', ro μ']) := by
  refine (bmerge_spec (W.bsrc μ h) s μ a b hT (Le.refl _) (bsrc_fine h hs hm)).mono fun r L ⟨lv, zs, μ', h1, h2, h3, h4⟩ => ?_
  exact ⟨lv, zs.foldl askS s, μ', askS_le hs h1, h2, h3, h4⟩
theorem d_share_own {P : Program} {rn : Option Nat} {ops : Array Oper} {Q : Post} {N : Nat} {rds : List Nat} {fuel : Nat} {listed : Array Bool} {env : Env} {Lr L L0 : List Assn} {μ : PH} {e n l : Nat} {v : Value} {xs : List Value} (hL : Split L0 [own e n v l xs, ro μ] L)
    (h : ∀ μ', Le μ μ' → Row μ' v n l xs → swd P rn ops Q N rds fuel listed false env Lr (ro μ' :: L)) : swd P rn ops Q N rds fuel listed false env Lr L0 := fun E D a w hD hf hh hc => by
  have hh' : H (E.add D) w L0 := hh
  obtain ⟨μ', h1, h2, h3⟩ := (hh'.ent hL.ent).share_own
  exact h μ' h1 h2 E D a w hD hf h3 hc
theorem at_nat {n : Nat} {μ : PH} {v : Value} {l : List Int} (h : Row μ v 1 l.length (ivs l)) (hin : ∀ x ∈ l, 0 ≤ x ∧ x < (n : Int)) {i : Nat} {c : Int} (hc : l[i]? = some c) : ∃ (k b o cap : Nat), c = (k : Int) ∧ k < n ∧ v = .slice (some ⟨b, o, none⟩) l.length cap ∧ CellAt μ b (o + i * 1) (.int .i64 (k : Nat)) := by
  obtain ⟨k1, k2⟩ := hin c (List.mem_of_getElem? hc)
  obtain ⟨b, o, cap, hv, hcell⟩ := h.at_ hc
  refine ⟨c.toNat, b, o, cap, by omega, by omega, hv, ?_⟩
  rw [show ((c.toNat : Nat) : Int) = c by omega]; exact hcell
set_option maxHeartbeats 8000000 in
theorem bases_spec (w : Wld) (μ : PH) (h : w.Ok μ) (hT : RowAt μ 1 0 tabV) (a b : Int) : Spec Tryd.prog 7 [.agg w.cells.toArray, .int .i64 a, .int .i64 b] [ro μ] (LawOk μ) := by
  refine Spec.of 183 Tryd.func7 rfl rfl rfl ?_
  refine swp_seq ?_
  refine swp_region ?_
  refine s_ef (ef_box rfl rfl) ?_
  intro b3
  refine s_pu (pu_assign rfl) ?_
  refine swl_sub _ (.cons (t := 1) rfl (.cons (t := 2) rfl (.cons (t := 3) rfl .nil))) ?_
  refine swl_nil ?_
  refine then_n ?_
  refine swp_seq ?_
  refine swp_seq ?_
  refine swp_region ?_
  refine s_ef (ef_fn (crosses_spec μ hT) rfl rfl (by repeat (first | exact Split.nil | (apply Split.cons; (repeat (first | with_reducible exact Take.here | apply Take.there)))))) ?_
  rintro v26 L1 ⟨rfl, μ1, h1, rfl⟩
  refine swl_app ?_
  refine s_pu (pu_not rfl) ?_
  refine swl_sub _ (.cons (t := 1) rfl (.cons (t := 2) rfl (.cons (t := 3) rfl (.cons (t := 27) rfl .nil)))) ?_
  refine swl_nil ?_
  refine then_n ?_
  refine swp_cond (b := _) rfl (fun h27 => by cases h27) (fun h27 => ?_)
  refine swp_skip ?_
  refine then_n ?_
  refine swp_seq ?_
  refine swp_region ?_
  first | refine s_rd (rd_loadW rfl rfl) ?_ | refine s_rd (rd_loadX rfl rfl rfl) ?_
  refine s_ef (ef_fn (of2_spec w μ1 (h.le h1) 30 (by decide)) rfl rfl (by repeat (first | exact Split.nil | (apply Split.cons; (repeat (first | with_reducible exact Take.here | apply Take.there)))))) ?_
  rintro v29 L1 ⟨μ2, o, A, h2, rfl, rfl, hof⟩
  refine swl_app ?_
  refine s_pu (pu_assign rfl) ?_
  refine swl_sub _ (.cons (t := 1) rfl (.cons (t := 2) rfl (.cons (t := 7) rfl .nil))) ?_
  refine swl_nil ?_
  refine then_n ?_
  refine swp_seq ?_
  refine swp_seq ?_
  refine swp_region ?_
  refine s_pu (pu_move rfl) ?_
  refine s_pu (pu_ptr_eq_nil rfl rfl) ?_
  refine swl_sub _ (.cons (t := 1) rfl (.cons (t := 2) rfl (.cons (t := 7) rfl (.cons (t := 31) rfl .nil)))) ?_
  refine swl_nil ?_
  refine then_n ?_
  refine swp_cond (b := _) rfl (fun h31 => ?_) (fun h31 => ?_)
  · skip   -- 31 T
    refine swp_seq ?_
    refine swp_region ?_
    refine s_pu (pu_assign rfl) ?_
    refine swl_sub _ (.cons (t := 6) rfl .nil) ?_
    refine swl_nil ?_
    refine then_n ?_
    refine swp_ret ?_
    refine then_r ?_
    exact done_ret [ro μ2] (.tmp rfl .nil) ⟨rfl, μ2, [], h1.trans h2, rfl⟩ (by repeat (first | exact Split.nil | (apply Split.cons; (repeat (first | with_reducible exact Take.here | apply Take.there)))))
  · skip   -- 31 F
    obtain ⟨W, rfl, hW, hWn, _, rfl⟩ := ofis_some hof h31
    clear hof
    have hn10 : W.n ≤ 10000 := by omega
    obtain ⟨q1, q2, q3, q4, q5, q6⟩ := b_law W a b hn10
    have hoE : onlyE (nums W.G) [a] [b] = askedV W.n a b := by
      have := onlyE_asked (g := nums W.G) a b (by rw [List.length_map]; omega)
      rwa [show (nums W.G).length = W.n from List.length_map _] at this
    have hin : ∀ x ∈ sidesA (nums W.G) [a] [b], 0 ≤ x ∧ x < (W.n : Int) := fun x hx => by
      have := sidesA_in hx
      rwa [show (nums W.G).length = W.n from List.length_map _] at this
    have hT2 := hT.le (h1.trans h2)
    refine swp_skip ?_
    refine then_n ?_
    refine swp_seq ?_
    refine swp_region ?_
    refine s_pu (pu_move rfl) ?_
    refine s_pu (pu_iface rfl) ?_
    refine s_pu (pu_move rfl) ?_
    refine s_pu (pu_move rfl) ?_
    refine s_ef (ef_fn (hmerge_spec W μ2 hW st00 0 askB0 (by omega) a b hT2) rfl rfl (by repeat (first | exact Split.nil | (apply Split.cons; (repeat (first | with_reducible exact Take.here | apply Take.there)))))) ?_
    rintro v37 L1 ⟨lv, s3, μ3, hs3, h3, rfl, rfl⟩
    rw [hoE]
    generalize sidesA (nums W.G) [a] [b] = l at *
    refine swl_app ?_
    refine swl_share_own (v := lv) (μ := μ3) (by repeat (first | exact Split.nil | (apply Split.cons; (repeat (first | with_reducible exact Take.here | apply Take.there))))) fun μ4 h4 rl => ?_
    have l4 : Le μ2 μ4 := h3.trans h4
    refine s_pu (pu_move rfl) ?_
    first | refine s_pu (pu_extractL rfl) ?_ | refine s_pu (pu_extract rfl rfl) ?_
    first | refine s_pu (pu_extractL rfl) ?_ | refine s_pu (pu_extract rfl rfl) ?_
    refine s_pu (pu_assign rfl) ?_
    refine s_pu (pu_assign rfl) ?_
    refine swl_sub _ (.cons (t := 1) rfl (.cons (t := 2) rfl (.cons (t := 7) rfl (.cons (t := 8) rfl (.cons (t := 9) rfl .nil))))) ?_
    refine swl_nil ?_
    refine then_n ?_
    refine swp_seq ?_
    refine swp_region ?_
    refine s_pu (pu_move rfl) ?_
    refine s_pu (pu_iface rfl) ?_
    refine s_pu (pu_move rfl) ?_
    refine s_pu (pu_move rfl) ?_
    refine s_ef (ef_fn (virtual_spec W μ4 (hW.le l4) hn10 μ4 (Le.refl _) (hT2.le l4) s3 1 (fun c => Nat.le_trans (hs3 c) (by omega)) (by omega) a b 300) rfl rfl (by repeat (first | exact Split.nil | (apply Split.cons; (repeat (first | with_reducible exact Take.here | apply Take.there)))))) ?_
    rintro v45 L1 ⟨tv, s5, μ5, h5, hs5, ht, rfl, rfl⟩
    refine swl_app ?_
    refine swl_share_own (v := tv) (μ := μ5) (by repeat (first | exact Split.nil | (apply Split.cons; (repeat (first | with_reducible exact Take.here | apply Take.there))))) fun μ6 h6 rt => ?_
    have l6 : Le μ2 μ6 := l4.trans (h5.trans h6)
    refine s_pu (pu_move rfl) ?_
    first | refine s_pu (pu_extractL rfl) ?_ | refine s_pu (pu_extract rfl rfl) ?_
    first | refine s_pu (pu_extractL rfl) ?_ | refine s_pu (pu_extract rfl rfl) ?_
    first | refine s_pu (pu_extractL rfl) ?_ | refine s_pu (pu_extract rfl rfl) ?_
    first | refine s_pu (pu_extractL rfl) ?_ | refine s_pu (pu_extract rfl rfl) ?_
    refine s_pu (pu_assign rfl) ?_
    refine s_pu (pu_assign rfl) ?_
    refine s_pu (pu_assign rfl) ?_
    refine s_pu (pu_assign rfl) ?_
    refine swl_sub _ (.cons (t := 1) rfl (.cons (t := 2) rfl (.cons (t := 7) rfl (.cons (t := 8) rfl (.cons (t := 9) rfl (.cons (t := 10) rfl (.cons (t := 11) rfl (.cons (t := 12) rfl (.cons (t := 13) rfl .nil))))))))) ?_
    refine swl_nil ?_
    refine then_n ?_
    refine swp_seq ?_
    refine swp_seq ?_
    refine swp_region ?_
    refine s_pu (pu_move rfl) ?_
    refine s_pu (pu_neq rfl rfl) ?_
    refine swl_sub _ (.cons (t := 1) rfl (.cons (t := 2) rfl (.cons (t := 7) rfl (.cons (t := 8) rfl (.cons (t := 9) rfl (.cons (t := 10) rfl (.cons (t := 11) rfl (.cons (t := 12) rfl (.cons (t := 13) rfl (.cons (t := 51) rfl .nil)))))))))) ?_
    refine swl_nil ?_
    refine then_n ?_
    refine swp_cond (b := _) rfl (fun h51 => ?_) (fun h51 => ?_)
    · skip   -- 51 T
      refine swp_seq ?_
      refine swp_region ?_
      refine s_pu (pu_move rfl) ?_
      refine s_pu (pu_move rfl) ?_
      refine s_pu (pu_eql rfl rfl) ?_
      refine s_pu (pu_assign rfl) ?_
      refine swl_sub _ (.cons (t := 6) rfl .nil) ?_
      refine swl_nil ?_
      refine then_n ?_
      refine swp_ret ?_
      refine then_r ?_
      have h51' : askedV W.n a b ≠ 0 := fun e => by rw [e] at h51; exact absurd h51 (by decide)
      refine done_ret [ro μ6] (.tmp rfl .nil) ⟨?_, μ6, [], h1.trans (h2.trans l6), rfl⟩ (by repeat (first | exact Split.nil | (apply Split.cons; (repeat (first | with_reducible exact Take.here | apply Take.there)))))
      rw [q1 h51']
      show Value.bool (decide _) = _
      simp
    · skip   -- 51 F
      refine swp_skip ?_
      refine then_n ?_
      refine swp_seq ?_
      refine swp_seq ?_
      refine swp_region ?_
      refine s_pu (pu_move rfl) ?_
      refine s_pu (pu_eql rfl rfl) ?_
      refine swl_sub _ (.cons (t := 1) rfl (.cons (t := 2) rfl (.cons (t := 7) rfl (.cons (t := 8) rfl (.cons (t := 10) rfl (.cons (t := 11) rfl (.cons (t := 12) rfl (.cons (t := 13) rfl (.cons (t := 56) rfl .nil))))))))) ?_
      refine swl_nil ?_
      refine then_n ?_
      refine swp_cond (b := _) rfl (fun h56 => ?_) (fun h56 => ?_)
      · skip   -- 56 T
        refine swp_seq ?_
        refine swp_region ?_
        refine s_pu (pu_move rfl) ?_
        refine s_pu (pu_len_row rl rfl) ?_
        refine s_pu (pu_gtr rfl rfl) ?_
        refine s_pu (pu_assign rfl) ?_
        refine swl_sub _ (.cons (t := 6) rfl .nil) ?_
        refine swl_nil ?_
        refine then_n ?_
        refine swp_ret ?_
        refine then_r ?_
        have h56' := of_decide_eq_true h56
        refine done_ret [ro μ6] (.tmp rfl .nil) ⟨?_, μ6, [], h1.trans (h2.trans l6), rfl⟩ (by repeat (first | exact Split.nil | (apply Split.cons; (repeat (first | with_reducible exact Take.here | apply Take.there)))))
        have := q2 h56'
        show Value.bool (decide _) = _
        rw [decide_eq_true (by omega)]
      · skip   -- 56 F
        have h51' : askedV W.n a b = 0 := by
          by_cases e : askedV W.n a b = 0
          · exact e
          · rw [decide_eq_false e] at h51; cases h51
        have h56' : (virtV W a b 300).2.2.2 ≠ 12 := of_decide_eq_false h56
        obtain ⟨k1, k2, k3⟩ := q3 h51' h56'
        obtain ⟨i, j, rfl, rfl, hi, hj⟩ := virtV_in k1 hn10
        have hmV : mergeV W i j 300 = (VM (virtV W i j 300).1 (VT W i) (VT W j), cfR (rowsB (virtV W i j 300).1 (VT W i) (VT W j)), (virtV W i j 300).2.2.1, 0) := by unfold mergeV; rw [if_neg (not_not_intro k1)]
        have hW6 := hW.le l6
        have hU := HW.U_len hW hn10
        refine swp_skip ?_
        refine then_n ?_
        refine swp_seq ?_
        refine swp_region ?_
        refine s_pu (pu_move rfl) ?_
        refine s_pu (pu_iface rfl) ?_
        refine s_pu (pu_move rfl) ?_
        refine s_pu (pu_move rfl) ?_
        refine s_ef (ef_fn (vmerge_spec W μ6 hW6 hn10 μ6 (Le.refl _) (hT2.le l6) s5 4098 (fun c => Nat.le_trans (hs5 c) (by omega)) (by omega) i j 300) rfl rfl (by repeat (first | exact Split.nil | (apply Split.cons; (repeat (first | with_reducible exact Take.here | apply Take.there)))))) ?_
        rintro v65 L1 ⟨xv, kv, s7, μ7, h7, hs7, _, rfl, rfl⟩
        rw [hmV]
        refine swl_app ?_
        refine swl_share_own (v := xv) (μ := μ7) (by repeat (first | exact Split.nil | (apply Split.cons; (repeat (first | with_reducible exact Take.here | apply Take.there))))) fun μ8 h8 rx => ?_
        refine swl_share_own (v := kv) (μ := μ8) (by repeat (first | exact Split.nil | (apply Split.cons; (repeat (first | with_reducible exact Take.here | apply Take.there))))) fun μ9 h9 rk => ?_
        have l9 : Le μ6 μ9 := h7.trans (h8.trans h9)
        have hW9 := hW6.le l9
        refine s_pu (pu_move rfl) ?_
        first | refine s_pu (pu_extractL rfl) ?_ | refine s_pu (pu_extract rfl rfl) ?_
        first | refine s_pu (pu_extractL rfl) ?_ | refine s_pu (pu_extract rfl rfl) ?_
        first | refine s_pu (pu_extractL rfl) ?_ | refine s_pu (pu_extract rfl rfl) ?_
        first | refine s_pu (pu_extractL rfl) ?_ | refine s_pu (pu_extract rfl rfl) ?_
        refine s_pu (pu_assign rfl) ?_
        refine s_pu (pu_assign rfl) ?_
        refine s_pu (pu_assign rfl) ?_
        refine s_pu (pu_assign rfl) ?_
        refine swl_sub _ (.cons (t := 1) rfl (.cons (t := 2) rfl (.cons (t := 7) rfl (.cons (t := 8) rfl (.cons (t := 10) rfl (.cons (t := 11) rfl (.cons (t := 12) rfl (.cons (t := 13) rfl (.cons (t := 14) rfl (.cons (t := 15) rfl (.cons (t := 16) rfl (.cons (t := 17) rfl .nil)))))))))))) ?_
        refine swl_nil ?_
        refine then_n ?_
        refine swp_seq ?_
        refine swp_region ?_
        refine s_pu (pu_move rfl) ?_
        refine s_pu (pu_move rfl) ?_
        refine s_pu (pu_move rfl) ?_
        refine s_ef (ef_fn (Spec.rowed (content_look W μ9 hW9 s7 i hi)) rfl rfl (by repeat (first | exact Split.nil | (apply Split.cons; (repeat (first | with_reducible exact Take.here | apply Take.there)))))) ?_
        rintro v74 L1 ⟨μ10, h10, ra, rfl⟩
        refine swl_app ?_
        refine s_pu (pu_move rfl) ?_
        refine s_pu (pu_move rfl) ?_
        refine s_ef (ef_fn (Spec.rowed (content_look W μ10 (hW9.le h10) _ j hj)) rfl rfl (by repeat (first | exact Split.nil | (apply Split.cons; (repeat (first | with_reducible exact Take.here | apply Take.there)))))) ?_
        rintro v77 L1 ⟨μ11, h11, rb, rfl⟩
        refine swl_app ?_
        refine s_ef (ef_fn (three_form μ11 tv v74 v77 (virtV W i j 300).1 (treeOf W.T i) (treeOf W.T j) (rt.le (l9.trans (h10.trans h11))) (ra.le h11) rb ⟨by have := ht.len; omega, by have := (vt_ok hW hi).len; omega, by have := (vt_ok hW hj).len; omega⟩ ⟨ht.u32, (vt_ok hW hi).u32, (vt_ok hW hj).u32⟩) rfl rfl (by repeat (first | exact Split.nil | (apply Split.cons; (repeat (first | with_reducible exact Take.here | apply Take.there)))))) ?_
        rintro v78 L1 ⟨A8, k8, v9, μ12, h12, rfl, rfl⟩
        refine swl_app ?_
        refine swl_share_own (v := .slice A8 (VM (virtV W i j 300).1 (treeOf W.T i) (treeOf W.T j)).length k8) (μ := μ12) (by repeat (first | exact Split.nil | (apply Split.cons; (repeat (first | with_reducible exact Take.here | apply Take.there))))) fun μ13 h13 ry => ?_
        refine swl_share_own (v := v9) (μ := μ13) (by repeat (first | exact Split.nil | (apply Split.cons; (repeat (first | with_reducible exact Take.here | apply Take.there))))) fun μ14 h14 rj => ?_
        have l14 : Le μ9 μ14 := h10.trans (h11.trans (h12.trans (h13.trans h14)))
        refine s_pu (pu_move rfl) ?_
        first | refine s_pu (pu_extractL rfl) ?_ | refine s_pu (pu_extract rfl rfl) ?_
        first | refine s_pu (pu_extractL rfl) ?_ | refine s_pu (pu_extract rfl rfl) ?_
        refine s_pu (pu_assign rfl) ?_
        refine s_pu (pu_assign rfl) ?_
        refine swl_sub _ (.cons (t := 7) rfl (.cons (t := 8) rfl (.cons (t := 10) rfl (.cons (t := 11) rfl (.cons (t := 12) rfl (.cons (t := 13) rfl (.cons (t := 14) rfl (.cons (t := 15) rfl (.cons (t := 16) rfl (.cons (t := 17) rfl (.cons (t := 18) rfl (.cons (t := 19) rfl .nil)))))))))))) ?_
        refine swl_nil ?_
        refine then_n ?_
        refine swp_seq ?_
        refine swp_seq ?_
        refine swp_region ?_
        refine s_pu (pu_move rfl) ?_
        refine s_pu (pu_neq rfl rfl) ?_
        refine s_pu (pu_move rfl) ?_
        refine s_split 83 rfl (fun h83 => by rw [k1] at h83; exact absurd h83 (by decide)) (fun h83 => ?_)
        refine s_on rfl rfl ?_
        refine s_pu (pu_move rfl) ?_
        refine s_on rfl rfl ?_
        refine s_pu (pu_neq rfl rfl) ?_
        first | refine s_pu (pu_pick_t rfl rfl) ?_ | refine s_pu (pu_pick_f rfl rfl) ?_
        refine s_pu (pu_move rfl) ?_
        refine s_on rfl rfl ?_
        refine s_pu (pu_move rfl) ?_
        refine s_on rfl rfl ?_
        refine s_pu (pu_move rfl) ?_
        refine s_on rfl rfl ?_
        refine s_pu (pu_neq rfl rfl) ?_
        first | refine s_pu (pu_pick_t rfl rfl) ?_ | refine s_pu (pu_pick_f rfl rfl) ?_
        refine s_pu (pu_move rfl) ?_
        refine s_split 92 rfl (fun h92 => by simp at h92) (fun h92 => ?_)
        refine s_on rfl rfl ?_
        refine s_pu (pu_move rfl) ?_
        refine s_on rfl rfl ?_
        refine s_pu (pu_move rfl) ?_
        refine s_on rfl rfl ?_
        refine s_ef (ef_fn (same_spec μ14 xv _ (VM (virtV W i j 300).1 (treeOf W.T i) (treeOf W.T j)) (VM (virtV W i j 300).1 (treeOf W.T i) (treeOf W.T j)) (rx.le (h9.trans l14)) (ry.le h14)) rfl rfl (by repeat (first | exact Split.nil | (apply Split.cons; (repeat (first | with_reducible exact Take.here | apply Take.there)))))) ?_
        rintro v95 L1 ⟨rfl, rfl⟩
        refine swl_app ?_
        refine s_on rfl rfl ?_
        refine s_pu (pu_not rfl) ?_
        first | refine s_pu (pu_pick_t rfl rfl) ?_ | refine s_pu (pu_pick_f rfl rfl) ?_
        refine s_pu (pu_move rfl) ?_
        refine s_split 98 rfl (fun h98 => by simp at h98) (fun h98 => ?_)
        refine s_on rfl rfl ?_
        refine s_pu (pu_move rfl) ?_
        refine s_on rfl rfl ?_
        refine s_pu (pu_move rfl) ?_
        refine s_on rfl rfl ?_
        refine s_ef (ef_fn (samec_spec μ14 kv v9 (cfR (rowsB (virtV W i j 300).1 (treeOf W.T i) (treeOf W.T j))) (cfR (rowsB (virtV W i j 300).1 (treeOf W.T i) (treeOf W.T j))) (rk.le l14) rj) rfl rfl (by repeat (first | exact Split.nil | (apply Split.cons; (repeat (first | with_reducible exact Take.here | apply Take.there)))))) ?_
        rintro v101 L1 ⟨rfl, rfl⟩
        refine swl_app ?_
        refine s_on rfl rfl ?_
        refine s_pu (pu_not rfl) ?_
        first | refine s_pu (pu_pick_t rfl rfl) ?_ | refine s_pu (pu_pick_f rfl rfl) ?_
        refine s_pu (pu_move rfl) ?_
        refine s_split 104 rfl (fun h104 => by simp at h104) (fun h104 => ?_)
        refine s_on rfl rfl ?_
        refine s_pu (pu_move rfl) ?_
        refine s_on rfl rfl ?_
        refine s_pu (pu_move rfl) ?_
        refine s_on rfl rfl ?_
        refine s_pu (pu_len_row (rl.le (h5.trans (h6.trans (l9.trans l14)))) rfl) ?_
        refine s_on rfl rfl ?_
        refine s_pu (pu_gtr rfl rfl) ?_
        refine s_on rfl rfl ?_
        refine s_pu (pu_bool_ne rfl rfl) ?_
        first | refine s_pu (pu_pick_t rfl rfl) ?_ | refine s_pu (pu_pick_f rfl rfl) ?_
        refine swl_sub _ (.cons (t := 7) rfl (.cons (t := 8) rfl (.cons (t := 10) rfl (.cons (t := 12) rfl (.cons (t := 110) rfl .nil))))) ?_
        refine swl_nil ?_
        refine then_n ?_
        refine swp_cond (b := _) rfl (fun h110 => by rw [k2] at h110; simp at h110) (fun h110 => ?_)
        refine swp_skip ?_
        refine then_n ?_
        refine swp_seq ?_
        refine swp_seq ?_
        have rl' := rl.le (h5.trans (h6.trans (l9.trans l14)))
        have rt' := rt.le (l9.trans l14)
        have hW14 := hW9.le l14
        have hT14 := hT2.le (l6.trans (l9.trans l14))
        have lall : Le μ μ14 := h1.trans (h2.trans (l6.trans (l9.trans l14)))
        generalize virtV W i j 300 = V at *
        refine swp_region ?_
        refine s_pu (pu_move rfl) ?_
        refine s_pu (pu_len_row rl' rfl) ?_
        refine swl_sub _ (.cons (t := 7) rfl (.cons (t := 8) rfl (.cons (t := 10) rfl (.cons (t := 12) rfl (.cons (t := 112) rfl .nil))))) ?_
        refine swl_nil ?_
        refine then_n ?_
        refine swp_block ?_
        refine swp_seq ?_
        refine swp_region ?_
        refine s_pu (pu_eql rfl rfl) ?_
        refine s_pu (pu_assign rfl) ?_
        refine swl_sub _ (.cons (t := 7) rfl (.cons (t := 8) rfl (.cons (t := 10) rfl (.cons (t := 12) rfl (.cons (t := 112) rfl (.cons (t := 113) rfl .nil)))))) ?_
        refine swl_nil ?_
        refine then_n ?_
        refine swp_cond (b := _) rfl (fun h113 => ?_) (fun h113 => ?_)
        · skip   -- 113 T
          have h113' : l = [] := List.eq_nil_of_length_eq_zero (by have := of_decide_eq_true h113; omega)
          have hVn := q4 h51' h113'
          refine swp_seq ?_
          refine swp_region ?_
          refine s_pu (pu_move rfl) ?_
          refine s_pu (pu_len_row rt' rfl) ?_
          refine s_pu (pu_eql rfl rfl) ?_
          refine s_pu (pu_move rfl) ?_
          refine s_split 118 rfl (fun h118 => ?_) (fun h118 => by rw [hVn] at h118; exact absurd h118 (by decide))
          refine s_on rfl rfl ?_
          refine s_pu (pu_move rfl) ?_
          refine s_on rfl rfl ?_
          refine s_pu (pu_eql rfl rfl) ?_
          first | refine s_pu (pu_pick_t rfl rfl) ?_ | refine s_pu (pu_pick_f rfl rfl) ?_
          refine s_pu (pu_assign rfl) ?_
          refine swl_sub _ (.cons (t := 6) rfl .nil) ?_
          refine swl_nil ?_
          refine then_n ?_
          refine swp_ret ?_
          refine block_r ?_
          refine then_r ?_
          refine done_ret [ro μ14] (.tmp rfl .nil) ⟨?_, μ14, [], lall, rfl⟩ (by repeat (first | exact Split.nil | (apply Split.cons; (repeat (first | with_reducible exact Take.here | apply Take.there)))))
          rw [hVn]; rfl
        · skip   -- 113 F
          have h113' : l.length ≠ 0 := fun e => by rw [e] at h113; exact absurd h113 (by decide)
          refine swp_seq ?_
          refine swp_region ?_
          refine s_pu (pu_eql rfl rfl) ?_
          refine s_pu (pu_assign rfl) ?_
          refine swl_sub _ (.cons (t := 7) rfl (.cons (t := 8) rfl (.cons (t := 10) rfl (.cons (t := 12) rfl (.cons (t := 112) rfl (.cons (t := 122) rfl .nil)))))) ?_
          refine swl_nil ?_
          refine then_n ?_
          refine swp_cond (b := _) rfl (fun h122 => ?_) (fun h122 => ?_)
          · skip   -- 122 T
            have h122' : l.length = 1 := by have := of_decide_eq_true h122; omega
            obtain ⟨c, hlc⟩ : ∃ c, l = [c] := List.length_eq_one_iff.1 h122'
            obtain ⟨kc, pb, po, pc, rfl, hkc, hpv, hpc⟩ := at_nat rl' hin (i := 0) (by rw [hlc]; rfl)
            have hVo := q5 _ h51' hlc
            refine swp_seq ?_
            refine swp_region ?_
            refine s_pu (pu_move rfl) ?_
            refine s_pu (pu_move rfl) ?_
            refine s_pu (pu_move rfl) ?_
            refine s_pu (pu_indexAddr (po + 0 * 1) (congrArg some hpv) rfl (by omega) (by omega) rfl) ?_
            refine s_rd (rd_ro rfl hpc) ?_
            refine s_ef (ef_fn (Spec.rowed (content_look W μ14 hW14 _ kc hkc)) rfl rfl (by repeat (first | exact Split.nil | (apply Split.cons; (repeat (first | with_reducible exact Take.here | apply Take.there)))))) ?_
            rintro v129 L1 ⟨μ15, h15, r129, rfl⟩
            refine swl_app ?_
            refine s_ef (ef_fn (same_spec μ15 tv v129 V.1 (treeOf W.T kc) (rt'.le h15) r129) rfl rfl (by repeat (first | exact Split.nil | (apply Split.cons; (repeat (first | with_reducible exact Take.here | apply Take.there)))))) ?_
            rintro v130 L1 ⟨rfl, rfl⟩
            refine swl_app ?_
            refine s_pu (pu_move rfl) ?_
            refine s_split 131 rfl (fun h131 => ?_) (fun h131 => by rw [hVo] at h131; exact absurd (of_decide_eq_false h131) (not_not_intro rfl))
            refine s_on rfl rfl ?_
            refine s_pu (pu_move rfl) ?_
            refine s_on rfl rfl ?_
            refine s_pu (pu_eql rfl rfl) ?_
            first | refine s_pu (pu_pick_t rfl rfl) ?_ | refine s_pu (pu_pick_f rfl rfl) ?_
            refine s_pu (pu_assign rfl) ?_
            refine swl_sub _ (.cons (t := 6) rfl .nil) ?_
            refine swl_nil ?_
            refine then_n ?_
            refine swp_ret ?_
            refine block_r ?_
            refine then_r ?_
            refine done_ret [ro μ15] (.tmp rfl .nil) ⟨?_, μ15, [], lall.trans h15, rfl⟩ (by repeat (first | exact Split.nil | (apply Split.cons; (repeat (first | with_reducible exact Take.here | apply Take.there)))))
            rw [hVo]; rfl
          · skip   -- 122 F
            have h122' : l.length ≠ 1 := fun e => by rw [e] at h122; exact absurd h122 (by decide)
            refine swp_seq ?_
            refine swp_region ?_
            refine s_pu (pu_eql rfl rfl) ?_
            refine s_pu (pu_assign rfl) ?_
            refine swl_sub _ (.cons (t := 7) rfl (.cons (t := 8) rfl (.cons (t := 10) rfl (.cons (t := 12) rfl (.cons (t := 135) rfl .nil))))) ?_
            refine swl_nil ?_
            refine then_n ?_
            refine swp_cond (b := _) rfl (fun h135 => ?_) (fun h135 => ?_)
            · skip   -- 135 T
              have h135' : l.length = 2 := by have := of_decide_eq_true h135; omega
              obtain ⟨c, d, hlc⟩ : ∃ c d, l = [c, d] := by
                match l, h135' with
                | [c, d], _ => exact ⟨c, d, rfl⟩
              obtain ⟨kc, pb, po, pc, rfl, hkc, hpv, hpc⟩ := at_nat rl' hin (i := 0) (by rw [hlc]; rfl)
              obtain ⟨kd, pb2, po2, pc2, rfl, hkd, hpv2, hpc2⟩ := at_nat rl' hin (i := 1) (by rw [hlc]; rfl)
              obtain ⟨t1, t2, t3⟩ := q6 _ _ h51' hlc h56'
              obtain ⟨_, st2⟩ := virtV_steps W kc kd 300 (by decide)
              rw [show ((300 : Nat) : Int) = 300 from rfl] at st2
              obtain ⟨n1, n2, _, _⟩ := st2 t1
              refine swp_seq ?_
              refine swp_draw [4, 7] _ [] (by simp only [List.append_nil]; exact Ent.refl _) (by kernel_rfl) ?_
              refine d_pu 0 rfl (pu_move rfl) (by kernel_rfl) (by kernel_rfl) (by kernel_rfl) ?_
              refine d_pu 1 rfl (pu_iface rfl) (by kernel_rfl) (by kernel_rfl) (by kernel_rfl) ?_
              refine d_pu 2 rfl (pu_move rfl) (by kernel_rfl) (by kernel_rfl) (by kernel_rfl) ?_
              refine d_pu 3 rfl (pu_indexAddr (po + 0 * 1) (congrArg some hpv) rfl (by omega) (by omega) rfl) (by kernel_rfl) (by kernel_rfl) (by kernel_rfl) ?_
              refine d_rd 4 rfl (rd_ro rfl hpc) rfl (by kernel_rfl) (by kernel_rfl) (by kernel_rfl) ?_
              refine d_pu 5 rfl (pu_move rfl) (by kernel_rfl) (by kernel_rfl) (by kernel_rfl) ?_
              refine d_pu 6 rfl (pu_indexAddr (po2 + 1 * 1) (congrArg some hpv2) rfl (by omega) (by omega) rfl) (by kernel_rfl) (by kernel_rfl) (by kernel_rfl) ?_
              refine d_rd 7 rfl (rd_ro rfl hpc2) rfl (by kernel_rfl) (by kernel_rfl) (by kernel_rfl) ?_
              first | refine d_fint 8 rfl (by kernel_rfl) (by kernel_rfl) (ef_fn (virtual_spec W μ14 hW14 hn10 μ14 (Le.refl _) hT14 (lookS (lookS s7 i) j) 8195 (fun c => Nat.le_trans (hs7 c) (by omega)) (by omega) kc kd 300) rfl rfl (by repeat (first | exact Split.nil | (apply Split.cons; (repeat (first | with_reducible exact Take.here | apply Take.there)))))) ?_ | refine d_finf 8 rfl (by kernel_rfl) (by kernel_rfl) (ef_fn (virtual_spec W μ14 hW14 hn10 μ14 (Le.refl _) hT14 (lookS (lookS s7 i) j) 8195 (fun c => Nat.le_trans (hs7 c) (by omega)) (by omega) kc kd 300) rfl rfl (by repeat (first | exact Split.nil | (apply Split.cons; (repeat (first | with_reducible exact Take.here | apply Take.there)))))) ?_
              rintro v146 L1 ⟨uv, s15, μ15, h15, _, hu, rfl, rfl⟩
              refine swd_app ?_
              refine d_pu 9 rfl (pu_move rfl) (by kernel_rfl) (by kernel_rfl) (by kernel_rfl) ?_
              first | refine d_pu 10 rfl (pu_extractL rfl) (by kernel_rfl) (by kernel_rfl) (by kernel_rfl) ?_ | refine d_pu 10 rfl (pu_extract rfl rfl) (by kernel_rfl) (by kernel_rfl) (by kernel_rfl) ?_
              first | refine d_pu 11 rfl (pu_extractL rfl) (by kernel_rfl) (by kernel_rfl) (by kernel_rfl) ?_ | refine d_pu 11 rfl (pu_extract rfl rfl) (by kernel_rfl) (by kernel_rfl) (by kernel_rfl) ?_
              first | refine d_pu 12 rfl (pu_extractL rfl) (by kernel_rfl) (by kernel_rfl) (by kernel_rfl) ?_ | refine d_pu 12 rfl (pu_extract rfl rfl) (by kernel_rfl) (by kernel_rfl) (by kernel_rfl) ?_
              first | refine d_pu 13 rfl (pu_extractL rfl) (by kernel_rfl) (by kernel_rfl) (by kernel_rfl) ?_ | refine d_pu 13 rfl (pu_extract rfl rfl) (by kernel_rfl) (by kernel_rfl) (by kernel_rfl) ?_
              refine d_pu 14 rfl (pu_assign rfl) (by kernel_rfl) (by kernel_rfl) (by kernel_rfl) ?_
              refine d_pu 15 rfl (pu_assign rfl) (by kernel_rfl) (by kernel_rfl) (by kernel_rfl) ?_
              refine d_pu 16 rfl (pu_assign rfl) (by kernel_rfl) (by kernel_rfl) (by kernel_rfl) ?_
              refine d_pu 17 rfl (pu_assign rfl) (by kernel_rfl) (by kernel_rfl) (by kernel_rfl) ?_
              refine d_sub _ (.cons (t := 7) rfl (.cons (t := 8) rfl (.cons (t := 10) rfl (.cons (t := 12) rfl (.cons (t := 20) rfl (.cons (t := 22) rfl (.cons (t := 23) rfl .nil))))))) ?_
              first | refine d_nilt (by kernel_rfl) ?_ | refine d_nilf (by kernel_rfl) ?_
              refine then_n ?_
              refine swp_seq ?_
              refine swp_share_own (e := 52) (n := 2) (v := uv) (μ := μ15) (by repeat (first | exact Split.nil | (apply Split.cons; (repeat (first | with_reducible exact Take.here | apply Take.there))))) fun μ16 h16 ru => ?_
              have l16 := h15.trans h16
              refine swp_draw [4, 9] ([ro μ16]) ([W.A s15, blk b3 29 w.cells]) (Split.ent (by repeat (first | exact Split.nil | (apply Split.cons; (repeat (first | with_reducible exact Take.here | apply Take.there)))))) (by kernel_rfl) ?_
              refine d_pu 0 rfl (pu_move rfl) (by kernel_rfl) (by kernel_rfl) (by kernel_rfl) ?_
              refine d_pu 1 rfl (pu_move rfl) (by kernel_rfl) (by kernel_rfl) (by kernel_rfl) ?_
              refine d_pu 2 rfl (pu_move rfl) (by kernel_rfl) (by kernel_rfl) (by kernel_rfl) ?_
              refine d_pu 3 rfl (pu_indexAddr (po + 0 * 1) (congrArg some hpv) rfl (by omega) (by omega) rfl) (by kernel_rfl) (by kernel_rfl) (by kernel_rfl) ?_
              refine d_rd 4 rfl (rd_ro rfl (hpc.le l16)) rfl (by kernel_rfl) (by kernel_rfl) (by kernel_rfl) ?_
              refine d_pu 6 rfl (pu_move rfl) (by kernel_rfl) (by kernel_rfl) (by kernel_rfl) ?_
              refine d_pu 7 rfl (pu_move rfl) (by kernel_rfl) (by kernel_rfl) (by kernel_rfl) ?_
              refine d_pu 8 rfl (pu_indexAddr (po2 + 1 * 1) (congrArg some hpv2) rfl (by omega) (by omega) rfl) (by kernel_rfl) (by kernel_rfl) (by kernel_rfl) ?_
              refine d_rd 9 rfl (rd_ro rfl (hpc2.le l16)) rfl (by kernel_rfl) (by kernel_rfl) (by kernel_rfl) ?_
              refine d_eft 5 rfl (by kernel_rfl) (ef_fn (content_look W μ16 (hW14.le l16) s15 kc hkc) rfl rfl (by repeat (first | exact Split.nil | (apply Split.cons; (repeat (first | with_reducible exact Take.here | apply Take.there)))))) ?_
              rintro v157 L1 rfl
              refine ⟨_, ent_appC (Split.ent (by repeat (first | exact Split.nil | (apply Split.cons; (repeat (first | with_reducible exact Take.here | apply Take.there)))))), ?_⟩
              first | refine d_fint 10 rfl (by kernel_rfl) (by kernel_rfl) (ef_fn (content_look W μ16 (hW14.le l16) _ kd hkd) rfl rfl (by repeat (first | exact Split.nil | (apply Split.cons; (repeat (first | with_reducible exact Take.here | apply Take.there)))))) ?_ | refine d_finf 10 rfl (by kernel_rfl) (by kernel_rfl) (ef_fn (content_look W μ16 (hW14.le l16) _ kd hkd) rfl rfl (by repeat (first | exact Split.nil | (apply Split.cons; (repeat (first | with_reducible exact Take.here | apply Take.there)))))) ?_
              rintro v162 L1 rfl
              refine swd_app ?_
              refine d_share_own (e := 52) (n := 2) (v := v157) (μ := μ16) (by repeat (first | exact Split.nil | (apply Split.cons; (repeat (first | with_reducible exact Take.here | apply Take.there))))) fun μ17 h17 rc => ?_
              refine d_share_own (e := 52) (n := 2) (v := v162) (μ := μ17) (by repeat (first | exact Split.nil | (apply Split.cons; (repeat (first | with_reducible exact Take.here | apply Take.there))))) fun μ18 h18 rd => ?_
              first | refine d_fint 11 rfl (by kernel_rfl) (by kernel_rfl) (ef_fn (three_form μ18 uv v157 v162 (virtV W kc kd 300).1 (treeOf W.T kc) (treeOf W.T kd) (ru.le (h17.trans h18)) (rc.le h18) rd ⟨by have := hu.len; omega, by have := (vt_ok hW14 hkc).len; omega, by have := (vt_ok hW14 hkd).len; omega⟩ ⟨hu.u32, (vt_ok hW14 hkc).u32, (vt_ok hW14 hkd).u32⟩) rfl rfl (by repeat (first | exact Split.nil | (apply Split.cons; (repeat (first | with_reducible exact Take.here | apply Take.there)))))) ?_ | refine d_finf 11 rfl (by kernel_rfl) (by kernel_rfl) (ef_fn (three_form μ18 uv v157 v162 (virtV W kc kd 300).1 (treeOf W.T kc) (treeOf W.T kd) (ru.le (h17.trans h18)) (rc.le h18) rd ⟨by have := hu.len; omega, by have := (vt_ok hW14 hkc).len; omega, by have := (vt_ok hW14 hkd).len; omega⟩ ⟨hu.u32, (vt_ok hW14 hkc).u32, (vt_ok hW14 hkd).u32⟩) rfl rfl (by repeat (first | exact Split.nil | (apply Split.cons; (repeat (first | with_reducible exact Take.here | apply Take.there)))))) ?_
              rintro v163 L1 ⟨A9, k9, vc9, μ19, h19, rfl, rfl⟩
              refine swd_app ?_
              refine d_pu 12 rfl (pu_move rfl) (by kernel_rfl) (by kernel_rfl) (by kernel_rfl) ?_
              first | refine d_pu 13 rfl (pu_extractL rfl) (by kernel_rfl) (by kernel_rfl) (by kernel_rfl) ?_ | refine d_pu 13 rfl (pu_extract rfl rfl) (by kernel_rfl) (by kernel_rfl) (by kernel_rfl) ?_
              first | refine d_pu 14 rfl (pu_extractL rfl) (by kernel_rfl) (by kernel_rfl) (by kernel_rfl) ?_ | refine d_pu 14 rfl (pu_extract rfl rfl) (by kernel_rfl) (by kernel_rfl) (by kernel_rfl) ?_
              refine d_pu 15 rfl (pu_assign rfl) (by kernel_rfl) (by kernel_rfl) (by kernel_rfl) ?_
              refine d_pu 16 rfl (pu_assign rfl) (by kernel_rfl) (by kernel_rfl) (by kernel_rfl) ?_
              refine d_sub _ (.cons (t := 10) rfl (.cons (t := 12) rfl (.cons (t := 22) rfl (.cons (t := 23) rfl (.cons (t := 24) rfl .nil))))) ?_
              first | refine d_nilt (by kernel_rfl) ?_ | refine d_nilf (by kernel_rfl) ?_
              refine then_n ?_
              refine swp_seq ?_
              refine swp_share_own (e := 52) (n := 2) (v := .slice A9 (VM (virtV W kc kd 300).1 (treeOf W.T kc) (treeOf W.T kd)).length k9) (μ := μ19) (by repeat (first | exact Split.nil | (apply Split.cons; (repeat (first | with_reducible exact Take.here | apply Take.there))))) fun μ20 h20 rw20 => ?_
              have l20 : Le μ14 μ20 := l16.trans (h17.trans (h18.trans (h19.trans h20)))
              refine swp_region ?_
              refine s_pu (pu_move rfl) ?_
              refine s_pu (pu_eql rfl rfl) ?_
              refine s_pu (pu_move rfl) ?_
              refine s_split 168 rfl (fun h168 => ?_) (fun h168 => by rw [t1] at h168; exact absurd h168 (by decide))
              refine s_on rfl rfl ?_
              refine s_pu (pu_move rfl) ?_
              refine s_on rfl rfl ?_
              refine s_pu (pu_move rfl) ?_
              refine s_on rfl rfl ?_
              refine s_pu (pu_add_as ((virtV W kc kd 300).2.2.1 + 1) rfl rfl rfl (by omega) (by omega)) ?_
              refine s_on rfl rfl ?_
              refine s_pu (pu_eql rfl rfl) ?_
              first | refine s_pu (pu_pick_t rfl rfl) ?_ | refine s_pu (pu_pick_f rfl rfl) ?_
              refine s_pu (pu_move rfl) ?_
              refine s_split 174 rfl (fun h174 => ?_) (fun h174 => by exact absurd t2 (of_decide_eq_false h174))
              refine s_on rfl rfl ?_
              refine s_pu (pu_move rfl) ?_
              refine s_on rfl rfl ?_
              refine s_pu (pu_move rfl) ?_
              refine s_on rfl rfl ?_
              refine s_ef (ef_fn (same_spec μ20 tv _ V.1 (VM (virtV W kc kd 300).1 (treeOf W.T kc) (treeOf W.T kd)) (rt'.le l20) rw20) rfl rfl (by repeat (first | exact Split.nil | (apply Split.cons; (repeat (first | with_reducible exact Take.here | apply Take.there)))))) ?_
              rintro v177 L1 ⟨rfl, rfl⟩
              refine swl_app ?_
              first | refine s_pu (pu_pick_t rfl rfl) ?_ | refine s_pu (pu_pick_f rfl rfl) ?_
              refine s_pu (pu_assign rfl) ?_
              refine swl_sub _ (.cons (t := 6) rfl .nil) ?_
              refine swl_nil ?_
              refine then_n ?_
              refine swp_ret ?_
              refine block_r ?_
              refine then_r ?_
              refine done_ret [ro μ20] (.tmp rfl .nil) ⟨?_, μ20, [], lall.trans l20, rfl⟩ (by repeat (first | exact Split.nil | (apply Split.cons; (repeat (first | with_reducible exact Take.here | apply Take.there)))))
              show Value.bool (decide (V.1 = VM (virtV W kc kd 300).1 (VT W kc) (VT W kd))) = _
              rw [decide_eq_true t3]
            · skip   -- 135 F
              refine swp_skip ?_
              refine block_n ?_
              refine then_n ?_
              refine swp_seq ?_
              refine swp_region ?_
              refine s_pu (pu_move rfl) ?_
              refine s_pu (pu_move rfl) ?_
              refine s_pu (pu_len_row rl' rfl) ?_
              refine s_pu (pu_geq rfl rfl) ?_
              refine s_pu (pu_assign rfl) ?_
              refine swl_sub _ (.cons (t := 6) rfl .nil) ?_
              refine swl_nil ?_
              refine then_n ?_
              refine swp_ret ?_
              refine done_ret [ro μ14] (.tmp rfl .nil) ⟨?_, μ14, [], lall, rfl⟩ (by repeat (first | exact Split.nil | (apply Split.cons; (repeat (first | with_reducible exact Take.here | apply Take.there)))))
              show Value.bool (decide _) = _
              rw [decide_eq_true k3]
end SX
namespace Go.Proofs.YtkldhmbmahgnjaaDoor
open Go.ChangeShapes Go.WideShapes Go.ChangeAt Go.RowKit
theorem ownKnobF : ownKnob Tryd.prog.godebug = none := by kernel_rfl
theorem gTab : Tryd.prog.globalNamed "math/bits.deBruijn64tab" = some 1 := by kernel_rfl
theorem tTab : (Tryd.prog.globals[1]?).map (·.type) = some 186 := by kernel_rfl
theorem datum {H : Type} : (Rows.laid_math_bits_deBruijn64tab : DataW H) = .agg (Lib.deBruijn64tab.map fun n => .lit (.int .u8 (n : Nat))) := rfl
theorem tab_of {W : World} (h : laidMetH Tryd.prog Rows.vbaseStepsRow.laid W) : SX.RowAt (fun b => W.heap[b]?) 1 0 SX.tabV := by
  rw [MakeChecks.laidMetH_plain _ _ _ (by kernel_rfl)] at h
  obtain ⟨ps, ⟨g0, t0, cs0, f0, p0, q0, hg0, ht0, hv0, hd0, _, _⟩, _, _⟩ := h
  obtain rfl := Option.some.inj (gTab.symm.trans hg0)
  obtain rfl := Option.some.inj (tTab.symm.trans ht0)
  obtain ⟨xs, m, rfl, hx, _, hn, hel⟩ := DataW.trod_array Tryd.underlying186 hd0
  simp only [Prod.mk.injEq] at hx
  have hx1 := hx.1
  rw [datum] at hx1
  simp only [DataW.agg.injEq] at hx1
  have c5 : Tryd.prog.cellsOf 5 = 1 := by kernel_rfl
  have hlen : Lib.deBruijn64tab.length = 64 := rfl
  intro j u hj
  have hj64 : j < 64 := by
    have := (List.getElem?_eq_some_iff.1 hj).1
    simpa [SX.tabV, hlen] using this
  obtain ⟨k, hk⟩ : ∃ k, Lib.deBruijn64tab[j]? = some k := ⟨_, List.getElem?_eq_getElem (by omega)⟩
  have hu : u = .int .u8 (k : Nat) := by
    unfold SX.tabV at hj
    rw [List.getElem?_map, hk] at hj
    exact (Option.some.inj hj).symm
  obtain ⟨y, hy⟩ : ∃ y, xs[j]? = some y := ⟨_, List.getElem?_eq_getElem (by omega)⟩
  have h1 := hel j hj64
  rw [hy, c5, Nat.mul_one] at h1
  obtain ⟨n, e1, e2, _⟩ := DataW.trod_int Tryd.underlying5 h1
  have e3 : (xs.map (·.1))[j]? = some (.lit (.int .u8 n)) := by rw [List.getElem?_map, hy, e2]; rfl
  rw [← hx1, List.getElem?_map, hk] at e3
  have hnk : n = (k : Int) := by
    have := Option.some.inj e3
    simpa using this.symm
  have hc := World.var?_cell hg0 hv0 j
  have hcs : cs0[j]? = some (.int .u8 n) := by
    have : (cs0.toList.drop j)[0]? = some (.int .u8 n) := by
      have := congrArg (·[0]?) e1
      simpa [List.getElem?_take] using this
    rw [List.getElem?_drop, Nat.add_zero] at this
    simpa using this
  rw [hcs] at hc
  rw [Nat.zero_add, hu, ← hnk]
  exact (SX.spot_of_cell hc).2
theorem door_met (os : Os) (args : Array Value) : laidMetH Tryd.prog Rows.vbaseStepsRow.laid ((World.doorLaid Tryd.prog 400 os).forCall (fun _ _ => 0) ⟨#[], args, []⟩).memory :=
  laidMetH_of_parts3 (fuel := 8) (laidMet_of_run' 8 (by kernel_rfl) (by kernel_rfl)) (by kernel_rfl) (by kernel_rfl)
theorem wldT : SX.WldT Tryd.prog 29 22 43 3 23 33 52 9 24 26 27 4 where
  ok := ⟨_, _, _, _, _, _, _, _, _, _, Tryd.underlying29, Tryd.underlying26, Tryd.underlying52, ⟨rfl, rfl⟩, ⟨rfl, rfl⟩, ⟨rfl, rfl⟩, ⟨rfl, rfl⟩, ⟨rfl, rfl⟩, ⟨rfl, rfl⟩, ⟨rfl, rfl⟩, ⟨rfl, rfl⟩, ⟨rfl, rfl⟩, ⟨rfl, rfl⟩⟩
  uG := Tryd.underlying22
  uS := Tryd.underlying43
  uI := Tryd.underlying3
  uTs := Tryd.underlying23
  uT := Tryd.underlying33
  us := Tryd.underlying9
  uu := Tryd.underlying24
  uBs := Tryd.underlying27
  uB := Tryd.underlying4
  c := ⟨by kernel_rfl, by kernel_rfl, by kernel_rfl, by kernel_rfl, by kernel_rfl, by kernel_rfl, by kernel_rfl, by kernel_rfl, by kernel_rfl, by kernel_rfl, by kernel_rfl, by kernel_rfl⟩
end Go.Proofs.YtkldhmbmahgnjaaDoor
