/- A part of the proof: walks of the program's functions, and the rules by which they go. -/
import Derived.Test.YtkldhmbmahgnjaaDoorB98e27aa7
import Derived.Test.YtkldhmbmahgnjaaDoorB06a2a5ea
import Derived.Test.YtkldhmbmahgnjaaDoorB5c872605
import Derived.Test.YtkldhmbmahgnjaaDoorB02e9fa8c
import Derived.Test.YtkldhmbmahgnjaaDoorB2fe6d66a
import Derived.Test.YtkldhmbmahgnjaaDoorB2efceca2
import Derived.Test.YtkldhmbmahgnjaaDoorRows
import Derived.ProofKit
import Derived.LaidMore
import Derived.OpenShut
import Derived.Stop.Joined
namespace SX
open Go Go.Proofs
theorem gens_row {g : List (List Int)} {gs : List Int} (h : moreG [] g = some gs) {i : Nat} {r : List Int} (hi : g[i]? = some r) : r.length ≤ i := by
  obtain ⟨h1, h2⟩ := okRow_iff.1 (gens_at h hi).2
  have h3 := nodup_in (U := (List.range i).map fun k : Nat => (k : Int)) h2 fun p hp => List.mem_map.2 ⟨p.toNat, List.mem_range.2 (by have := h1 p hp; omega), by have := h1 p hp; omega⟩
  rwa [List.length_map, List.length_range] at h3
theorem more_row {G : List (Value × List Int)} {gs : List Int} (h : moreG [] (nums G) = some gs) {x : Value × List Int} (hx : x ∈ G) : x.2.length ≤ G.length := by
  obtain ⟨i, hi⟩ := List.getElem?_of_mem hx
  have hlt := (List.getElem?_eq_some_iff.1 hi).1
  have := gens_row h (i := i) (r := x.2) (by rw [List.getElem?_map, hi]; rfl)
  omega
set_option maxHeartbeats 2000000 in
theorem goodw_spec (μ : PH) (v : Value) (G : List (Value × List Int)) (mo : Nat) (kn : Int) (hG : Graph μ v G) (hmo : mo ≤ 1048576) :
  Spec Tryd.prog 19 [v, .int .i64 (mo : Nat), .int .i64 kn] [ro μ] (fun r L => ∃ μ', Le μ μ' ∧
   ((¬ chkFrom 0 (nums (G.take (min G.length mo))) = 0 ∧ r = .pointer none ∧ L = [ro μ'])
    ∨ ∃ p v' vn gs, r = .pointer (some ⟨p, 0, none⟩) ∧ Graph μ' v' (G.take (min G.length mo)) ∧ moreG [] (nums (G.take (min G.length mo))) = some gs ∧ Row μ' vn 1 (cutG kn.toNat gs).length ((cutG kn.toNat gs).flatMap (icsk .i64)) ∧ L = [gA p v' vn (min G.length mo) noAsk, ro μ'])) := by
 refine Spec.of 42 Tryd.func19 rfl rfl rfl ?_
 refine swp_seq ?_
 refine swp_region ?_
 refine s_pu (pu_assign rfl) ?_
 refine swl_sub _ (.cons (t := 0) rfl (.cons (t := 1) rfl (.cons (t := 2) rfl .nil))) ?_
 refine swl_nil ?_
 refine then_n ?_
 refine swp_seq ?_
 obtain ⟨v', hG1, hsl⟩ := graph_take (P := Tryd.prog) (tG := 22) hG (min G.length mo) (Nat.min_le_left _ _)
 have hmn : (min (G.length : Int) (mo : Int)) = ((min G.length mo : Nat) : Int) := by omega
 have hlen1 : (G.take (min G.length mo)).length = min G.length mo := by rw [List.length_take]; omega
 have hml : min G.length mo ≤ 1048576 := by omega
 generalize hm : min G.length mo = m at *
 generalize G.take m = Gm at *
 refine swp_region ?_
 refine s_pu (pu_move rfl) ?_
 refine s_pu (pu_move rfl) ?_
 refine s_pu (pu_len_row hG.1 rfl) ?_
 refine s_pu (pu_move rfl) ?_
 refine s_pu (pu_min2 rfl rfl) ?_
 rw [hmn]
 refine s_pu (hsl _ _ _ .i64 _ rfl rfl rfl) ?_
 refine s_pu (pu_assign rfl) ?_
 refine swl_sub _ (.cons (t := 0) rfl (.cons (t := 2) rfl .nil)) ?_
 refine swl_nil ?_
 refine then_n ?_
 refine swp_seq ?_
 refine swp_seq ?_
 refine swp_region ?_
 refine s_pu (pu_move rfl) ?_
 refine s_ef (ef_fn (rcheck_spec μ v' Gm hG1 (by omega)) rfl rfl (by repeat (first | exact Split.nil | (apply Split.cons; (repeat (first | with_reducible exact Take.here | apply Take.there)))))) ?_
 rintro v17 L1 ⟨rfl, rfl⟩
 refine swl_app ?_
 refine s_pu (pu_neq rfl rfl) ?_
 refine swl_sub _ (.cons (t := 0) rfl (.cons (t := 2) rfl (.cons (t := 18) rfl .nil))) ?_
 refine swl_nil ?_
 refine then_n ?_
 refine swp_cond (b := _) rfl (fun h18 => ?_) (fun h18 => ?_)
 ·skip
  have hc : ¬ chkFrom 0 (nums Gm) = 0 := by simpa using h18
  refine swp_seq ?_
  refine swp_region ?_
  refine s_pu (pu_assign rfl) ?_
  refine swl_sub _ (.cons (t := 6) rfl .nil) ?_
  refine swl_nil ?_
  refine then_n ?_
  refine swp_ret ?_
  refine then_r ?_
  exact done_ret [ro μ] (.tmp rfl .nil) ⟨μ, Le.refl _, .inl ⟨hc, rfl, rfl⟩⟩ (by repeat (first | exact Split.nil | (apply Split.cons; (repeat (first | with_reducible exact Take.here | apply Take.there)))))
 ·skip
  have hc : chkFrom 0 (nums Gm) = 0 := by simpa using h18
  obtain ⟨a, ha⟩ : ∃ a, moreG [] (nums Gm) = some a := by
   have hs : (moreG [] (nums Gm)).isSome = true ↔ chkFrom 0 (nums Gm) = 0 := moreG_chk (all := [])
   exact Option.isSome_iff_exists.1 (hs.2 hc)
  have hrows1 : ∀ x ∈ Gm, x.2.length ≤ 1048576 := fun x hx => by
   have := more_row ha hx
   omega
  have hal : a.length = m := by rw [gens_len ha, List.length_map, hlen1]
  have hyes := moreL_some ha
  refine swp_skip ?_
  refine then_n ?_
  refine swp_seq ?_
  refine swp_region ?_
  refine s_pu (pu_move rfl) ?_
  refine s_ef (ef_fn (rall_spec μ v' Gm hG1 (by omega) hrows1) rfl rfl (by repeat (first | exact Split.nil | (apply Split.cons; (repeat (first | with_reducible exact Take.here | apply Take.there)))))) ?_
  rintro v21 L1 ⟨lv, rfl, rfl⟩
  refine swl_app ?_
  rw [hyes.1, hyes.2, show a.drop ([] : List Int).length = a from rfl]
  refine swl_fact (fun m h => own_shape .here h) fun hs1 => ?_
  have hform := shape_len hs1
  refine s_pu (pu_move rfl) ?_
  first | refine s_pu (pu_extractL rfl) ?_ | refine s_pu (pu_extract rfl rfl) ?_
  first | refine s_pu (pu_extractL rfl) ?_ | refine s_pu (pu_extract rfl rfl) ?_
  refine s_pu (pu_assign rfl) ?_
  refine s_pu (pu_assign rfl) ?_
  refine swl_sub _ (.cons (t := 0) rfl (.cons (t := 2) rfl (.cons (t := 7) rfl .nil))) ?_
  refine swl_nil ?_
  refine then_n ?_
  refine swp_seq ?_
  refine swp_seq ?_
  refine swp_region ?_
  refine s_pu (pu_move rfl) ?_
  refine s_pu (pu_max2 rfl rfl) ?_
  rw [show max kn 0 = ((kn.toNat : Nat) : Int) by omega]
  generalize kn.toNat = kk at *
  refine s_pu (pu_assign rfl) ?_
  refine swl_sub _ (.cons (t := 0) rfl (.cons (t := 7) rfl (.cons (t := 9) rfl .nil))) ?_
  refine swl_nil ?_
  refine then_n ?_
  refine swp_block ?_
  rw [ncs_of, ncs_ext (d := fun j => if kk ≤ j ∧ j < kk then 1024 else a.getD j 0) (fun j _ => (if_neg (by omega)).symm)]
  refine swp_sub _ (.cons (t := 0) rfl (.cons (t := 7) rfl (.cons (t := 9) rfl .nil))) ?_
  refine swp_loop (ι := Nat) (fun i env L => env = [(0, v'), (7, lv), (9, .int .i64 (i : Nat))] ∧ L = [own 3 1 lv a.length (ncs a.length (fun j => if kk ≤ j ∧ j < i then 1024 else a.getD j 0)), ro μ] ∧ kk ≤ i) (fun i => a.length - i) kk ⟨rfl, rfl, Nat.le_refl _⟩ ?_
  rintro i env L ⟨rfl, rfl, hi⟩
  refine swp_seq ?_
  refine swp_seq ?_
  refine swp_region ?_
  refine s_pu (pu_move rfl) ?_
  refine s_pu (pu_move rfl) ?_
  refine s_pu (pu_len_own hform rfl) ?_
  refine s_pu (pu_lss rfl rfl) ?_
  refine swl_sub _ (.cons (t := 0) rfl (.cons (t := 7) rfl (.cons (t := 9) rfl (.cons (t := 29) rfl .nil)))) ?_
  refine swl_nil ?_
  refine then_n ?_
  refine swp_cond (b := _) rfl (fun h29 => ?_) (fun h29 => ?_)
  ·skip
   have h29' : i < a.length := by have := of_decide_eq_true h29; omega
   refine swp_own (fun h0 l0 _ => by omega) (fun b1 c1 ex1 hv1 w1 w2 w3 w4 => ?_)
   subst hv1
   refine swp_skip ?_
   refine then_n ?_
   refine swp_seq ?_
   refine swp_block ?_
   refine swp_region ?_
   refine s_pu (pu_move rfl) ?_
   refine s_pu (pu_move rfl) ?_
   refine s_pu (pu_indexAddr i rfl rfl (by omega) (by omega) (by omega)) ?_
   refine s_ef0 (ef_storeP rfl rfl rfl (by rw [List.length_append, ncs_len]; omega)) ?_
   refine swl_sub _ (.cons (t := 0) rfl (.cons (t := 7) rfl (.cons (t := 9) rfl .nil))) ?_
   rw [List.set_append_left (h := by rw [ncs_len]; exact h29'), ncs_set (d := fun j => if kk ≤ j ∧ j < i + 1 then 1024 else a.getD j 0) (fun j => by
    by_cases e : j = i
    ·subst e; rw [if_pos rfl, if_pos ⟨hi, Nat.lt_succ_self _⟩]
    ·rw [if_neg e]
     by_cases h : kk ≤ j ∧ j < i
     ·rw [if_pos h, if_pos (by omega)]
     ·rw [if_neg h, if_neg (by omega)])]
   refine swl_ent (own_close (n := 1) (by rw [ncs_len]; omega) w4 w1 w2) ?_
   refine swl_nil ?_
   refine block_n ?_
   refine then_n ?_
   refine swp_region ?_
   refine s_pu (pu_move rfl) ?_
   refine s_pu (pu_add_as ((i + 1 : Nat) : Int) rfl rfl (by omega) (by omega) (by omega)) ?_
   refine s_pu (pu_assign rfl) ?_
   refine swl_sub _ (.cons (t := 0) rfl (.cons (t := 7) rfl (.cons (t := 9) rfl .nil))) ?_
   refine swl_nil ?_
   exact then_n ⟨i + 1, ⟨rfl, rfl, by omega⟩, by omega⟩
  ·skip
   have h29' := of_decide_eq_false h29
   rw [ncs_ext (d := fun j => if j < kk then a.getD j 0 else 1024) (fun j hj => by
    by_cases h : j < kk
    ·rw [if_pos h, if_neg (by omega)]
    ·rw [if_neg h, if_pos (by omega)]), ← ncs_cut]
   have hcl := cutG_len kk a
   rw [← hcl]
   refine swp_share_own (μ := μ) (by repeat (first | exact Split.nil | (apply Split.cons; (repeat (first | with_reducible exact Take.here | apply Take.there))))) fun μ4 h4 r4 => ?_
   obtain ⟨A9, c9, rfl⟩ := r4.sl
   obtain ⟨A8, c8, rfl⟩ := hG1.1.sl
   refine swp_exit ?_
   refine then_x ?_
   refine then_x ?_
   refine block_hit rfl ?_
   refine then_n ?_
   refine swp_seq ?_
   refine swp_region ?_
   refine s_pu (pu_move rfl) ?_
   refine s_pu (pu_move rfl) ?_
   refine s_pu (pu_move rfl) ?_
   refine s_pu (pu_len_row hG1.1 rfl) ?_
   refine s_ef (ef_make1 m rfl rfl (by rw [hlen1]) (by omega) (by simp only [maxLen]; omega)) ?_
   rintro b39
   skip
   refine s_pu (pu_bld (qs := [(0, _), (1, _), (2, _)]) rfl) ?_
   refine s_ef (ef_box rfl rfl) ?_
   intro b41
   refine s_pu (pu_assign rfl) ?_
   refine swl_sub _ (.cons (t := 6) rfl .nil) ?_
   rw [show List.replicate m (Value.int .i64 0) = askV m noAsk from ncs_zero m]
   refine swl_ent (Split.ent' (K := [blk b39 3 (askV m noAsk), blk b41 45 [.slice A8 Gm.length c8, .slice A9 (cutG kk a).length c9, .slice (some ⟨b39, 0, none⟩) m m], ro μ4]) (by repeat (first | exact Split.nil | (apply Split.cons; (repeat (first | with_reducible exact Take.here | apply Take.there)))))) ?_
   refine swl_ent (own_full (by unfold askV; rw [ncs_len]) (by simp only [maxLen]; omega)) ?_
   refine swl_nil ?_
   refine then_n ?_
   refine swp_ret ?_
   refine done_retE [gA b41 (.slice A8 Gm.length c8) (.slice A9 (cutG kk a).length c9) m noAsk, ro μ4] (.tmp rfl .nil) ⟨μ4, h4, .inr ⟨b41, _, _, a, rfl, hG1.le h4, ha, r4, rfl⟩⟩ ?_
   exact (Ent.perm (.swap _ _ _)).trans gA_close
theorem good2w_spec (μ : PH) (v : Value) (G : List (Value × List Int)) (mo : Nat) (kn : Int) (hG : Graph μ v G) (hmo : mo ≤ 65536) :
    Spec Tryd.prog 19 [v, .int .i64 (mo : Nat), .int .i64 kn] [ro μ] (fun r L => ∃ μ' o A, Le μ μ' ∧ r = .pointer o ∧ L = [A, ro μ'] ∧ GoodIs G mo kn μ' o A) := by
  refine Spec.ent3 (goodw_spec μ v G mo kn hG (by omega)) fun r L ⟨μ', h1, h2⟩ => ?_
  have hl : (G.take (min G.length mo)).length = min G.length mo := by rw [List.length_take]; omega
  rcases h2 with ⟨k1, rfl, rfl⟩ | ⟨p, v', vn, gs, rfl, k1, k2, k3, rfl⟩
  · exact ⟨_, star_close (K := []) (L := [ro μ']), μ', none, star [], h1, rfl, rfl, .inl ⟨rfl, k1⟩⟩
  · exact ⟨_, Ent.refl _, μ', _, _, h1, rfl, rfl, .inr ⟨p, v', vn, gs, rfl, ⟨k1, k2, k3, by omega, fun x hx => by have := more_row k2 hx; omega⟩, by rw [hl]⟩⟩
end SX
namespace SX
open Go Go.Proofs
/-- the world of a law -/
structure Wld where
  vG : Value
  vT : Value
  vF : Value
  S : Sett
  G : List (Value × List Int)
  T : List (Value × List En)
  F : List Bool
abbrev Wld.cells (w : Wld) : List Value := [w.vG, w.vT, .int .i64 w.S.ha, .int .i64 w.S.pe, .int .i64 w.S.mo, .int .u32 (w.S.seed.toNat : Nat), w.vF]
structure Wld.Ok (w : Wld) (μ : PH) : Prop where
  hG : Graph μ w.vG w.G
  hT : Row μ w.vT 1 w.T.length (w.T.flatMap gT)
  hTr : ∀ t ∈ w.T, Row μ t.1 2 t.2.length (ens t.2) ∧ U32s t.2
  hF : Row μ w.vF 1 w.F.length (w.F.map .bool)
theorem Wld.Ok.le {w : Wld} {μ μ' : PH} (h : w.Ok μ) (k : Le μ μ') : w.Ok μ' := ⟨h.hG.le k, h.hT.le k, fun t ht => ⟨(h.hTr t ht).1.le k, (h.hTr t ht).2⟩, h.hF.le k⟩
def ofT (T : List (Value × List En)) (c : Nat) : List En := if T.length = 0 then [] else goodE ((T[c % T.length]?).getD (.slice none 0 0, [])).2
theorem ofT_ok {T : List (Value × List En)} (hu : ∀ t ∈ T, U32s t.2) (c : Nat) : (ofT T c).length ≤ 100 ∧ GoodT (ofT T c) ∧ U32s (ofT T c) := by
  unfold ofT
  split
  · exact ⟨Nat.zero_le _, good_nil, fun _ h => by cases h⟩
  · have hm : c % T.length < T.length := Nat.mod_lt _ (by omega)
    rw [List.getElem?_eq_getElem hm]
    exact ⟨goodE_len _, good_good _, u32s_good (hu _ (List.getElem_mem hm))⟩
theorem fil_zero (n : Nat) : ((List.replicate n ()).flatMap fun _ => [Value.int .i64 0, .string ⟨#[]⟩]) = (List.replicate n ((0, []) : Fil)).flatMap encF := by
  induction n with
  | zero => rfl
  | succ n ih => rw [List.replicate_succ, List.replicate_succ, List.flatMap_cons, List.flatMap_cons, ih]; rfl
theorem bcn_zero (n : Nat) : ((List.replicate n ()).flatMap fun _ => [Value.bool false]) = bcn n fun _ => false := by
  have e : ∀ l : List Nat, ((List.replicate l.length ()).flatMap fun _ => [Value.bool false]) = l.map fun _ => Value.bool false := fun l => by
    induction l with
    | nil => rfl
    | cons a l ih => rw [List.length_cons, List.replicate_succ, List.flatMap_cons, ih]; rfl
  have := e (List.range n)
  rwa [List.length_range] at this
theorem ro_less {μ μ' : PH} (h : Le μ μ') {L : List Assn} : Ent (ro μ' :: L) (ro μ :: L) := Ent.imp fun _ hm b o hb => hm b o (h b o hb)
/-- a filter, and nothing in memory -/
theorem sof2_spec (μ : PH) (s : Sett) (va vb : Value) (a b : List En) (ha : Row μ va 2 a.length (ens a)) (hb : Row μ vb 2 b.length (ens b)) (hsz : a.length ≤ 100 ∧ b.length ≤ 100) (ga : GoodT a) (gb : GoodT b) :
    Spec Tryd.prog 21 [.agg (encS s).toArray, va, vb] [ro μ] (fun r L => ∃ (f : Fil) (e : Int), r = .tuple #[.agg (encF f).toArray, .int .i64 e] ∧ f.2.length ≤ 1048576 ∧ L = [ro μ]) :=
  Spec.ent3 (sof_spec μ s va vb a b ha hb hsz ga gb) fun r L ⟨f, e, μ', h1, h2, h3, _, h4⟩ => ⟨[ro μ], by rw [h4]; exact ro_less h1, f, e, h2, h3, rfl⟩
def st00 : HSt := ⟨noAsk, fun _ => false, fun _ => false⟩
set_option maxHeartbeats 8000000 in
theorem of_specC (w : Wld) (μ : PH) (h : w.Ok μ) (mo : Nat) (hmo : mo ≤ 10000) :
  Spec Tryd.prog 9 [.agg w.cells.toArray, .int .i64 (mo : Nat)] [ro μ] (fun r L => ∃ μ', Le μ μ' ∧
   ((¬ chkFrom 0 (nums (w.G.take (min w.G.length mo))) = 0 ∧ r = .pointer none ∧ L = [ro μ']) ∨
    (chkFrom 0 (nums (w.G.take (min w.G.length mo))) = 0 ∧ ∃ W : HW, r = .pointer (some ⟨W.p, 0, none⟩) ∧ W.Ok μ' ∧ W.G = w.G.take (min w.G.length mo) ∧ W.n = min w.G.length mo ∧ W.T.map (·.2) = (List.range W.n).map (ofT w.T) ∧ L = [W.A st00, ro μ']))) := by
 refine Spec.of 113 Tryd.func9 rfl rfl rfl ?_
 refine swp_seq ?_
 refine swp_region ?_
 refine s_ef (ef_box rfl rfl) ?_
 intro b2
 refine s_pu (pu_assign rfl) ?_
 refine swl_sub _ (.cons (t := 1) rfl (.cons (t := 2) rfl .nil)) ?_
 refine swl_nil ?_
 refine then_n ?_
 refine swp_seq ?_
 refine swp_region ?_
 first | refine s_pu (pu_fieldAddr0 rfl) ?_ | refine s_pu (pu_fieldAddr rfl) ?_
 refine s_rd (rd_load rfl rfl) ?_
 refine s_pu (pu_move rfl) ?_
 refine s_pu (pu_move rfl) ?_
 refine s_ef (ef_fn (good2w_spec μ w.vG w.G mo mo h.hG (by omega)) rfl rfl (by repeat (first | exact Split.nil | (apply Split.cons; (repeat (first | with_reducible exact Take.here | apply Take.there)))))) ?_
 rintro v15 L1 ⟨μ1, o, A, h1, rfl, rfl, hp⟩
 skip
 refine s_pu (pu_assign rfl) ?_
 refine swl_sub _ (.cons (t := 2) rfl (.cons (t := 5) rfl .nil)) ?_
 refine swl_nil ?_
 refine then_n ?_
 refine swp_seq ?_
 refine swp_seq ?_
 refine swp_region ?_
 refine s_pu (pu_move rfl) ?_
 refine s_pu (pu_ptr_eq_nil rfl rfl) ?_
 refine swl_sub _ (.cons (t := 2) rfl (.cons (t := 5) rfl (.cons (t := 17) rfl .nil))) ?_
 refine swl_nil ?_
 refine then_n ?_
 refine swp_cond (b := _) rfl (fun h17 => ?_) (fun h17 => ?_)
 ·skip
  refine swp_seq ?_
  refine swp_region ?_
  refine s_pu (pu_assign rfl) ?_
  refine swl_sub _ (.cons (t := 4) rfl .nil) ?_
  refine swl_nil ?_
  refine then_n ?_
  refine swp_ret ?_
  refine then_r ?_
  rcases hp with ⟨rfl, k1⟩ | ⟨p, v', vn, gs, rfl, _⟩
  ·exact done_retE [ro μ1] (.tmp rfl .nil) ⟨μ1, h1, .inl ⟨k1, rfl, rfl⟩⟩ (show Ent (A :: ro μ1 :: _) _ from Ent.drop.trans (Split.ent' (by repeat (first | exact Split.nil | (apply Split.cons; (repeat (first | with_reducible exact Take.here | apply Take.there)))))))
  ·cases h17
 ·skip
  obtain ⟨p, v', vn, gs, rfl, hGS, rfl⟩ : ∃ p v' vn gs, o = some ⟨p, 0, none⟩ ∧ GS μ1 v' vn (w.G.take (min w.G.length mo)) gs mo ∧ A = gA p v' vn (w.G.take (min w.G.length mo)).length noAsk := by
   rcases hp with ⟨rfl, _⟩ | k
   ·cases h17
   ·exact k
  clear hp
  have hgood := gens_good hGS.ha
  have hck : chkFrom 0 (nums (w.G.take (min w.G.length mo))) = 0 := (moreG_chk (all := [])).1 (by rw [hGS.ha]; rfl)
  have hGn : (w.G.take (min w.G.length mo)).length = min w.G.length mo := by rw [List.length_take]; omega
  have hn10 : (w.G.take (min w.G.length mo)).length ≤ 10000 := by omega
  generalize w.G.take (min w.G.length mo) = G at *
  obtain ⟨n, hn⟩ : ∃ n, n = G.length := ⟨_, rfl⟩
  have hG1 := hGS.hG
  have hT1 := h.hT.le h1
  have hF1 := h.hF.le h1
  have hTs := hT1.small
  have hFs := hF1.small
  refine swp_ex fun va => ?_
  simp only [List.append_eq, List.cons_append, List.nil_append]
  obtain ⟨AG, cG, hvG⟩ : ∃ A c, v' = .slice A n c := by obtain ⟨_, A, c, e, _⟩ := hG1.1; exact ⟨A, c, by rw [hn]; exact e⟩
  rw [← hn]
  refine swp_skip ?_
  refine then_n ?_
  refine swp_seq ?_
  refine swp_region ?_
  refine s_pu (pu_move rfl) ?_
  first | refine s_pu (pu_nilCheck rfl) ?_ | refine s_pu (pu_nilCheck_fn rfl) ?_ | refine s_pu (pu_nilCheck_if rfl) ?_
  first | refine s_pu (pu_fieldAddr0 rfl) ?_ | refine s_pu (pu_fieldAddr rfl) ?_
  refine s_rd (rd_load rfl rfl) ?_
  refine s_pu (pu_len (congrArg some hvG)) ?_
  refine s_pu (pu_assign rfl) ?_
  refine swl_sub _ (.cons (t := 2) rfl (.cons (t := 5) rfl (.cons (t := 6) rfl .nil))) ?_
  refine swl_nil ?_
  refine then_n ?_
  refine swp_cut (fun env L => ∃ (b33 b27 : Nat) (vl vm : Value), Sub env [(2, .pointer (some ⟨b2, 0, none⟩)), (5, .pointer (some ⟨p, 0, none⟩)), (6, .int .i64 (n : Nat)), (7, .pointer (some ⟨b33, 0, none⟩))] ∧ Ent L [blk b33 42 [.pointer (some ⟨p, 0, none⟩), .slice none 0 0, .int .i64 w.S.ha, .int .i64 w.S.pe, .int .i64 w.S.mo, .int .u32 (w.S.seed.toNat : Nat), .slice (some ⟨b27, 0, none⟩) n n, vl, vm], own 72 2 (.slice (some ⟨b27, 0, none⟩) n n) n ((List.replicate n ()).flatMap fun _ => [.int .i64 0, .string ⟨#[]⟩]), own 4 1 vl n ((List.replicate n ()).flatMap fun _ => [.bool false]), own 4 1 vm n ((List.replicate n ()).flatMap fun _ => [.bool false]), blk b2 29 w.cells, blk p 45 [v', vn, va], own 3 1 va n (askV n noAsk), ro μ1]) ?_ ?_
  ·skip
   refine swp_draw [2] _ [] (by simp only [List.append_nil]; exact Ent.refl _) (by kernel_rfl) ?_
   refine d_pu 0 rfl (pu_move rfl) (by kernel_rfl) (by kernel_rfl) (by kernel_rfl) ?_
   first | refine d_pu 1 rfl (pu_fieldAddr0 rfl) (by kernel_rfl) (by kernel_rfl) (by kernel_rfl) ?_ | refine d_pu 1 rfl (pu_fieldAddr rfl) (by kernel_rfl) (by kernel_rfl) (by kernel_rfl) ?_
   first | refine d_rd 2 rfl (rd_loadW rfl rfl) rfl (by kernel_rfl) (by kernel_rfl) (by kernel_rfl) ?_ | refine d_rd 2 rfl (rd_loadX rfl rfl rfl) rfl (by kernel_rfl) (by kernel_rfl) (by kernel_rfl) ?_
   refine d_pu 3 rfl (pu_move rfl) (by kernel_rfl) (by kernel_rfl) (by kernel_rfl) ?_
   refine d_pu 5 rfl (pu_move rfl) (by kernel_rfl) (by kernel_rfl) (by kernel_rfl) ?_
   refine d_pu 7 rfl (pu_move rfl) (by kernel_rfl) (by kernel_rfl) (by kernel_rfl) ?_
   refine d_amb [4, 6, 8] (by kernel_rfl) rfl ⟨?_, ?_, ?_⟩
   ·skip
    refine dA_ef 4 rfl GOn.none (ef_makeN n rfl rfl rfl (by omega) (by simp only [maxLen]; omega)) ?_
    rintro b27
    refine ⟨_, Split.ent (by repeat (first | exact Split.nil | (apply Split.cons; (repeat (first | with_reducible exact Take.here | apply Take.there))))), ?_⟩
    refine d_amb [6, 8] (by kernel_rfl) rfl ⟨?_, ?_⟩
    ·skip
     refine dA_ef 6 rfl GOn.none (ef_makeN n rfl rfl rfl (by omega) (by simp only [maxLen]; omega)) ?_
     rintro b29
     refine ⟨_, Split.ent (by repeat (first | exact Split.nil | (apply Split.cons; (repeat (first | with_reducible exact Take.here | apply Take.there))))), ?_⟩
     refine d_eft 8 rfl (by kernel_rfl) (ef_makeN n rfl rfl rfl (by omega) (by simp only [maxLen]; omega)) ?_
     rintro b31
     refine ⟨_, Split.ent (by repeat (first | exact Split.nil | (apply Split.cons; (repeat (first | with_reducible exact Take.here | apply Take.there))))), ?_⟩
     simp only [show List.take 4 (List.drop 2 w.cells) = [.int .i64 w.S.ha, .int .i64 w.S.pe, .int .i64 w.S.mo, .int .u32 (w.S.seed.toNat : Nat)] from rfl]
     refine d_pu 9 rfl (pu_bld (qs := [(0, _), (2, _), (3, _), (4, _), (5, _)]) rfl) (by kernel_rfl) (by kernel_rfl) (by kernel_rfl) ?_
     first | refine d_fint 10 rfl (by kernel_rfl) (by kernel_rfl) (ef_box rfl rfl) ?_ | refine d_finf 10 rfl (by kernel_rfl) (by kernel_rfl) (ef_box rfl rfl) ?_
     intro b33
     refine d_pu 11 rfl (pu_assign rfl) (by kernel_rfl) (by kernel_rfl) (by kernel_rfl) ?_
     refine d_sub _ (.cons (t := 2) rfl (.cons (t := 5) rfl (.cons (t := 6) rfl (.cons (t := 7) rfl .nil)))) ?_
     first | refine d_nilt (by kernel_rfl) ?_ | refine d_nilf (by kernel_rfl) ?_
     exact then_n ⟨b33, b27, _, _, ⟨rfl, rfl, rfl, rfl, trivial⟩, Split.ent' (by repeat (first | exact Split.nil | (apply Split.cons; (repeat (first | with_reducible exact Take.here | apply Take.there)))))⟩
    ·skip
     refine dA_ef 8 rfl GOn.none (ef_makeN n rfl rfl rfl (by omega) (by simp only [maxLen]; omega)) ?_
     rintro b31
     refine ⟨_, Split.ent (by repeat (first | exact Split.nil | (apply Split.cons; (repeat (first | with_reducible exact Take.here | apply Take.there))))), ?_⟩
     refine d_eft 6 rfl (by kernel_rfl) (ef_makeN n rfl rfl rfl (by omega) (by simp only [maxLen]; omega)) ?_
     rintro b29
     refine ⟨_, Split.ent (by repeat (first | exact Split.nil | (apply Split.cons; (repeat (first | with_reducible exact Take.here | apply Take.there))))), ?_⟩
     simp only [show List.take 4 (List.drop 2 w.cells) = [.int .i64 w.S.ha, .int .i64 w.S.pe, .int .i64 w.S.mo, .int .u32 (w.S.seed.toNat : Nat)] from rfl]
     refine d_pu 9 rfl (pu_bld (qs := [(0, _), (2, _), (3, _), (4, _), (5, _)]) rfl) (by kernel_rfl) (by kernel_rfl) (by kernel_rfl) ?_
     first | refine d_fint 10 rfl (by kernel_rfl) (by kernel_rfl) (ef_box rfl rfl) ?_ | refine d_finf 10 rfl (by kernel_rfl) (by kernel_rfl) (ef_box rfl rfl) ?_
     intro b33
     refine d_pu 11 rfl (pu_assign rfl) (by kernel_rfl) (by kernel_rfl) (by kernel_rfl) ?_
     refine d_sub _ (.cons (t := 2) rfl (.cons (t := 5) rfl (.cons (t := 6) rfl (.cons (t := 7) rfl .nil)))) ?_
     first | refine d_nilt (by kernel_rfl) ?_ | refine d_nilf (by kernel_rfl) ?_
     exact then_n ⟨b33, b27, _, _, ⟨rfl, rfl, rfl, rfl, trivial⟩, Split.ent' (by repeat (first | exact Split.nil | (apply Split.cons; (repeat (first | with_reducible exact Take.here | apply Take.there)))))⟩
   ·skip
    refine dA_ef 6 rfl GOn.none (ef_makeN n rfl rfl rfl (by omega) (by simp only [maxLen]; omega)) ?_
    rintro b29
    refine ⟨_, Split.ent (by repeat (first | exact Split.nil | (apply Split.cons; (repeat (first | with_reducible exact Take.here | apply Take.there))))), ?_⟩
    refine d_amb [4, 8] (by kernel_rfl) rfl ⟨?_, ?_⟩
    ·skip
     refine dA_ef 4 rfl GOn.none (ef_makeN n rfl rfl rfl (by omega) (by simp only [maxLen]; omega)) ?_
     rintro b27
     refine ⟨_, Split.ent (by repeat (first | exact Split.nil | (apply Split.cons; (repeat (first | with_reducible exact Take.here | apply Take.there))))), ?_⟩
     refine d_eft 8 rfl (by kernel_rfl) (ef_makeN n rfl rfl rfl (by omega) (by simp only [maxLen]; omega)) ?_
     rintro b31
     refine ⟨_, Split.ent (by repeat (first | exact Split.nil | (apply Split.cons; (repeat (first | with_reducible exact Take.here | apply Take.there))))), ?_⟩
     simp only [show List.take 4 (List.drop 2 w.cells) = [.int .i64 w.S.ha, .int .i64 w.S.pe, .int .i64 w.S.mo, .int .u32 (w.S.seed.toNat : Nat)] from rfl]
     refine d_pu 9 rfl (pu_bld (qs := [(0, _), (2, _), (3, _), (4, _), (5, _)]) rfl) (by kernel_rfl) (by kernel_rfl) (by kernel_rfl) ?_
     first | refine d_fint 10 rfl (by kernel_rfl) (by kernel_rfl) (ef_box rfl rfl) ?_ | refine d_finf 10 rfl (by kernel_rfl) (by kernel_rfl) (ef_box rfl rfl) ?_
     intro b33
     refine d_pu 11 rfl (pu_assign rfl) (by kernel_rfl) (by kernel_rfl) (by kernel_rfl) ?_
     refine d_sub _ (.cons (t := 2) rfl (.cons (t := 5) rfl (.cons (t := 6) rfl (.cons (t := 7) rfl .nil)))) ?_
     first | refine d_nilt (by kernel_rfl) ?_ | refine d_nilf (by kernel_rfl) ?_
     exact then_n ⟨b33, b27, _, _, ⟨rfl, rfl, rfl, rfl, trivial⟩, Split.ent' (by repeat (first | exact Split.nil | (apply Split.cons; (repeat (first | with_reducible exact Take.here | apply Take.there)))))⟩
    ·skip
     refine dA_ef 8 rfl GOn.none (ef_makeN n rfl rfl rfl (by omega) (by simp only [maxLen]; omega)) ?_
     rintro b31
     refine ⟨_, Split.ent (by repeat (first | exact Split.nil | (apply Split.cons; (repeat (first | with_reducible exact Take.here | apply Take.there))))), ?_⟩
     refine d_eft 4 rfl (by kernel_rfl) (ef_makeN n rfl rfl rfl (by omega) (by simp only [maxLen]; omega)) ?_
     rintro b27
     refine ⟨_, Split.ent (by repeat (first | exact Split.nil | (apply Split.cons; (repeat (first | with_reducible exact Take.here | apply Take.there))))), ?_⟩
     simp only [show List.take 4 (List.drop 2 w.cells) = [.int .i64 w.S.ha, .int .i64 w.S.pe, .int .i64 w.S.mo, .int .u32 (w.S.seed.toNat : Nat)] from rfl]
     refine d_pu 9 rfl (pu_bld (qs := [(0, _), (2, _), (3, _), (4, _), (5, _)]) rfl) (by kernel_rfl) (by kernel_rfl) (by kernel_rfl) ?_
     first | refine d_fint 10 rfl (by kernel_rfl) (by kernel_rfl) (ef_box rfl rfl) ?_ | refine d_finf 10 rfl (by kernel_rfl) (by kernel_rfl) (ef_box rfl rfl) ?_
     intro b33
     refine d_pu 11 rfl (pu_assign rfl) (by kernel_rfl) (by kernel_rfl) (by kernel_rfl) ?_
     refine d_sub _ (.cons (t := 2) rfl (.cons (t := 5) rfl (.cons (t := 6) rfl (.cons (t := 7) rfl .nil)))) ?_
     first | refine d_nilt (by kernel_rfl) ?_ | refine d_nilf (by kernel_rfl) ?_
     exact then_n ⟨b33, b27, _, _, ⟨rfl, rfl, rfl, rfl, trivial⟩, Split.ent' (by repeat (first | exact Split.nil | (apply Split.cons; (repeat (first | with_reducible exact Take.here | apply Take.there)))))⟩
   ·skip
    refine dA_ef 8 rfl GOn.none (ef_makeN n rfl rfl rfl (by omega) (by simp only [maxLen]; omega)) ?_
    rintro b31
    refine ⟨_, Split.ent (by repeat (first | exact Split.nil | (apply Split.cons; (repeat (first | with_reducible exact Take.here | apply Take.there))))), ?_⟩
    refine d_amb [4, 6] (by kernel_rfl) rfl ⟨?_, ?_⟩
    ·skip
     refine dA_ef 4 rfl GOn.none (ef_makeN n rfl rfl rfl (by omega) (by simp only [maxLen]; omega)) ?_
     rintro b27
     refine ⟨_, Split.ent (by repeat (first | exact Split.nil | (apply Split.cons; (repeat (first | with_reducible exact Take.here | apply Take.there))))), ?_⟩
     refine d_eft 6 rfl (by kernel_rfl) (ef_makeN n rfl rfl rfl (by omega) (by simp only [maxLen]; omega)) ?_
     rintro b29
     refine ⟨_, Split.ent (by repeat (first | exact Split.nil | (apply Split.cons; (repeat (first | with_reducible exact Take.here | apply Take.there))))), ?_⟩
     simp only [show List.take 4 (List.drop 2 w.cells) = [.int .i64 w.S.ha, .int .i64 w.S.pe, .int .i64 w.S.mo, .int .u32 (w.S.seed.toNat : Nat)] from rfl]
     refine d_pu 9 rfl (pu_bld (qs := [(0, _), (2, _), (3, _), (4, _), (5, _)]) rfl) (by kernel_rfl) (by kernel_rfl) (by kernel_rfl) ?_
     first | refine d_fint 10 rfl (by kernel_rfl) (by kernel_rfl) (ef_box rfl rfl) ?_ | refine d_finf 10 rfl (by kernel_rfl) (by kernel_rfl) (ef_box rfl rfl) ?_
     intro b33
     refine d_pu 11 rfl (pu_assign rfl) (by kernel_rfl) (by kernel_rfl) (by kernel_rfl) ?_
     refine d_sub _ (.cons (t := 2) rfl (.cons (t := 5) rfl (.cons (t := 6) rfl (.cons (t := 7) rfl .nil)))) ?_
     first | refine d_nilt (by kernel_rfl) ?_ | refine d_nilf (by kernel_rfl) ?_
     exact then_n ⟨b33, b27, _, _, ⟨rfl, rfl, rfl, rfl, trivial⟩, Split.ent' (by repeat (first | exact Split.nil | (apply Split.cons; (repeat (first | with_reducible exact Take.here | apply Take.there)))))⟩
    ·skip
     refine dA_ef 6 rfl GOn.none (ef_makeN n rfl rfl rfl (by omega) (by simp only [maxLen]; omega)) ?_
     rintro b29
     refine ⟨_, Split.ent (by repeat (first | exact Split.nil | (apply Split.cons; (repeat (first | with_reducible exact Take.here | apply Take.there))))), ?_⟩
     refine d_eft 4 rfl (by kernel_rfl) (ef_makeN n rfl rfl rfl (by omega) (by simp only [maxLen]; omega)) ?_
     rintro b27
     refine ⟨_, Split.ent (by repeat (first | exact Split.nil | (apply Split.cons; (repeat (first | with_reducible exact Take.here | apply Take.there))))), ?_⟩
     simp only [show List.take 4 (List.drop 2 w.cells) = [.int .i64 w.S.ha, .int .i64 w.S.pe, .int .i64 w.S.mo, .int .u32 (w.S.seed.toNat : Nat)] from rfl]
     refine d_pu 9 rfl (pu_bld (qs := [(0, _), (2, _), (3, _), (4, _), (5, _)]) rfl) (by kernel_rfl) (by kernel_rfl) (by kernel_rfl) ?_
     first | refine d_fint 10 rfl (by kernel_rfl) (by kernel_rfl) (ef_box rfl rfl) ?_ | refine d_finf 10 rfl (by kernel_rfl) (by kernel_rfl) (ef_box rfl rfl) ?_
     intro b33
     refine d_pu 11 rfl (pu_assign rfl) (by kernel_rfl) (by kernel_rfl) (by kernel_rfl) ?_
     refine d_sub _ (.cons (t := 2) rfl (.cons (t := 5) rfl (.cons (t := 6) rfl (.cons (t := 7) rfl .nil)))) ?_
     first | refine d_nilt (by kernel_rfl) ?_ | refine d_nilf (by kernel_rfl) ?_
     exact then_n ⟨b33, b27, _, _, ⟨rfl, rfl, rfl, rfl, trivial⟩, Split.ent' (by repeat (first | exact Split.nil | (apply Split.cons; (repeat (first | with_reducible exact Take.here | apply Take.there)))))⟩
  rintro env L ⟨b33, b27, vl, vm, hsub, hE⟩
  refine swp_sub _ hsub ?_
  refine swp_ent hE ?_
  clear hsub hE env L
  refine swp_seq ?_
  refine swp_seq ?_
  refine swp_region ?_
  refine s_pu (pu_move rfl) ?_
  refine s_pu (pu_move rfl) ?_
  refine swl_sub _ (.cons (t := 2) rfl (.cons (t := 5) rfl (.cons (t := 6) rfl (.cons (t := 7) rfl (.cons (t := 34) rfl (.cons (t := 35) rfl .nil)))))) ?_
  refine swl_nil ?_
  refine then_n ?_
  refine swp_block ?_
  refine swp_loop (ι := Nat) (fun i env L => ∃ (tv : Value) (T' : List (Value × List En)) (μ2 : PH), Sub env [(2, .pointer (some ⟨b2, 0, none⟩)), (5, .pointer (some ⟨p, 0, none⟩)), (6, .int .i64 (n : Nat)), (7, .pointer (some ⟨b33, 0, none⟩)), (34, .int .i64 (n : Nat)), (35, .int .i64 (i : Nat))] ∧ Ent L [blk b33 42 [.pointer (some ⟨p, 0, none⟩), tv, .int .i64 w.S.ha, .int .i64 w.S.pe, .int .i64 w.S.mo, .int .u32 (w.S.seed.toNat : Nat), .slice (some ⟨b27, 0, none⟩) n n, vl, vm], own 33 1 tv i (T'.flatMap gT), own 72 2 (.slice (some ⟨b27, 0, none⟩) n n) n ((List.replicate n ()).flatMap fun _ => [.int .i64 0, .string ⟨#[]⟩]), own 4 1 vl n ((List.replicate n ()).flatMap fun _ => [.bool false]), own 4 1 vm n ((List.replicate n ()).flatMap fun _ => [.bool false]), blk b2 29 w.cells, blk p 45 [v', vn, va], own 3 1 va n (askV n noAsk), ro μ2] ∧ Le μ1 μ2 ∧ T'.length = i ∧ i ≤ n ∧ (∀ t ∈ T', Row μ2 t.1 2 t.2.length (ens t.2)) ∧ T'.map (·.2) = (List.range i).map (ofT w.T)) (fun i => n - i) 0 ⟨.slice none 0 0, [], μ1, ⟨rfl, rfl, rfl, rfl, rfl, rfl, trivial⟩, own_nil_ent.trans (Split.ent' (K := [blk b33 42 [.pointer (some ⟨p, 0, none⟩), .slice none 0 0, .int .i64 w.S.ha, .int .i64 w.S.pe, .int .i64 w.S.mo, .int .u32 (w.S.seed.toNat : Nat), .slice (some ⟨b27, 0, none⟩) n n, vl, vm], own 33 1 (.slice none 0 0) 0 [], own 72 2 (.slice (some ⟨b27, 0, none⟩) n n) n ((List.replicate n ()).flatMap fun _ => [.int .i64 0, .string ⟨#[]⟩]), own 4 1 vl n ((List.replicate n ()).flatMap fun _ => [.bool false]), own 4 1 vm n ((List.replicate n ()).flatMap fun _ => [.bool false]), blk b2 29 w.cells, blk p 45 [v', vn, va], own 3 1 va n (askV n noAsk), ro μ1]) (by repeat (first | exact Split.nil | (apply Split.cons; (repeat (first | with_reducible exact Take.here | apply Take.there)))))), Le.refl _, rfl, Nat.zero_le _, (fun t ht => by cases ht), rfl⟩ ?_
  rintro i env L ⟨tv, T', μ2, hsub, hE, h2, hl, hi, hTr, hTm⟩
  refine swp_sub _ hsub ?_
  refine swp_ent hE ?_
  clear hsub hE env L
  have hT2 := hT1.le h2
  refine swp_seq ?_
  refine swp_region ?_
  refine s_pu (pu_lss rfl rfl) ?_
  refine swl_sub _ (.cons (t := 2) rfl (.cons (t := 5) rfl (.cons (t := 6) rfl (.cons (t := 7) rfl (.cons (t := 34) rfl (.cons (t := 35) rfl (.cons (t := 36) rfl .nil))))))) ?_
  refine swl_nil ?_
  refine then_n ?_
  refine swp_seq ?_
  refine swp_cond (b := _) rfl (fun h36 => ?_) (fun h36 => ?_)
  ·skip
   have h36' : i < n := by have := of_decide_eq_true h36; omega
   refine swp_skip ?_
   refine then_n ?_
   refine swp_seq ?_
   refine swp_block ?_
   refine swp_seq ?_
   refine swp_region ?_
   refine s_pu (pu_move rfl) ?_
   refine s_pu (pu_assign rfl) ?_
   refine swl_sub _ (.cons (t := 2) rfl (.cons (t := 5) rfl (.cons (t := 6) rfl (.cons (t := 7) rfl (.cons (t := 8) rfl (.cons (t := 34) rfl (.cons (t := 35) rfl .nil))))))) ?_
   refine swl_nil ?_
   refine then_n ?_
   refine swp_seq ?_
   refine swp_region ?_
   refine s_pu (pu_assign rfl) ?_
   refine swl_sub _ (.cons (t := 2) rfl (.cons (t := 5) rfl (.cons (t := 6) rfl (.cons (t := 7) rfl (.cons (t := 8) rfl (.cons (t := 9) rfl (.cons (t := 34) rfl (.cons (t := 35) rfl .nil)))))))) ?_
   refine swl_nil ?_
   refine then_n ?_
   refine swp_cut (fun env L => ∃ (A : Option Addr) (c : Nat) (μ3 : PH), Sub env [(2, .pointer (some ⟨b2, 0, none⟩)), (5, .pointer (some ⟨p, 0, none⟩)), (6, .int .i64 (n : Nat)), (7, .pointer (some ⟨b33, 0, none⟩)), (34, .int .i64 (n : Nat)), (35, .int .i64 (i : Nat)), (9, .slice A (ofT w.T i).length c)] ∧ Ent L [blk b33 42 [.pointer (some ⟨p, 0, none⟩), tv, .int .i64 w.S.ha, .int .i64 w.S.pe, .int .i64 w.S.mo, .int .u32 (w.S.seed.toNat : Nat), .slice (some ⟨b27, 0, none⟩) n n, vl, vm], own 33 1 tv i (T'.flatMap gT), own 72 2 (.slice (some ⟨b27, 0, none⟩) n n) n ((List.replicate n ()).flatMap fun _ => [.int .i64 0, .string ⟨#[]⟩]), own 4 1 vl n ((List.replicate n ()).flatMap fun _ => [.bool false]), own 4 1 vm n ((List.replicate n ()).flatMap fun _ => [.bool false]), blk b2 29 w.cells, blk p 45 [v', vn, va], own 3 1 va n (askV n noAsk), ro μ3] ∧ Le μ2 μ3 ∧ Row μ3 (.slice A (ofT w.T i).length c) 2 (ofT w.T i).length (ens (ofT w.T i))) ?_ ?_
   ·skip
    refine swp_seq ?_
    refine swp_region ?_
    first | refine s_pu (pu_fieldAddr0 rfl) ?_ | refine s_pu (pu_fieldAddr rfl) ?_
    refine s_rd (rd_load rfl rfl) ?_
    refine s_pu (pu_len_row hT2 rfl) ?_
    refine s_pu (pu_gtr rfl rfl) ?_
    refine swl_sub _ (.cons (t := 2) rfl (.cons (t := 5) rfl (.cons (t := 6) rfl (.cons (t := 7) rfl (.cons (t := 8) rfl (.cons (t := 9) rfl (.cons (t := 34) rfl (.cons (t := 35) rfl (.cons (t := 41) rfl .nil))))))))) ?_
    refine swl_nil ?_
    refine then_n ?_
    refine swp_cond (b := _) rfl (fun h41 => ?_) (fun h41 => ?_)
    ·skip
     have h41' : 0 < w.T.length := by have := of_decide_eq_true h41; omega
     have hmod : i % w.T.length < w.T.length := Nat.mod_lt _ h41'
     obtain ⟨tb, to, tc, htv, htc⟩ := trow hT2 hmod
     have htr := (h.hTr _ (List.getElem_mem hmod)).1.le (h1.trans h2)
     have hgs := good_spec μ2 (w.T[i % w.T.length]).1 (w.T[i % w.T.length]).2 htr
     have hoT : ofT w.T i = goodE (w.T[i % w.T.length]).2 := by unfold ofT; rw [if_neg (by omega), List.getElem?_eq_getElem hmod]; rfl
     rw [← hoT] at hgs
     refine swp_draw [1, 4, 8] _ [] (by simp only [List.append_nil]; exact Ent.refl _) (by kernel_rfl) ?_
     first | refine d_pu 0 rfl (pu_fieldAddr0 rfl) (by kernel_rfl) (by kernel_rfl) (by kernel_rfl) ?_ | refine d_pu 0 rfl (pu_fieldAddr rfl) (by kernel_rfl) (by kernel_rfl) (by kernel_rfl) ?_
     refine d_rd 1 rfl (rd_load rfl rfl) rfl (by kernel_rfl) (by kernel_rfl) (by kernel_rfl) ?_
     refine d_pu 2 rfl (pu_move rfl) (by kernel_rfl) (by kernel_rfl) (by kernel_rfl) ?_
     first | refine d_pu 3 rfl (pu_fieldAddr0 rfl) (by kernel_rfl) (by kernel_rfl) (by kernel_rfl) ?_ | refine d_pu 3 rfl (pu_fieldAddr rfl) (by kernel_rfl) (by kernel_rfl) (by kernel_rfl) ?_
     refine d_rd 4 rfl (rd_load rfl rfl) rfl (by kernel_rfl) (by kernel_rfl) (by kernel_rfl) ?_
     refine d_pu 5 rfl (pu_len_row hT2 rfl) (by kernel_rfl) (by kernel_rfl) (by kernel_rfl) ?_
     refine d_pu 6 rfl (pu_rem_as ((i % w.T.length : Nat) : Int) rfl rfl (by omega) (by omega) (by omega)) (by kernel_rfl) (by kernel_rfl) (by kernel_rfl) ?_
     refine d_pu 7 rfl (pu_indexAddr (to + (i % w.T.length) * 1) (congrArg some htv) rfl (by omega) (by omega) (by rw [Int.toNat_natCast])) (by kernel_rfl) (by kernel_rfl) (by kernel_rfl) ?_
     refine d_rd 8 rfl (rd_ro rfl htc) rfl (by kernel_rfl) (by kernel_rfl) (by kernel_rfl) ?_
     first | refine d_fint 9 rfl (by kernel_rfl) (by kernel_rfl) (ef_fn hgs rfl rfl (by repeat (first | exact Split.nil | (apply Split.cons; (repeat (first | with_reducible exact Take.here | apply Take.there)))))) ?_ | refine d_finf 9 rfl (by kernel_rfl) (by kernel_rfl) (ef_fn hgs rfl rfl (by repeat (first | exact Split.nil | (apply Split.cons; (repeat (first | with_reducible exact Take.here | apply Take.there)))))) ?_
     rintro v51 L1 ⟨μ3, h3, hr3, rfl⟩
     refine swd_app ?_
     obtain ⟨A3, c3, rfl⟩ := hr3.sl
     refine d_pu 10 rfl (pu_assign rfl) (by kernel_rfl) (by kernel_rfl) (by kernel_rfl) ?_
     refine d_sub _ (.cons (t := 2) rfl (.cons (t := 5) rfl (.cons (t := 6) rfl (.cons (t := 7) rfl (.cons (t := 9) rfl (.cons (t := 34) rfl (.cons (t := 35) rfl .nil))))))) ?_
     first | refine d_nilt (by kernel_rfl) ?_ | refine d_nilf (by kernel_rfl) ?_
     refine then_n ⟨A3, c3, μ3, ⟨rfl, rfl, rfl, rfl, rfl, rfl, rfl, trivial⟩, Split.ent' (by repeat (first | exact Split.nil | (apply Split.cons; (repeat (first | with_reducible exact Take.here | apply Take.there))))), h3, hr3⟩
    ·skip
     have h41' : w.T.length = 0 := by have := of_decide_eq_false h41; omega
     have hoT : ofT w.T i = [] := by unfold ofT; rw [if_pos h41']
     refine swp_skip ?_
     rw [hoT]
     exact then_n ⟨none, 0, μ2, ⟨rfl, rfl, rfl, rfl, rfl, rfl, rfl, trivial⟩, Split.ent' (by repeat (first | exact Split.nil | (apply Split.cons; (repeat (first | with_reducible exact Take.here | apply Take.there))))), Le.refl _, Row.nil _ _⟩
   rintro env L ⟨A3, c3, μ3, hsub, hE, h3, hr3⟩
   refine swp_sub _ hsub ?_
   refine swp_ent hE ?_
   clear hsub hE env L
   refine swp_region ?_
   refine s_pu (pu_move rfl) ?_
   refine s_pu (pu_move rfl) ?_
   first | refine s_pu (pu_nilCheck rfl) ?_ | refine s_pu (pu_nilCheck_fn rfl) ?_ | refine s_pu (pu_nilCheck_if rfl) ?_
   first | refine s_pu (pu_fieldAddr0 rfl) ?_ | refine s_pu (pu_fieldAddr rfl) ?_
   refine s_rd (rd_load rfl rfl) ?_
   refine s_pu (pu_move rfl) ?_
   refine s_ef (ef_bldS (qs := [(0, _)]) rfl rfl rfl) ?_
   intro b58
   refine s_ef (ef_append_lit (l := i) (m := 1) rfl rfl (by repeat (first | exact Split.nil | (apply Split.cons; (repeat (first | with_reducible exact Take.here | apply Take.there))))) (by simp only [maxLen]; omega) (by omega)) ?_
   rintro v59 hv59
   obtain ⟨g7, c7, rfl⟩ := hv59 (by decide)
   first | refine s_pu (pu_nilCheck rfl) ?_ | refine s_pu (pu_nilCheck_fn rfl) ?_ | refine s_pu (pu_nilCheck_if rfl) ?_
   first | refine s_pu (pu_fieldAddr0 rfl) ?_ | refine s_pu (pu_fieldAddr rfl) ?_
   refine s_ef0 (ef_store rfl rfl rfl) ?_
   refine swl_sub _ (.cons (t := 2) rfl (.cons (t := 5) rfl (.cons (t := 6) rfl (.cons (t := 7) rfl (.cons (t := 34) rfl (.cons (t := 35) rfl .nil)))))) ?_
   refine swl_nil ?_
   refine block_n ?_
   refine then_n ?_
   refine swp_region ?_
   refine s_pu (pu_add_as ((i + 1 : Nat) : Int) rfl rfl (by omega) (by omega) (by omega)) ?_
   refine s_pu (pu_move rfl) ?_
   refine swl_sub _ (.cons (t := 2) rfl (.cons (t := 5) rfl (.cons (t := 6) rfl (.cons (t := 7) rfl (.cons (t := 34) rfl (.cons (t := 35) rfl .nil)))))) ?_
   refine swl_nil ?_
   refine then_n ⟨i + 1, ⟨.slice (some ⟨g7, 0, none⟩) (i + 1) c7, T' ++ [(.slice A3 (ofT w.T i).length c3, ofT w.T i)], μ3, ⟨rfl, rfl, rfl, rfl, rfl, rfl, trivial⟩, ?_, h2.trans h3, by rw [List.length_append, hl]; rfl, h36', ?_, ?_⟩, by show n - (i + 1) < n - i; omega⟩
   ·have e1 : (T' ++ [(Value.slice A3 (ofT w.T i).length c3, ofT w.T i)]).flatMap gT = T'.flatMap gT ++ [Value.slice A3 (ofT w.T i).length c3] := by rw [List.flatMap_append]; rfl
    rw [e1]
    exact Split.ent' (by repeat (first | exact Split.nil | (apply Split.cons; (repeat (first | with_reducible exact Take.here | apply Take.there)))))
   ·intro t ht
    rcases List.mem_append.1 ht with ht | ht
    ·exact (hTr t ht).le h3
    ·rw [List.mem_singleton.1 ht]; exact hr3
   ·rw [List.map_append, hTm, List.range_succ, List.map_append]; rfl
  ·skip
   obtain rfl : n = i := by have := of_decide_eq_false h36; omega
   rw [fil_zero]
   have hTall : ∀ t ∈ T', t.2.length ≤ 100 ∧ GoodT t.2 ∧ U32s t.2 := fun t ht => by
    have hm : t.2 ∈ T'.map (·.2) := List.mem_map_of_mem ht
    rw [hTm] at hm
    obtain ⟨c, _, hc⟩ := List.mem_map.1 hm
    rw [← hc]
    exact ofT_ok (fun t ht => (h.hTr t ht).2) c
   refine swp_share_own (e := 33) (n := 1) (v := tv) (μ := μ2) (by repeat (first | exact Split.nil | (apply Split.cons; (repeat (first | with_reducible exact Take.here | apply Take.there))))) fun μ3 h3 hrT => ?_
   rw [← hl] at hrT
   have hG3 := hG1.le (h2.trans h3)
   have hTr3 : ∀ t ∈ T', Row μ3 t.1 2 t.2.length (ens t.2) ∧ t.2.length ≤ 100 ∧ GoodT t.2 ∧ U32s t.2 := fun t ht => ⟨(hTr t ht).le h3, hTall t ht⟩
   refine swp_exit ?_
   refine then_x ?_
   refine then_x ?_
   refine block_hit rfl ?_
   refine then_n ?_
   refine swp_seq ?_
   refine swp_seq ?_
   refine swp_region ?_
   refine s_pu (pu_move rfl) ?_
   refine s_pu (pu_move rfl) ?_
   refine swl_sub _ (.cons (t := 2) rfl (.cons (t := 5) rfl (.cons (t := 7) rfl (.cons (t := 63) rfl (.cons (t := 64) rfl .nil))))) ?_
   refine swl_nil ?_
   refine then_n ?_
   refine swp_block ?_
   refine swp_loop (ι := Nat) (fun i env L => ∃ (F : List Fil) (μ4 : PH), Sub env [(2, .pointer (some ⟨b2, 0, none⟩)), (5, .pointer (some ⟨p, 0, none⟩)), (7, .pointer (some ⟨b33, 0, none⟩)), (63, .int .i64 (n : Nat)), (64, .int .i64 (i : Nat))] ∧ Ent L [blk b33 42 [.pointer (some ⟨p, 0, none⟩), tv, .int .i64 w.S.ha, .int .i64 w.S.pe, .int .i64 w.S.mo, .int .u32 (w.S.seed.toNat : Nat), .slice (some ⟨b27, 0, none⟩) n n, vl, vm], own 72 2 (.slice (some ⟨b27, 0, none⟩) n n) n (F.flatMap encF), own 4 1 vl n ((List.replicate n ()).flatMap fun _ => [.bool false]), own 4 1 vm n ((List.replicate n ()).flatMap fun _ => [.bool false]), blk b2 29 w.cells, blk p 45 [v', vn, va], own 3 1 va n (askV n noAsk), ro μ4] ∧ Le μ3 μ4 ∧ F.length = n ∧ i ≤ n ∧ (∀ f ∈ F, f.2.length ≤ 1048576)) (fun i => n - i) 0 ⟨List.replicate n ((0, []) : Fil), μ3, ⟨rfl, rfl, rfl, rfl, rfl, trivial⟩, Split.ent' (by repeat (first | exact Split.nil | (apply Split.cons; (repeat (first | with_reducible exact Take.here | apply Take.there))))), Le.refl _, List.length_replicate, Nat.zero_le _, (fun f hf => by rw [(List.mem_replicate.1 hf).2]; exact Nat.zero_le _)⟩ ?_
   rintro i env L ⟨F, μ4, hsub, hE, h4, hFl, hi, hFs2⟩
   refine swp_sub _ hsub ?_
   refine swp_ent hE ?_
   clear hsub hE env L
   have hF4 := hF1.le (h2.trans (h3.trans h4))
   refine swp_seq ?_
   refine swp_region ?_
   refine s_pu (pu_lss rfl rfl) ?_
   refine swl_sub _ (.cons (t := 2) rfl (.cons (t := 5) rfl (.cons (t := 7) rfl (.cons (t := 63) rfl (.cons (t := 64) rfl (.cons (t := 65) rfl .nil)))))) ?_
   refine swl_nil ?_
   refine then_n ?_
   refine swp_seq ?_
   refine swp_cond (b := _) rfl (fun h65 => ?_) (fun h65 => ?_)
   ·skip
    have h65' : i < n := by have := of_decide_eq_true h65; omega
    refine swp_skip ?_
    refine then_n ?_
    refine swp_seq ?_
    refine swp_block ?_
    refine swp_seq ?_
    refine swp_region ?_
    refine s_pu (pu_move rfl) ?_
    refine s_pu (pu_assign rfl) ?_
    refine swl_sub _ (.cons (t := 2) rfl (.cons (t := 5) rfl (.cons (t := 7) rfl (.cons (t := 10) rfl (.cons (t := 63) rfl (.cons (t := 64) rfl .nil)))))) ?_
    refine swl_nil ?_
    refine then_n ?_
    refine swp_seq ?_
    refine swp_draw [1, 6, 9, 13] _ [] (by simp only [List.append_nil]; exact Ent.refl _) (by kernel_rfl) ?_
    first | refine d_pu 0 rfl (pu_fieldAddr0 rfl) (by kernel_rfl) (by kernel_rfl) (by kernel_rfl) ?_ | refine d_pu 0 rfl (pu_fieldAddr rfl) (by kernel_rfl) (by kernel_rfl) (by kernel_rfl) ?_
    refine d_rd 1 rfl (rd_load rfl rfl) rfl (by kernel_rfl) (by kernel_rfl) (by kernel_rfl) ?_
    refine d_pu 2 rfl (pu_len_row hF4 rfl) (by kernel_rfl) (by kernel_rfl) (by kernel_rfl) ?_
    refine d_pu 3 rfl (pu_gtr rfl rfl) (by kernel_rfl) (by kernel_rfl) (by kernel_rfl) ?_
    refine d_pu 4 rfl (pu_move rfl) (by kernel_rfl) (by kernel_rfl) (by kernel_rfl) ?_
    refine d_split 71 rfl (fun h71 => ?_) (fun h71 => ?_)
    ·skip
     have h71' : 0 < w.F.length := by have := of_decide_eq_true h71; omega
     have hmod : i % w.F.length < w.F.length := Nat.mod_lt _ h71'
     obtain ⟨fb, fo, fc, hfv, _, _, hfr⟩ := hF4.pos h71'
     have hfc : CellAt μ4 fb (fo + i % w.F.length) (.bool (w.F[i % w.F.length])) := hfr _ _ (by rw [List.getElem?_map, List.getElem?_eq_getElem hmod]; rfl)
     first | refine d_pu_on 5 rfl rfl rfl (pu_fieldAddr0 rfl) (by kernel_rfl) (by kernel_rfl) (by kernel_rfl) ?_ | refine d_pu_on 5 rfl rfl rfl (pu_fieldAddr rfl) (by kernel_rfl) (by kernel_rfl) (by kernel_rfl) ?_
     refine d_rd_on 6 rfl rfl rfl (rd_load rfl rfl) rfl (by kernel_rfl) (by kernel_rfl) (by kernel_rfl) ?_
     refine d_pu_on 7 rfl rfl rfl (pu_move rfl) (by kernel_rfl) (by kernel_rfl) (by kernel_rfl) ?_
     first | refine d_pu_on 8 rfl rfl rfl (pu_fieldAddr0 rfl) (by kernel_rfl) (by kernel_rfl) (by kernel_rfl) ?_ | refine d_pu_on 8 rfl rfl rfl (pu_fieldAddr rfl) (by kernel_rfl) (by kernel_rfl) (by kernel_rfl) ?_
     refine d_rd_on 9 rfl rfl rfl (rd_load rfl rfl) rfl (by kernel_rfl) (by kernel_rfl) (by kernel_rfl) ?_
     refine d_pu_on 10 rfl rfl rfl (pu_len_row hF4 rfl) (by kernel_rfl) (by kernel_rfl) (by kernel_rfl) ?_
     refine d_pu_on 11 rfl rfl rfl (pu_rem_as ((i % w.F.length : Nat) : Int) rfl rfl (by omega) (by omega) (by omega)) (by kernel_rfl) (by kernel_rfl) (by kernel_rfl) ?_
     refine d_pu_on 12 rfl rfl rfl (pu_indexAddr (fo + i % w.F.length) (congrArg some hfv) rfl (by omega) (by omega) (by rw [Int.toNat_natCast, Nat.mul_one])) (by kernel_rfl) (by kernel_rfl) (by kernel_rfl) ?_
     refine d_rd_on 13 rfl rfl rfl (rd_ro rfl hfc) rfl (by kernel_rfl) (by kernel_rfl) (by kernel_rfl) ?_
     first | refine d_pu 14 rfl (pu_pick_t rfl rfl) (by kernel_rfl) (by kernel_rfl) (by kernel_rfl) ?_ | refine d_pu 14 rfl (pu_pick_f rfl rfl) (by kernel_rfl) (by kernel_rfl) (by kernel_rfl) ?_
     refine d_sub _ (.cons (t := 2) rfl (.cons (t := 5) rfl (.cons (t := 7) rfl (.cons (t := 10) rfl (.cons (t := 63) rfl (.cons (t := 64) rfl (.cons (t := 81) rfl .nil))))))) ?_
     first | refine d_nilt (by kernel_rfl) ?_ | refine d_nilf (by kernel_rfl) ?_
     refine then_n ?_
     refine swp_cond (b := _) rfl (fun h81 => ?_) (fun h81 => ?_)
     ·skip
      have hiT : i < T'.length := by omega
      obtain ⟨tb, to, tc, htv, htc⟩ := trow (hrT.le h4) hiT
      have hti := hTr3 _ (List.getElem_mem hiT)
      have hwas := was_spec μ4 v' tv G T' i (hG3.le h4) (hrT.le h4) (fun t ht => ⟨(hTr3 t ht).1.le h4, (hTr3 t ht).2⟩) (by omega) hgood (by omega)
      refine swp_draw [3, 6, 10, 14, 20, 23] _ [] (by simp only [List.append_nil]; exact Ent.refl _) (by kernel_rfl) ?_
      refine d_pu 0 rfl (pu_move rfl) (by kernel_rfl) (by kernel_rfl) (by kernel_rfl) ?_
      first | refine d_pu 1 rfl (pu_nilCheck rfl) (by kernel_rfl) (by kernel_rfl) (by kernel_rfl) ?_ | refine d_pu 1 rfl (pu_nilCheck_fn rfl) (by kernel_rfl) (by kernel_rfl) (by kernel_rfl) ?_ | refine d_pu 1 rfl (pu_nilCheck_if rfl) (by kernel_rfl) (by kernel_rfl) (by kernel_rfl) ?_
      first | refine d_pu 2 rfl (pu_fieldAddr0 rfl) (by kernel_rfl) (by kernel_rfl) (by kernel_rfl) ?_ | refine d_pu 2 rfl (pu_fieldAddr rfl) (by kernel_rfl) (by kernel_rfl) (by kernel_rfl) ?_
      refine d_rd 3 rfl (rd_load rfl rfl) rfl (by kernel_rfl) (by kernel_rfl) (by kernel_rfl) ?_
      refine d_pu 4 rfl (pu_move rfl) (by kernel_rfl) (by kernel_rfl) (by kernel_rfl) ?_
      first | refine d_pu 5 rfl (pu_fieldAddr0 rfl) (by kernel_rfl) (by kernel_rfl) (by kernel_rfl) ?_ | refine d_pu 5 rfl (pu_fieldAddr rfl) (by kernel_rfl) (by kernel_rfl) (by kernel_rfl) ?_
      first | refine d_rd 6 rfl (rd_loadW rfl rfl) rfl (by kernel_rfl) (by kernel_rfl) (by kernel_rfl) ?_ | refine d_rd 6 rfl (rd_loadX rfl rfl rfl) rfl (by kernel_rfl) (by kernel_rfl) (by kernel_rfl) ?_
      refine d_pu 7 rfl (pu_move rfl) (by kernel_rfl) (by kernel_rfl) (by kernel_rfl) ?_
      first | refine d_pu 8 rfl (pu_nilCheck rfl) (by kernel_rfl) (by kernel_rfl) (by kernel_rfl) ?_ | refine d_pu 8 rfl (pu_nilCheck_fn rfl) (by kernel_rfl) (by kernel_rfl) (by kernel_rfl) ?_ | refine d_pu 8 rfl (pu_nilCheck_if rfl) (by kernel_rfl) (by kernel_rfl) (by kernel_rfl) ?_
      first | refine d_pu 9 rfl (pu_fieldAddr0 rfl) (by kernel_rfl) (by kernel_rfl) (by kernel_rfl) ?_ | refine d_pu 9 rfl (pu_fieldAddr rfl) (by kernel_rfl) (by kernel_rfl) (by kernel_rfl) ?_
      refine d_rd 10 rfl (rd_load rfl rfl) rfl (by kernel_rfl) (by kernel_rfl) (by kernel_rfl) ?_
      refine d_pu 11 rfl (pu_move rfl) (by kernel_rfl) (by kernel_rfl) (by kernel_rfl) ?_
      first | refine d_pu 12 rfl (pu_nilCheck rfl) (by kernel_rfl) (by kernel_rfl) (by kernel_rfl) ?_ | refine d_pu 12 rfl (pu_nilCheck_fn rfl) (by kernel_rfl) (by kernel_rfl) (by kernel_rfl) ?_ | refine d_pu 12 rfl (pu_nilCheck_if rfl) (by kernel_rfl) (by kernel_rfl) (by kernel_rfl) ?_
      first | refine d_pu 13 rfl (pu_fieldAddr0 rfl) (by kernel_rfl) (by kernel_rfl) (by kernel_rfl) ?_ | refine d_pu 13 rfl (pu_fieldAddr rfl) (by kernel_rfl) (by kernel_rfl) (by kernel_rfl) ?_
      refine d_rd 14 rfl (rd_load rfl rfl) rfl (by kernel_rfl) (by kernel_rfl) (by kernel_rfl) ?_
      refine d_pu 15 rfl (pu_move rfl) (by kernel_rfl) (by kernel_rfl) (by kernel_rfl) ?_
      refine d_pu 17 rfl (pu_move rfl) (by kernel_rfl) (by kernel_rfl) (by kernel_rfl) ?_
      first | refine d_pu 18 rfl (pu_nilCheck rfl) (by kernel_rfl) (by kernel_rfl) (by kernel_rfl) ?_ | refine d_pu 18 rfl (pu_nilCheck_fn rfl) (by kernel_rfl) (by kernel_rfl) (by kernel_rfl) ?_ | refine d_pu 18 rfl (pu_nilCheck_if rfl) (by kernel_rfl) (by kernel_rfl) (by kernel_rfl) ?_
      first | refine d_pu 19 rfl (pu_fieldAddr0 rfl) (by kernel_rfl) (by kernel_rfl) (by kernel_rfl) ?_ | refine d_pu 19 rfl (pu_fieldAddr rfl) (by kernel_rfl) (by kernel_rfl) (by kernel_rfl) ?_
      refine d_rd 20 rfl (rd_load rfl rfl) rfl (by kernel_rfl) (by kernel_rfl) (by kernel_rfl) ?_
      refine d_pu 21 rfl (pu_move rfl) (by kernel_rfl) (by kernel_rfl) (by kernel_rfl) ?_
      refine d_pu 22 rfl (pu_indexAddr (to + i * 1) (congrArg some htv) rfl (by omega) (by omega) (by rw [Int.toNat_natCast])) (by kernel_rfl) (by kernel_rfl) (by kernel_rfl) ?_
      refine d_rd 23 rfl (rd_ro rfl htc) rfl (by kernel_rfl) (by kernel_rfl) (by kernel_rfl) ?_
      refine d_eft 16 rfl (by kernel_rfl) (ef_fn hwas rfl rfl (by repeat (first | exact Split.nil | (apply Split.cons; (repeat (first | with_reducible exact Take.here | apply Take.there)))))) ?_
      rintro v99 L1 ⟨t, ht1, ht2, ht3, rfl⟩
      refine ⟨_, ent_appC (Split.ent (by repeat (first | exact Split.nil | (apply Split.cons; (repeat (first | with_reducible exact Take.here | apply Take.there)))))), ?_⟩
      refine d_eft 24 rfl (by kernel_rfl) (ef_fn (sof2_spec μ4 w.S v99 _ t _ ht1 (hti.1.le h4) ⟨ht2, hti.2.1⟩ ht3 hti.2.2.1) rfl rfl (by repeat (first | exact Split.nil | (apply Split.cons; (repeat (first | with_reducible exact Take.here | apply Take.there)))))) ?_
      rintro v107 L1 ⟨f, e, rfl, hfl, rfl⟩
      refine ⟨_, ent_appC (Split.ent (by repeat (first | exact Split.nil | (apply Split.cons; (repeat (first | with_reducible exact Take.here | apply Take.there)))))), ?_⟩
      refine d_pu 25 rfl (pu_move rfl) (by kernel_rfl) (by kernel_rfl) (by kernel_rfl) ?_
      first | refine d_pu 26 rfl (pu_extractL rfl) (by kernel_rfl) (by kernel_rfl) (by kernel_rfl) ?_ | refine d_pu 26 rfl (pu_extract rfl rfl) (by kernel_rfl) (by kernel_rfl) (by kernel_rfl) ?_
      first | refine d_pu 27 rfl (pu_extractL rfl) (by kernel_rfl) (by kernel_rfl) (by kernel_rfl) ?_ | refine d_pu 27 rfl (pu_extract rfl rfl) (by kernel_rfl) (by kernel_rfl) (by kernel_rfl) ?_
      refine d_pu 28 rfl (pu_indexAddr (0 + i * 2) rfl rfl (by omega) (by omega) (by rw [Int.toNat_natCast])) (by kernel_rfl) (by kernel_rfl) (by kernel_rfl) ?_
      first | refine d_fin0t 29 rfl (by kernel_rfl) (by kernel_rfl) (ef_store_ownA rfl rfl (by repeat (first | exact Split.nil | (apply Split.cons; (repeat (first | with_reducible exact Take.here | apply Take.there))))) (by show 0 + i * 2 + 2 ≤ _; rw [flat_length (f := encF) (k := 2) (fun _ => rfl)]; omega) rfl rfl) ?_ | refine d_fin0f 29 rfl (by kernel_rfl) (by kernel_rfl) (ef_store_ownA rfl rfl (by repeat (first | exact Split.nil | (apply Split.cons; (repeat (first | with_reducible exact Take.here | apply Take.there))))) (by show 0 + i * 2 + 2 ≤ _; rw [flat_length (f := encF) (k := 2) (fun _ => rfl)]; omega) rfl rfl) ?_
      refine d_sub _ (.cons (t := 2) rfl (.cons (t := 5) rfl (.cons (t := 7) rfl (.cons (t := 63) rfl (.cons (t := 64) rfl .nil))))) ?_
      first | refine d_nilt (by kernel_rfl) ?_ | refine d_nilf (by kernel_rfl) ?_
      refine block_n ?_
      refine then_n ?_
      refine swp_region ?_
      refine s_pu (pu_add_as ((i + 1 : Nat) : Int) rfl rfl (by omega) (by omega) (by omega)) ?_
      refine s_pu (pu_move rfl) ?_
      refine swl_sub _ (.cons (t := 2) rfl (.cons (t := 5) rfl (.cons (t := 7) rfl (.cons (t := 63) rfl (.cons (t := 64) rfl .nil))))) ?_
      refine swl_nil ?_
      refine then_n ⟨i + 1, ⟨F.set i f, μ4, ⟨rfl, rfl, rfl, rfl, rfl, trivial⟩, ?_, h4, by rw [List.length_set, hFl], h65', ?_⟩, by show n - (i + 1) < n - i; omega⟩
      ·rw [Nat.zero_add, flat_over2 (f := encF) (n := 2) (fun _ => rfl) (by omega)]
       exact Split.ent' (by repeat (first | exact Split.nil | (apply Split.cons; (repeat (first | with_reducible exact Take.here | apply Take.there)))))
      ·intro g hg
       rcases List.mem_or_eq_of_mem_set hg with hg | rfl
       ·exact hFs2 g hg
       ·exact hfl
     ·skip
      refine swp_skip ?_
      refine block_n ?_
      refine then_n ?_
      refine swp_region ?_
      refine s_pu (pu_add_as ((i + 1 : Nat) : Int) rfl rfl (by omega) (by omega) (by omega)) ?_
      refine s_pu (pu_move rfl) ?_
      refine swl_sub _ (.cons (t := 2) rfl (.cons (t := 5) rfl (.cons (t := 7) rfl (.cons (t := 63) rfl (.cons (t := 64) rfl .nil))))) ?_
      refine swl_nil ?_
      exact then_n ⟨i + 1, ⟨F, μ4, ⟨rfl, rfl, rfl, rfl, rfl, trivial⟩, Split.ent' (by repeat (first | exact Split.nil | (apply Split.cons; (repeat (first | with_reducible exact Take.here | apply Take.there))))), h4, hFl, h65', hFs2⟩, by show n - (i + 1) < n - i; omega⟩
    ·skip
     refine d_off 5 rfl rfl rfl rfl (by kernel_rfl) (by kernel_rfl) (by kernel_rfl) ?_
     refine d_off 6 rfl rfl rfl rfl (by kernel_rfl) (by kernel_rfl) (by kernel_rfl) ?_
     refine d_off 7 rfl rfl rfl rfl (by kernel_rfl) (by kernel_rfl) (by kernel_rfl) ?_
     refine d_off 8 rfl rfl rfl rfl (by kernel_rfl) (by kernel_rfl) (by kernel_rfl) ?_
     refine d_off 9 rfl rfl rfl rfl (by kernel_rfl) (by kernel_rfl) (by kernel_rfl) ?_
     refine d_off 10 rfl rfl rfl rfl (by kernel_rfl) (by kernel_rfl) (by kernel_rfl) ?_
     refine d_off 11 rfl rfl rfl rfl (by kernel_rfl) (by kernel_rfl) (by kernel_rfl) ?_
     refine d_off 12 rfl rfl rfl rfl (by kernel_rfl) (by kernel_rfl) (by kernel_rfl) ?_
     refine d_off 13 rfl rfl rfl rfl (by kernel_rfl) (by kernel_rfl) (by kernel_rfl) ?_
     first | refine d_pu 14 rfl (pu_pick_t rfl rfl) (by kernel_rfl) (by kernel_rfl) (by kernel_rfl) ?_ | refine d_pu 14 rfl (pu_pick_f rfl rfl) (by kernel_rfl) (by kernel_rfl) (by kernel_rfl) ?_
     refine d_sub _ (.cons (t := 2) rfl (.cons (t := 5) rfl (.cons (t := 7) rfl (.cons (t := 10) rfl (.cons (t := 63) rfl (.cons (t := 64) rfl (.cons (t := 81) rfl .nil))))))) ?_
     first | refine d_nilt (by kernel_rfl) ?_ | refine d_nilf (by kernel_rfl) ?_
     refine then_n ?_
     refine swp_cond (b := _) rfl (fun h81 => by cases h81) (fun h81 => ?_)
     refine swp_skip ?_
     refine block_n ?_
     refine then_n ?_
     refine swp_region ?_
     refine s_pu (pu_add_as ((i + 1 : Nat) : Int) rfl rfl (by omega) (by omega) (by omega)) ?_
     refine s_pu (pu_move rfl) ?_
     refine swl_sub _ (.cons (t := 2) rfl (.cons (t := 5) rfl (.cons (t := 7) rfl (.cons (t := 63) rfl (.cons (t := 64) rfl .nil))))) ?_
     refine swl_nil ?_
     exact then_n ⟨i + 1, ⟨F, μ4, ⟨rfl, rfl, rfl, rfl, rfl, trivial⟩, Split.ent' (by repeat (first | exact Split.nil | (apply Split.cons; (repeat (first | with_reducible exact Take.here | apply Take.there))))), h4, hFl, h65', hFs2⟩, by show n - (i + 1) < n - i; omega⟩
   ·skip
    rw [bcn_zero]
    refine swp_share_own (e := 72) (n := 2) (v := .slice (some ⟨b27, 0, none⟩) n n) (μ := μ4) (by repeat (first | exact Split.nil | (apply Split.cons; (repeat (first | with_reducible exact Take.here | apply Take.there))))) fun μ5 h5 hrF => ?_
    refine swp_exit ?_
    refine then_x ?_
    refine then_x ?_
    refine block_hit rfl ?_
    refine then_n ?_
    refine swp_seq ?_
    refine swp_region ?_
    refine s_pu (pu_move rfl) ?_
    refine s_pu (pu_assign rfl) ?_
    refine swl_sub _ (.cons (t := 4) rfl .nil) ?_
    refine swl_nil ?_
    refine then_n ?_
    refine swp_ret ?_
    refine done_retE [HW.A ⟨b33, p, v', vn, tv, .slice (some ⟨b27, 0, none⟩) n n, w.S, G, T', F⟩ st00, ro μ5] (.tmp rfl .nil) ⟨μ5, h1.trans (h2.trans (h3.trans (h4.trans h5))), .inr ⟨hck, ⟨b33, p, v', vn, tv, .slice (some ⟨b27, 0, none⟩) n n, w.S, G, T', F⟩, rfl, ⟨hG3.le (h4.trans h5), hgood, hGS.hn, hGS.hr, hrT.le (h4.trans h5), fun t ht => ⟨(hTr3 t ht).1.le (h4.trans h5), (hTr3 t ht).2⟩, by show T'.length = G.length; omega, ?_, by show F.length = G.length; omega, hFs2⟩, rfl, hGn, ?_, rfl⟩⟩ ?_
    ·show Row μ5 _ 2 F.length _
     rw [hFl]; exact hrF
    ·show T'.map (·.2) = (List.range G.length).map (ofT w.T)
     rw [hTm, hn]
    ·refine (Split.ent' (K := [blk p 45 [v', vn, va], own 3 1 va n (askV n noAsk), blk b33 42 [.pointer (some ⟨p, 0, none⟩), tv, .int .i64 w.S.ha, .int .i64 w.S.pe, .int .i64 w.S.mo, .int .u32 (w.S.seed.toNat : Nat), .slice (some ⟨b27, 0, none⟩) n n, vl, vm], own 4 1 vl n (bcn n fun _ => false), own 4 1 vm n (bcn n fun _ => false), ro μ5]) (by repeat (first | exact Split.nil | (apply Split.cons; (repeat (first | with_reducible exact Take.here | apply Take.there)))))).trans (gA_close.trans ?_)
     refine (Split.ent' (K := [blk b33 42 [.pointer (some ⟨p, 0, none⟩), tv, .int .i64 w.S.ha, .int .i64 w.S.pe, .int .i64 w.S.mo, .int .u32 (w.S.seed.toNat : Nat), .slice (some ⟨b27, 0, none⟩) n n, vl, vm], gA p v' vn n noAsk, own 4 1 vl n (bcn n fun _ => false), own 4 1 vm n (bcn n fun _ => false), ro μ5]) (by repeat (first | exact Split.nil | (apply Split.cons; (repeat (first | with_reducible exact Take.here | apply Take.there)))))).trans ?_
     subst hn
     exact HW.close (W := ⟨b33, p, v', vn, tv, .slice (some ⟨b27, 0, none⟩) G.length G.length, w.S, G, T', F⟩) (s := st00)
theorem of_spec (w : Wld) (μ : PH) (h : w.Ok μ) (mo : Nat) (hmo : mo ≤ 10000) :
    Spec Tryd.prog 9 [.agg w.cells.toArray, .int .i64 (mo : Nat)] [ro μ] (fun r L => ∃ μ', Le μ μ' ∧
      ((¬ chkFrom 0 (nums (w.G.take (min w.G.length mo))) = 0 ∧ r = .pointer none ∧ L = [ro μ']) ∨
       ∃ W : HW, r = .pointer (some ⟨W.p, 0, none⟩) ∧ W.Ok μ' ∧ W.G = w.G.take (min w.G.length mo) ∧ W.n = min w.G.length mo ∧ W.T.map (·.2) = (List.range W.n).map (ofT w.T) ∧ L = [W.A st00, ro μ'])) :=
  (of_specC w μ h mo hmo).mono fun _ _ ⟨μ', h1, h2⟩ => ⟨μ', h1, h2.imp id And.right⟩
end SX
namespace SX
open Go Go.Proofs
/-- the virtual ancestor, of graph and trees alone -/
def virtG (g : List (List Int)) (ts : List (List En)) (a b limit : Int) : List En × Bool × Int × Int :=
  if askedV g.length a b ≠ 0 then ([], false, 0, askedV g.length a b) else
  match vall (fun x y => sidesA g x [y]) (fun c => (ts[c.toNat]?).getD []) VM [] (min (max limit 0) 4096).toNat [a] b with
  | (none, _) => ([], false, 0, 12)
  | (some (t, ok), left) => (t, ok, (((min (max limit 0) 4096).toNat - left : Nat) : Int), 0)
theorem vt_map (W : HW) : VT W = fun c => ((W.T.map (·.2))[c.toNat]?).getD [] := by
  funext c
  unfold VT treeOf
  rw [List.getElem?_map]
  cases W.T[c.toNat]? <;> rfl
theorem virt_of {W : HW} {g : List (List Int)} {ts : List (List En)} (hg : nums W.G = g) (ht : W.T.map (·.2) = ts) (a b limit : Int) : virtV W a b limit = virtG g ts a b limit := by
  subst hg ht
  unfold virtV virtG VS
  rw [vt_map, List.length_map]
  rfl
abbrev xG : List (List Int) := [[], [0], [0], [1, 2], [2, 1]]
abbrev xp1 : List En := [(⟨#[112]⟩, 1)]
abbrev xp2 : List En := [(⟨#[112]⟩, 2)]
abbrev xpq : List En := [(⟨#[112]⟩, 1), (⟨#[113]⟩, 3)]
abbrev xT : List (List En) := [xp1, xp2, xpq, xp1, xp2]
theorem x_good : chkFrom 0 xG = 0 ∧ goodE xp1 = xp1 ∧ goodE xp2 = xp2 ∧ goodE xpq = xpq := by decide +kernel
theorem uni_lit {xs ys : List ByteArray} (hp : ys.Pairwise fun a b => strLt a b = true) (h1 : xs.all (fun q => ys.any fun p => decide (q = p)) = true) (h2 : ys.all (fun q => xs.any fun p => decide (q = p)) = true) : uniS xs = ys := rise_ext (uniS_rises _) hp fun q => by
  have key : ∀ {us ws : List ByteArray}, us.all (fun q => ws.any fun p => decide (q = p)) = true → q ∈ us → q ∈ ws := fun {us ws} h hq => by
    obtain ⟨p, hp, he⟩ := List.any_eq_true.1 (List.all_eq_true.1 h q hq)
    rw [of_decide_eq_true he]; exact hp
  rw [uniS_mem]
  exact ⟨key h1, key h2⟩
theorem rises_one (p : ByteArray) (b : Int) : Rises [(p, b)] := List.pairwise_singleton _ _
theorem x_vm : VM xp1 xp2 xpq = [(⟨#[112]⟩, 2), (⟨#[113]⟩, 3)] := by
  have e : pathsE xp1 xp2 xpq = [⟨#[112]⟩, ⟨#[113]⟩] := uni_lit (by decide +kernel) (by decide +kernel) (by decide +kernel)
  unfold VM
  rw [rowsB_L (rises_one _ _) (rises_one _ _) (show Rises xpq from by unfold Rises; decide +kernel), e]
  decide +kernel
theorem x_vall : vall (fun x y => sidesA xG x [y]) (fun c => (xT[c.toNat]?).getD []) VM [] 9 [3] 4 = (some (VM xp1 xp2 xpq, true), 7) := by
  kernel_rfl
theorem x_vall1 : (vall (fun x y => sidesA xG x [y]) (fun c => (xT[c.toNat]?).getD []) VM [] 1 [3] 4).1 = none := by
  kernel_rfl
theorem x_virt : virtG xG xT 3 4 9 = ([(⟨#[112]⟩, 2), (⟨#[113]⟩, 3)], true, 2, 0) := by
  unfold virtG
  rw [if_neg (by decide), show (min (max (9 : Int) 0) 4096).toNat = 9 from rfl, x_vall, x_vm]
  rfl
theorem x_virt1 : virtG xG xT 3 4 1 = ([], false, 0, 12) := by
  unfold virtG
  have h := x_vall1
  rw [if_neg (by decide), show (min (max (1 : Int) 0) 4096).toNat = 1 from rfl]
  generalize vall (fun x y => sidesA xG x [y]) (fun c => (xT[c.toNat]?).getD []) VM [] 1 [3] 4 = q at h
  obtain ⟨q1, q2⟩ := q
  dsimp only at h
  subst h; rfl
end SX
namespace SX
open Go Go.Proofs
set_option maxHeartbeats 4000000 in
theorem crossed_spec (μ : PH) : Spec Tryd.prog 18 [] [ro μ] (fun r L => ∃ (W : HW) (μ' : PH), Le μ μ' ∧ r = .pointer (some ⟨W.p, 0, none⟩) ∧ W.Ok μ' ∧ nums W.G = xG ∧ W.T.map (·.2) = xT ∧ W.n = 5 ∧ L = [W.A st00, ro μ']) := by
 refine Spec.of 24 Tryd.func18 rfl rfl rfl ?_
 refine swp_seq ?_
 refine swp_region ?_
 refine s_pu (pu_assign rfl) ?_
 refine swl_sub _ .nil ?_
 refine swl_nil ?_
 refine then_n ?_
 refine swp_seq ?_
 refine swp_region ?_
 refine s_pu (pu_bld (qs := [(0, _), (1, _)]) rfl) ?_
 refine s_ef (ef_bldS (qs := [(0, _)]) rfl rfl rfl) ?_
 intro b5
 refine s_pu (pu_bld (qs := [(0, _), (1, _)]) rfl) ?_
 refine s_ef (ef_bldS (qs := [(0, _)]) rfl rfl rfl) ?_
 intro b7
 refine s_pu (pu_bld (qs := [(0, _), (1, _)]) rfl) ?_
 refine s_pu (pu_bld (qs := [(0, _), (1, _)]) rfl) ?_
 refine s_ef (ef_bldS (qs := [(0, _), (1, _)]) rfl rfl rfl) ?_
 intro b10
 refine s_pu (pu_assign rfl) ?_
 refine s_pu (pu_assign rfl) ?_
 refine s_pu (pu_assign rfl) ?_
 refine swl_sub _ (.cons (t := 1) rfl (.cons (t := 2) rfl (.cons (t := 3) rfl .nil))) ?_
 refine swl_nil ?_
 refine then_n ?_
 refine swp_seq ?_
 refine swp_region ?_
 refine s_ef (ef_bldS (qs := [(0, _)]) rfl rfl rfl) ?_
 intro b11
 refine s_ef (ef_bldS (qs := [(0, _)]) rfl rfl rfl) ?_
 intro b12
 refine s_ef (ef_bldS (qs := [(0, _), (1, _)]) rfl rfl rfl) ?_
 intro b13
 refine s_ef (ef_bldS (qs := [(0, _), (1, _)]) rfl rfl rfl) ?_
 intro b14
 refine s_ef (ef_bldS (qs := [(0, _), (1, _), (2, _), (3, _), (4, _)]) rfl rfl rfl) ?_
 intro b15
 refine s_pu (pu_move rfl) ?_
 refine s_pu (pu_move rfl) ?_
 refine s_pu (pu_move rfl) ?_
 refine s_pu (pu_move rfl) ?_
 refine s_pu (pu_move rfl) ?_
 refine s_ef (ef_bldS (qs := [(0, _), (1, _), (2, _), (3, _), (4, _)]) rfl rfl rfl) ?_
 intro b21
 refine s_pu (pu_bld (qs := [(0, _), (1, _)]) rfl) ?_
 refine swl_share (b := b5) (μ := μ) (by repeat (first | exact Split.nil | (apply Split.cons; (repeat (first | with_reducible exact Take.here | apply Take.there))))) fun μ1 h1 k5 => ?_
 refine swl_share (b := b7) (μ := μ1) (by repeat (first | exact Split.nil | (apply Split.cons; (repeat (first | with_reducible exact Take.here | apply Take.there))))) fun μ2 h2 k7 => ?_
 refine swl_share (b := b10) (μ := μ2) (by repeat (first | exact Split.nil | (apply Split.cons; (repeat (first | with_reducible exact Take.here | apply Take.there))))) fun μ3 h3 k10 => ?_
 refine swl_share (b := b11) (μ := μ3) (by repeat (first | exact Split.nil | (apply Split.cons; (repeat (first | with_reducible exact Take.here | apply Take.there))))) fun μ4 h4 k11 => ?_
 refine swl_share (b := b12) (μ := μ4) (by repeat (first | exact Split.nil | (apply Split.cons; (repeat (first | with_reducible exact Take.here | apply Take.there))))) fun μ5 h5 k12 => ?_
 refine swl_share (b := b13) (μ := μ5) (by repeat (first | exact Split.nil | (apply Split.cons; (repeat (first | with_reducible exact Take.here | apply Take.there))))) fun μ6 h6 k13 => ?_
 refine swl_share (b := b14) (μ := μ6) (by repeat (first | exact Split.nil | (apply Split.cons; (repeat (first | with_reducible exact Take.here | apply Take.there))))) fun μ7 h7 k14 => ?_
 refine swl_share (b := b15) (μ := μ7) (by repeat (first | exact Split.nil | (apply Split.cons; (repeat (first | with_reducible exact Take.here | apply Take.there))))) fun μ8 h8 k15 => ?_
 refine swl_share (b := b21) (μ := μ8) (by repeat (first | exact Split.nil | (apply Split.cons; (repeat (first | with_reducible exact Take.here | apply Take.there))))) fun μ9 h9 k21 => ?_
 have l8 := h9
 have l7 := h8.trans l8
 have l6 := h7.trans l7
 have l5 := h6.trans l6
 have l4 := h5.trans l5
 have l3 := h4.trans l4
 have l2 := h3.trans l3
 have l1 := h2.trans l2
 have l0 := h1.trans l1
 have p1 : Row μ9 (.slice (some ⟨b5, 0, none⟩) 1 1) 2 xp1.length (ens xp1) := (row_of_blk k5 rfl (by decide)).le l1
 have p2 : Row μ9 (.slice (some ⟨b7, 0, none⟩) 1 1) 2 xp2.length (ens xp2) := (row_of_blk k7 rfl (by decide)).le l2
 have pq : Row μ9 (.slice (some ⟨b10, 0, none⟩) 2 2) 2 xpq.length (ens xpq) := (row_of_blk k10 rfl (by decide)).le l3
 have r1 : Row μ9 (.slice (some ⟨b11, 0, none⟩) 1 1) 1 1 ([0].flatMap (icsk .i64)) := (row_of_blk (n := 1) (l := 1) (cs := [0].flatMap (icsk .i64)) k11 (by rfl) (by decide)).le l4
 have r2 : Row μ9 (.slice (some ⟨b12, 0, none⟩) 1 1) 1 1 ([0].flatMap (icsk .i64)) := (row_of_blk (n := 1) (l := 1) (cs := [0].flatMap (icsk .i64)) k12 (by rfl) (by decide)).le l5
 have r3 : Row μ9 (.slice (some ⟨b13, 0, none⟩) 2 2) 1 2 ([1, 2].flatMap (icsk .i64)) := (row_of_blk (n := 1) (l := 2) (cs := [1, 2].flatMap (icsk .i64)) k13 (by rfl) (by decide)).le l6
 have r4 : Row μ9 (.slice (some ⟨b14, 0, none⟩) 2 2) 1 2 ([2, 1].flatMap (icsk .i64)) := (row_of_blk (n := 1) (l := 2) (cs := [2, 1].flatMap (icsk .i64)) k14 (by rfl) (by decide)).le l7
 have hG : Graph μ9 (.slice (some ⟨b15, 0, none⟩) 5 5) [(.slice none 0 0, []), (.slice (some ⟨b11, 0, none⟩) 1 1, [0]), (.slice (some ⟨b12, 0, none⟩) 1 1, [0]), (.slice (some ⟨b13, 0, none⟩) 2 2, [1, 2]), (.slice (some ⟨b14, 0, none⟩) 2 2, [2, 1])] := by
  refine ⟨(row_of_blk k15 (by rfl) (by decide)).le l8, fun x hx => ?_⟩
  rcases List.mem_cons.1 hx with rfl | hx
  ·exact Row.nil _ _
  rcases List.mem_cons.1 hx with rfl | hx
  ·exact r1
  rcases List.mem_cons.1 hx with rfl | hx
  ·exact r2
  rcases List.mem_cons.1 hx with rfl | hx
  ·exact r3
  obtain rfl := List.mem_singleton.1 hx
  exact r4
 have u1 : U32s xp1 := fun e he => by rw [List.mem_singleton.1 he]; unfold U32; dsimp only; omega
 have u2 : U32s xp2 := fun e he => by rw [List.mem_singleton.1 he]; unfold U32; dsimp only; omega
 have uq : U32s xpq := fun e he => by
  rcases List.mem_cons.1 he with rfl | he
  ·unfold U32; dsimp only; omega
  ·rw [List.mem_singleton.1 he]; unfold U32; dsimp only; omega
 obtain ⟨w, hw, hwn, hwt, hwG, hwc⟩ : ∃ w : Wld, w.Ok μ9 ∧ nums w.G = xG ∧ (List.range 5).map (ofT w.T) = xT ∧ w.G.length = 5 ∧ w.cells = [.slice (some ⟨b15, 0, none⟩) 5 5, .slice (some ⟨b21, 0, none⟩) 5 5, .int .i64 0, .int .i64 0, .int .i64 0, .int .u32 0, .slice none 0 0] := by
  refine ⟨⟨.slice (some ⟨b15, 0, none⟩) 5 5, .slice (some ⟨b21, 0, none⟩) 5 5, .slice none 0 0, ⟨0, 0, 0, 0#32⟩, _, [(.slice (some ⟨b5, 0, none⟩) 1 1, xp1), (.slice (some ⟨b7, 0, none⟩) 1 1, xp2), (.slice (some ⟨b10, 0, none⟩) 2 2, xpq), (.slice (some ⟨b5, 0, none⟩) 1 1, xp1), (.slice (some ⟨b7, 0, none⟩) 1 1, xp2)], []⟩, ⟨hG, row_of_blk k21 (by rfl) (by decide), fun t ht => ?_, Row.nil _ _⟩, rfl, ?_, rfl, rfl⟩
  ·rcases List.mem_cons.1 ht with rfl | ht
   ·exact ⟨p1, u1⟩
   rcases List.mem_cons.1 ht with rfl | ht
   ·exact ⟨p2, u2⟩
   rcases List.mem_cons.1 ht with rfl | ht
   ·exact ⟨pq, uq⟩
   rcases List.mem_cons.1 ht with rfl | ht
   ·exact ⟨p1, u1⟩
   obtain rfl := List.mem_singleton.1 ht
   exact ⟨p2, u2⟩
  ·show [goodE xp1, goodE xp2, goodE xpq, goodE xp1, goodE xp2] = xT
   rw [x_good.2.1, x_good.2.2.1, x_good.2.2.2]
 refine s_ef (ef_fn (of_spec w μ9 hw 9 (by decide)) rfl (by rw [hwc]; rfl) (by repeat (first | exact Split.nil | (apply Split.cons; (repeat (first | with_reducible exact Take.here | apply Take.there)))))) ?_
 rintro v23 L1 ⟨μa, ha, hp⟩
 obtain ⟨W, rfl, hWok, hWG, hWn, hWT, rfl⟩ : ∃ W : HW, v23 = .pointer (some ⟨W.p, 0, none⟩) ∧ W.Ok μa ∧ W.G = w.G.take (min w.G.length 9) ∧ W.n = min w.G.length 9 ∧ W.T.map (·.2) = (List.range W.n).map (ofT w.T) ∧ L1 = [W.A st00, ro μa] := by
  rcases hp with ⟨h, _⟩ | h
  ·rw [show min w.G.length 9 = w.G.length by omega, List.take_length, hwn] at h; exact absurd x_good.1 h
  ·exact h
 have hWn5 : W.n = 5 := by rw [hWn, hwG]; rfl
 have hWx : nums W.G = xG := by rw [hWG, show min w.G.length 9 = w.G.length by omega, List.take_length, hwn]
 rw [hWn5, hwt] at hWT
 refine swl_app ?_
 refine s_pu (pu_assign rfl) ?_
 refine swl_sub _ (.cons (t := 0) rfl .nil) ?_
 refine swl_nil ?_
 refine then_n ?_
 refine swp_ret ?_
 exact done_ret [W.A st00, ro μa] (.tmp rfl .nil) ⟨W, μa, l0.trans ha, rfl, hWok, hWx, hWT, hWn5, rfl⟩ (by repeat (first | exact Split.nil | (apply Split.cons; (repeat (first | with_reducible exact Take.here | apply Take.there)))))
end SX
namespace SX
open Go Go.Proofs
theorem askB0 : AskB 0 st00 := fun _ => Nat.le_refl _
set_option maxHeartbeats 4000000 in
theorem crosses_spec (μ : PH) (hT : RowAt μ 1 0 tabV) : Spec Tryd.prog 8 [] [ro μ] (fun r L => r = .bool true ∧ ∃ μ', Le μ μ' ∧ L = [ro μ']) := by
 refine Spec.of 45 Tryd.func8 rfl rfl rfl ?_
 refine swp_seq ?_
 refine swp_region ?_
 refine s_pu (pu_assign rfl) ?_
 refine swl_sub _ .nil ?_
 refine swl_nil ?_
 refine then_n ?_
 refine swp_seq ?_
 refine swp_region ?_
 refine s_ef (ef_fn (crossed_spec μ) rfl rfl (by repeat (first | exact Split.nil | (apply Split.cons; (repeat (first | with_reducible exact Take.here | apply Take.there)))))) ?_
 rintro v10 L1 ⟨W, μ1, h1, rfl, hW, hg, ht, hn, rfl⟩
 refine swl_app ?_
 refine s_pu (pu_iface rfl) ?_
 refine s_ef (ef_fn (virtual_spec W μ1 hW (by omega) μ1 (Le.refl _) (hT.le h1) st00 0 askB0 (by omega) 3 4 9) rfl rfl (by repeat (first | exact Split.nil | (apply Split.cons; (repeat (first | with_reducible exact Take.here | apply Take.there)))))) ?_
 rintro v12 L1 ⟨tv, s2, μ2, h2, _, _, rfl, rfl⟩
 rw [virt_of hg ht, x_virt]
 refine swl_app ?_
 refine swl_share_own (v := tv) (μ := μ2) (by repeat (first | exact Split.nil | (apply Split.cons; (repeat (first | with_reducible exact Take.here | apply Take.there))))) fun μ3 h3 rt => ?_
 refine s_pu (pu_move rfl) ?_
 first | refine s_pu (pu_extractL rfl) ?_ | refine s_pu (pu_extract rfl rfl) ?_
 first | refine s_pu (pu_extractL rfl) ?_ | refine s_pu (pu_extract rfl rfl) ?_
 first | refine s_pu (pu_extractL rfl) ?_ | refine s_pu (pu_extract rfl rfl) ?_
 first | refine s_pu (pu_extractL rfl) ?_ | refine s_pu (pu_extract rfl rfl) ?_
 refine s_pu (pu_assign rfl) ?_
 refine s_pu (pu_assign rfl) ?_
 refine s_pu (pu_assign rfl) ?_
 refine s_pu (pu_assign rfl) ?_
 refine swl_sub _ (.cons (t := 1) rfl (.cons (t := 2) rfl (.cons (t := 3) rfl (.cons (t := 4) rfl .nil)))) ?_
 refine swl_nil ?_
 refine then_n ?_
 refine swp_seq ?_
 refine swp_region ?_
 refine s_ef (ef_fn (crossed_spec μ3) rfl rfl (by repeat (first | exact Split.nil | (apply Split.cons; (repeat (first | with_reducible exact Take.here | apply Take.there)))))) ?_
 rintro v18 L1 ⟨W', μ4, h4, rfl, hW', hg', ht', hn', rfl⟩
 refine swl_app ?_
 refine s_pu (pu_iface rfl) ?_
 refine s_ef (ef_fn (virtual_spec W' μ4 hW' (by omega) μ4 (Le.refl _) (hT.le (h1.trans (h2.trans (h3.trans h4)))) st00 0 askB0 (by omega) 3 4 1) rfl rfl (by repeat (first | exact Split.nil | (apply Split.cons; (repeat (first | with_reducible exact Take.here | apply Take.there)))))) ?_
 rintro v20 L1 ⟨tv2, s5, μ5, h5, _, _, rfl, rfl⟩
 rw [virt_of hg' ht', x_virt1]
 refine swl_app ?_
 refine s_pu (pu_move rfl) ?_
 first | refine s_pu (pu_extractL rfl) ?_ | refine s_pu (pu_extract rfl rfl) ?_
 first | refine s_pu (pu_extractL rfl) ?_ | refine s_pu (pu_extract rfl rfl) ?_
 first | refine s_pu (pu_extractL rfl) ?_ | refine s_pu (pu_extract rfl rfl) ?_
 first | refine s_pu (pu_extractL rfl) ?_ | refine s_pu (pu_extract rfl rfl) ?_
 refine s_pu (pu_assign rfl) ?_
 refine s_pu (pu_assign rfl) ?_
 refine s_pu (pu_assign rfl) ?_
 refine s_pu (pu_assign rfl) ?_
 refine swl_sub _ (.cons (t := 1) rfl (.cons (t := 2) rfl (.cons (t := 3) rfl (.cons (t := 4) rfl (.cons (t := 8) rfl .nil))))) ?_
 refine swl_nil ?_
 refine then_n ?_
 refine swp_seq ?_
 refine swp_region ?_
 refine s_pu (pu_move rfl) ?_
 refine s_pu (pu_move rfl) ?_
 refine s_on rfl rfl ?_
 refine s_pu (pu_move rfl) ?_
 refine s_on rfl rfl ?_
 refine s_pu (pu_eql rfl rfl) ?_
 first | refine s_pu (pu_pick_t rfl rfl) ?_ | refine s_pu (pu_pick_f rfl rfl) ?_
 refine s_pu (pu_move rfl) ?_
 refine s_on rfl rfl ?_
 refine s_pu (pu_move rfl) ?_
 refine s_on rfl rfl ?_
 refine s_pu (pu_eql rfl rfl) ?_
 first | refine s_pu (pu_pick_t rfl rfl) ?_ | refine s_pu (pu_pick_f rfl rfl) ?_
 refine s_pu (pu_move rfl) ?_
 refine s_on rfl rfl ?_
 refine s_pu (pu_move rfl) ?_
 refine s_on rfl rfl ?_
 refine s_pu (pu_eql rfl rfl) ?_
 first | refine s_pu (pu_pick_t rfl rfl) ?_ | refine s_pu (pu_pick_f rfl rfl) ?_
 refine s_pu (pu_move rfl) ?_
 refine s_on rfl rfl ?_
 refine s_pu (pu_move rfl) ?_
 refine s_on rfl rfl ?_
 refine s_pu (pu_bld (qs := [(0, _), (1, _)]) rfl) ?_
 refine s_on rfl rfl ?_
 refine s_pu (pu_bld (qs := [(0, _), (1, _)]) rfl) ?_
 refine s_on rfl rfl ?_
 refine s_ef (ef_bldS (qs := [(0, _), (1, _)]) rfl rfl rfl) ?_
 intro b42
 refine s_on rfl rfl ?_
 refine s_ef (ef_fn (same_lit μ5 tv b42 [(⟨#[112]⟩, 2), (⟨#[113]⟩, 3)] [(⟨#[112]⟩, 2), (⟨#[113]⟩, 3)] (rt.le (h4.trans h5)) (by decide) (cs := [.string ⟨#[112]⟩, .int .u32 2, .string ⟨#[113]⟩, .int .u32 3]) rfl) rfl rfl (by repeat (first | exact Split.nil | (apply Split.cons; (repeat (first | with_reducible exact Take.here | apply Take.there)))))) ?_
 rintro v43 L1 ⟨rfl, rfl⟩
 refine swl_app ?_
 first | refine s_pu (pu_pick_t rfl rfl) ?_ | refine s_pu (pu_pick_f rfl rfl) ?_
 refine s_pu (pu_assign rfl) ?_
 refine swl_sub _ (.cons (t := 0) rfl .nil) ?_
 refine swl_nil ?_
 refine then_n ?_
 refine swp_ret ?_
 refine done_retE [ro μ5] (.tmp rfl .nil) ⟨?_, μ5, h1.trans (h2.trans (h3.trans (h4.trans h5))), rfl⟩ (Split.ent' (by repeat (first | exact Split.nil | (apply Split.cons; (repeat (first | with_reducible exact Take.here | apply Take.there))))))
 show Value.bool (decide _) = _
 simp
end SX
namespace SX
open Go Go.Proofs
end SX
namespace SX
open Go Go.Proofs
theorem asked_nil (a b : Int) : Spec Tryd.prog 23 [.nilIface, .int .i64 a, .int .i64 b] [] (fun r L => r = .int .i64 1 ∧ L = []) := by
 refine Spec.of 24 Tryd.func23 rfl rfl rfl ?_
 refine swp_seq ?_
 refine swp_region ?_
 refine s_pu (pu_assign rfl) ?_
 refine swl_sub _ (.cons (t := 0) rfl (.cons (t := 1) rfl (.cons (t := 2) rfl .nil))) ?_
 refine swl_nil ?_
 refine then_n ?_
 refine swp_seq ?_
 refine swp_seq ?_
 refine swp_region ?_
 refine s_pu (pu_move rfl) ?_
 refine s_pu (pu_if_nil_nil rfl) ?_
 refine swl_sub _ (.cons (t := 0) rfl (.cons (t := 1) rfl (.cons (t := 2) rfl (.cons (t := 9) rfl .nil)))) ?_
 refine swl_nil ?_
 refine then_n ?_
 refine swp_cond (b := _) rfl (fun h9 => ?_) (fun h9 => by cases h9)
 refine swp_seq ?_
 refine swp_region ?_
 refine s_pu (pu_assign rfl) ?_
 refine swl_sub _ (.cons (t := 6) rfl .nil) ?_
 refine swl_nil ?_
 refine then_n ?_
 refine swp_ret ?_
 refine then_r ?_
 exact done_ret [] (.tmp rfl .nil) ⟨rfl, rfl⟩ (by repeat (first | exact Split.nil | (apply Split.cons; (repeat (first | with_reducible exact Take.here | apply Take.there)))))
theorem virtual_nil (a b c : Int) : Spec Tryd.prog 10 [.nilIface, .int .i64 a, .int .i64 b, .int .i64 c] [] (fun r L => r = .tuple #[.slice none 0 0, .bool false, .int .i64 0, .int .i64 1] ∧ L = []) := by
 refine Spec.of 55 Tryd.func10 rfl rfl rfl ?_
 refine swp_seq ?_
 refine swp_region ?_
 refine s_pu (pu_assign rfl) ?_
 refine s_pu (pu_assign rfl) ?_
 refine s_pu (pu_assign rfl) ?_
 refine s_pu (pu_assign rfl) ?_
 refine swl_sub _ (.cons (t := 0) rfl (.cons (t := 1) rfl (.cons (t := 2) rfl (.cons (t := 3) rfl .nil)))) ?_
 refine swl_nil ?_
 refine then_n ?_
 refine swp_seq ?_
 refine swp_seq ?_
 refine swp_region ?_
 refine s_pu (pu_move rfl) ?_
 refine s_pu (pu_move rfl) ?_
 refine s_pu (pu_move rfl) ?_
 refine s_ef (ef_fn (asked_nil a b) rfl rfl (by repeat (first | exact Split.nil | (apply Split.cons; (repeat (first | with_reducible exact Take.here | apply Take.there)))))) ?_
 rintro v19 L1 ⟨rfl, rfl⟩
 refine swl_app ?_
 refine s_pu (pu_assign rfl) ?_
 refine swl_sub _ (.cons (t := 0) rfl (.cons (t := 1) rfl (.cons (t := 2) rfl (.cons (t := 3) rfl (.cons (t := 12) rfl .nil))))) ?_
 refine swl_nil ?_
 refine then_n ?_
 refine swp_seq ?_
 refine swp_region ?_
 refine s_pu (pu_move rfl) ?_
 refine s_pu (pu_neq rfl rfl) ?_
 refine swl_sub _ (.cons (t := 0) rfl (.cons (t := 1) rfl (.cons (t := 2) rfl (.cons (t := 3) rfl (.cons (t := 12) rfl (.cons (t := 21) rfl .nil)))))) ?_
 refine swl_nil ?_
 refine then_n ?_
 refine swp_cond (b := _) rfl (fun h21 => ?_) (fun h21 => by cases h21)
 refine swp_seq ?_
 refine swp_region ?_
 refine s_pu (pu_move rfl) ?_
 refine s_pu (pu_assign rfl) ?_
 refine s_pu (pu_assign rfl) ?_
 refine s_pu (pu_assign rfl) ?_
 refine s_pu (pu_assign rfl) ?_
 refine swl_sub _ (.cons (t := 8) rfl (.cons (t := 9) rfl (.cons (t := 10) rfl (.cons (t := 11) rfl .nil)))) ?_
 refine swl_nil ?_
 refine then_n ?_
 refine swp_ret ?_
 refine then_r ?_
 exact done_ret [] (.tmp rfl (.tmp rfl (.tmp rfl (.tmp rfl .nil)))) ⟨rfl, rfl⟩ (by repeat (first | exact Split.nil | (apply Split.cons; (repeat (first | with_reducible exact Take.here | apply Take.there)))))
theorem vmerge_nil (a b c : Int) : Spec Tryd.prog 12 [.nilIface, .int .i64 a, .int .i64 b, .int .i64 c] [] (fun r L => r = .tuple #[.slice none 0 0, .slice none 0 0, .int .i64 0, .int .i64 1] ∧ L = []) := by
 refine Spec.of 45 Tryd.func12 rfl rfl rfl ?_
 refine swp_seq ?_
 refine swp_region ?_
 refine s_pu (pu_assign rfl) ?_
 refine s_pu (pu_assign rfl) ?_
 refine s_pu (pu_assign rfl) ?_
 refine s_pu (pu_assign rfl) ?_
 refine swl_sub _ (.cons (t := 0) rfl (.cons (t := 1) rfl (.cons (t := 2) rfl (.cons (t := 3) rfl .nil)))) ?_
 refine swl_nil ?_
 refine then_n ?_
 refine swp_seq ?_
 refine swp_region ?_
 refine s_pu (pu_move rfl) ?_
 refine s_pu (pu_move rfl) ?_
 refine s_pu (pu_move rfl) ?_
 refine s_pu (pu_move rfl) ?_
 refine s_ef (ef_fn (virtual_nil a b c) rfl rfl (by repeat (first | exact Split.nil | (apply Split.cons; (repeat (first | with_reducible exact Take.here | apply Take.there)))))) ?_
 rintro v23 L1 ⟨rfl, rfl⟩
 refine swl_app ?_
 refine s_pu (pu_move rfl) ?_
 first | refine s_pu (pu_extractL rfl) ?_ | refine s_pu (pu_extract rfl rfl) ?_
 first | refine s_pu (pu_extractL rfl) ?_ | refine s_pu (pu_extract rfl rfl) ?_
 first | refine s_pu (pu_extractL rfl) ?_ | refine s_pu (pu_extract rfl rfl) ?_
 first | refine s_pu (pu_extractL rfl) ?_ | refine s_pu (pu_extract rfl rfl) ?_
 refine s_pu (pu_assign rfl) ?_
 refine s_pu (pu_assign rfl) ?_
 refine s_pu (pu_assign rfl) ?_
 refine s_pu (pu_assign rfl) ?_
 refine swl_sub _ (.cons (t := 0) rfl (.cons (t := 1) rfl (.cons (t := 2) rfl (.cons (t := 12) rfl (.cons (t := 14) rfl (.cons (t := 15) rfl .nil)))))) ?_
 refine swl_nil ?_
 refine then_n ?_
 refine swp_seq ?_
 refine swp_seq ?_
 refine swp_region ?_
 refine s_pu (pu_move rfl) ?_
 refine s_pu (pu_neq rfl rfl) ?_
 refine swl_sub _ (.cons (t := 0) rfl (.cons (t := 1) rfl (.cons (t := 2) rfl (.cons (t := 12) rfl (.cons (t := 14) rfl (.cons (t := 15) rfl (.cons (t := 29) rfl .nil))))))) ?_
 refine swl_nil ?_
 refine then_n ?_
 refine swp_cond (b := _) rfl (fun h29 => ?_) (fun h29 => by cases h29)
 refine swp_seq ?_
 refine swp_region ?_
 refine s_pu (pu_move rfl) ?_
 refine s_pu (pu_assign rfl) ?_
 refine s_pu (pu_assign rfl) ?_
 refine s_pu (pu_assign rfl) ?_
 refine s_pu (pu_assign rfl) ?_
 refine swl_sub _ (.cons (t := 8) rfl (.cons (t := 9) rfl (.cons (t := 10) rfl (.cons (t := 11) rfl .nil)))) ?_
 refine swl_nil ?_
 refine then_n ?_
 refine swp_ret ?_
 refine then_r ?_
 exact done_ret [] (.tmp rfl (.tmp rfl (.tmp rfl (.tmp rfl .nil)))) ⟨rfl, rfl⟩ (by repeat (first | exact Split.nil | (apply Split.cons; (repeat (first | with_reducible exact Take.here | apply Take.there)))))
theorem wvirt_spec (W : WD) (μ0 μ : PH) (h : W.Ok μ0) (hl : Le μ0 μ) (hT : RowAt μ 1 0 tabV) (s a b lim : Int) : Spec Tryd.prog 10 [W.sv, .int .i64 a, .int .i64 b, .int .i64 lim] [W.A s, ro μ]
    (fun r L => ∃ (tv : Value) (t : List En) (s' : Int) (μ' : PH), Le μ μ' ∧ L = [own 52 2 tv t.length (ens t), W.A s', ro μ']) :=
  (XV.virtual_spec (W.vsrc μ0 h) μ hl hT s 0 trivial (by omega) a b lim).mono fun _ _ ⟨V, tv, s', μ', _, h1, _, _, _, h2⟩ => ⟨tv, V.1, s', μ', h1, h2⟩
theorem wvmerge_spec (W : WD) (μ0 μ : PH) (h : W.Ok μ0) (hl : Le μ0 μ) (hT : RowAt μ 1 0 tabV) (s a b lim : Int) : Spec Tryd.prog 12 [W.sv, .int .i64 a, .int .i64 b, .int .i64 lim] [W.A s, ro μ]
    (fun r L => ∃ (tv cv : Value) (t : List En) (cs : List Cf) (s' : Int) (μ' : PH), Le μ μ' ∧ L = [own 52 2 tv t.length (ens t), own 96 4 cv cs.length (cfs cs), W.A s', ro μ']) :=
  (XV.vmerge_spec (W.vsrc μ0 h) μ hl hT s 0 trivial (by omega) a b lim).mono fun _ _ ⟨M, tv, cv, s', μ', _, h1, _, _, _, h2⟩ => ⟨tv, cv, M.1, M.2.1, s', μ', h1, h2⟩
theorem flat_take2 : ∀ (l : List En) (k : Nat), (ens l).take (k * 2) = ens (l.take k)
  | [], k => by simp
  | e :: l, 0 => by simp
  | e :: l, k + 1 => by
    show (enc1 e ++ ens l).take ((k + 1) * 2) = enc1 e ++ ens (l.take k)
    rw [List.take_append, ← flat_take2 l k, enc1_len, show (k + 1) * 2 - 2 = k * 2 by omega, List.take_of_length_le (by rw [enc1_len]; omega)]
set_option maxHeartbeats 8000000 in
theorem wild_spec (μ : PH) (hT : RowAt μ 1 0 tabV) (m k0 : Int) (vG vN vT : Value) (G : List (Value × List Int)) (ns : List Int) (T : List (Value × List En)) (hG : Graph μ vG G) (hN : Row μ vN 1 ns.length (ns.flatMap (icsk .i64))) (hTt : Row μ vT 1 T.length (T.flatMap gTx)) (hTr : ∀ t ∈ T, Row μ t.1 2 t.2.length (ens t.2) ∧ U32s t.2) (a b lim : Int) :
  Spec Tryd.prog 6 [.agg #[.int .i64 m, vG, vN, .int .i64 k0], vT, .agg #[.int .i64 a, .int .i64 b, .int .i64 lim]] [ro μ] (LawOk μ) := by
 have hGs := hG.1.small
 have hNs := hN.small
 have hTs := hTt.small
 refine Spec.of 128 Tryd.func6 rfl rfl rfl ?_
 refine swp_seq ?_
 refine swp_region ?_
 refine s_ef (ef_box rfl rfl) ?_
 intro b3
 refine s_ef (ef_box rfl rfl) ?_
 intro b5
 refine s_pu (pu_assign rfl) ?_
 refine swl_sub _ (.cons (t := 1) rfl (.cons (t := 3) rfl (.cons (t := 5) rfl .nil))) ?_
 refine swl_nil ?_
 refine then_n ?_
 refine swp_seq ?_
 refine swp_seq ?_
 refine swp_region ?_
 refine s_ef (ef_fn (crosses_spec μ hT) rfl rfl (by repeat (first | exact Split.nil | (apply Split.cons; (repeat (first | with_reducible exact Take.here | apply Take.there)))))) ?_
 rintro v21 L1 ⟨rfl, μ1, h1, rfl⟩
 refine swl_app ?_
 refine s_pu (pu_not rfl) ?_
 refine swl_sub _ (.cons (t := 1) rfl (.cons (t := 3) rfl (.cons (t := 5) rfl (.cons (t := 22) rfl .nil)))) ?_
 refine swl_nil ?_
 refine then_n ?_
 refine swp_cond (b := _) rfl (fun h22 => by cases h22) (fun h22 => ?_)
 refine swp_skip ?_
 refine then_n ?_
 refine swp_seq ?_
 refine swp_seq ?_
 refine swp_region ?_
 first | refine s_pu (pu_fieldAddr0 rfl) ?_ | refine s_pu (pu_fieldAddr rfl) ?_
 refine s_rd (rd_load rfl rfl) ?_
 refine s_pu (pu_len_row (hG.le h1).1 rfl) ?_
 refine s_pu (pu_move rfl) ?_
 refine swl_sub _ (.cons (t := 1) rfl (.cons (t := 3) rfl (.cons (t := 5) rfl (.cons (t := 24) rfl (.cons (t := 25) rfl (.cons (t := 26) rfl .nil)))))) ?_
 refine swl_nil ?_
 refine then_n ?_
 refine swp_block ?_
 refine swp_loop (ι := Nat) (fun i env L => Sub env [(1, vT), (3, .pointer (some ⟨b3, 0, none⟩)), (5, .pointer (some ⟨b5, 0, none⟩)), (24, vG), (25, .int .i64 (G.length : Nat)), (26, .int .i64 (i : Nat))] ∧ Ent L [blk b3 56 [.int .i64 m, vG, vN, .int .i64 k0], blk b5 58 [.int .i64 a, .int .i64 b, .int .i64 lim], ro μ1] ∧ i ≤ G.length ∧ ∀ x ∈ G.take i, x.2.length ≤ 50) (fun i => G.length - i) 0 ⟨⟨rfl, rfl, rfl, rfl, rfl, rfl, trivial⟩, Split.ent' (by repeat (first | exact Split.nil | (apply Split.cons; (repeat (first | with_reducible exact Take.here | apply Take.there))))), Nat.zero_le _, fun x hx => by cases hx⟩ ?_
 rintro i env L ⟨hsub, hE, hi, hrows⟩
 refine swp_sub _ hsub ?_
 refine swp_ent hE ?_
 clear hsub hE env L
 refine swp_seq ?_
 refine swp_region ?_
 refine s_pu (pu_lss rfl rfl) ?_
 refine swl_sub _ (.cons (t := 1) rfl (.cons (t := 3) rfl (.cons (t := 5) rfl (.cons (t := 24) rfl (.cons (t := 25) rfl (.cons (t := 26) rfl (.cons (t := 27) rfl .nil))))))) ?_
 refine swl_nil ?_
 refine then_n ?_
 refine swp_seq ?_
 refine swp_cond (b := _) rfl (fun h27 => ?_) (fun h27 => ?_)
 ·skip
  have h27' : i < G.length := by have := of_decide_eq_true h27; omega
  obtain ⟨gb, off, cap, x, hv, hx, hxc, hxr, hnx⟩ := row_at (hG.le h1) h27'
  refine swp_skip ?_
  refine then_n ?_
  refine swp_seq ?_
  refine swp_block ?_
  refine swp_seq ?_
  refine swp_region ?_
  refine s_pu (pu_indexAddr (off + i * 1) (congrArg some hv) rfl (by omega) (by omega) (by rw [Int.toNat_natCast])) ?_
  refine s_rd (rd_ro rfl hxc) ?_
  refine s_pu (pu_assign rfl) ?_
  refine swl_sub _ (.cons (t := 1) rfl (.cons (t := 3) rfl (.cons (t := 5) rfl (.cons (t := 8) rfl (.cons (t := 24) rfl (.cons (t := 25) rfl (.cons (t := 26) rfl .nil))))))) ?_
  refine swl_nil ?_
  refine then_n ?_
  refine swp_seq ?_
  refine swp_region ?_
  refine s_pu (pu_move rfl) ?_
  refine s_pu (pu_len_row hxr rfl) ?_
  refine s_pu (pu_gtr rfl rfl) ?_
  refine swl_sub _ (.cons (t := 1) rfl (.cons (t := 3) rfl (.cons (t := 5) rfl (.cons (t := 24) rfl (.cons (t := 25) rfl (.cons (t := 26) rfl (.cons (t := 32) rfl .nil))))))) ?_
  refine swl_nil ?_
  refine then_n ?_
  refine swp_cond (b := _) rfl (fun h32 => ?_) (fun h32 => ?_)
  ·skip
   refine swp_seq ?_
   refine swp_region ?_
   refine s_pu (pu_assign rfl) ?_
   refine swl_sub _ (.cons (t := 6) rfl .nil) ?_
   refine swl_nil ?_
   refine then_n ?_
   refine swp_ret ?_
   refine block_r ?_
   refine then_r ?_
   refine then_r ?_
   refine block_r ?_
   refine then_r ?_
   exact done_ret [ro μ1] (.tmp rfl .nil) ⟨rfl, μ1, [], h1, rfl⟩ (by repeat (first | exact Split.nil | (apply Split.cons; (repeat (first | with_reducible exact Take.here | apply Take.there)))))
  ·skip
   have h32' : x.2.length ≤ 50 := by have := of_decide_eq_false h32; omega
   refine swp_skip ?_
   refine block_n ?_
   refine then_n ?_
   refine swp_region ?_
   refine s_pu (pu_add_as ((i + 1 : Nat) : Int) rfl rfl (by omega) (by omega) (by omega)) ?_
   refine s_pu (pu_move rfl) ?_
   refine swl_sub _ (.cons (t := 1) rfl (.cons (t := 3) rfl (.cons (t := 5) rfl (.cons (t := 24) rfl (.cons (t := 25) rfl (.cons (t := 26) rfl .nil)))))) ?_
   refine swl_nil ?_
   refine then_n ⟨i + 1, ⟨⟨rfl, rfl, rfl, rfl, rfl, rfl, trivial⟩, Split.ent' (by repeat (first | exact Split.nil | (apply Split.cons; (repeat (first | with_reducible exact Take.here | apply Take.there))))), by omega, ?_⟩, by omega⟩
   intro y hy
   rw [List.take_add_one, hx] at hy
   rcases List.mem_append.1 hy with hy | hy
   ·exact hrows y hy
   ·obtain rfl := List.mem_singleton.1 hy; exact h32'
 ·skip
  have h27' := of_decide_eq_false h27
  obtain rfl : i = G.length := by omega
  rw [List.take_length] at hrows
  obtain ⟨AG, cG, hvG⟩ := (hG.le h1).1.sl
  obtain ⟨kG, hkG⟩ : ∃ k : Nat, min (G.length : Int) 60 = (k : Int) := ⟨(min (G.length : Int) 60).toNat, by omega⟩
  obtain ⟨vG', hG', hpG⟩ := graph_take (P := Tryd.prog) (tG := 22) (hG.le h1) kG (by omega)
  obtain ⟨kN, hkN⟩ : ∃ k : Nat, min (ns.length : Int) 60 = (k : Int) := ⟨(min (ns.length : Int) 60).toNat, by omega⟩
  obtain ⟨vN', hN', hpN⟩ := Row.hi (P := Tryd.prog) (t := 43) (hN.le h1) kN (by omega)
  obtain ⟨AG', cG', hvG'⟩ := hG'.1.sl
  obtain ⟨AN', cN', hvN'⟩ := hN'.sl
  refine swp_exit ?_
  refine then_x ?_
  refine then_x ?_
  refine block_hit rfl ?_
  refine then_n ?_
  refine swp_seq ?_
  refine swp_draw [1, 4, 6, 11, 13] _ [] (by simp only [List.append_nil]; exact Ent.refl _) (by kernel_rfl) ?_
  first | refine d_pu 0 rfl (pu_fieldAddr0 rfl) (by kernel_rfl) (by kernel_rfl) (by kernel_rfl) ?_ | refine d_pu 0 rfl (pu_fieldAddr rfl) (by kernel_rfl) (by kernel_rfl) (by kernel_rfl) ?_
  refine d_rd 1 rfl (rd_load rfl rfl) rfl (by kernel_rfl) (by kernel_rfl) (by kernel_rfl) ?_
  refine d_pu 2 rfl (pu_min2 rfl rfl) (by kernel_rfl) (by kernel_rfl) (by kernel_rfl) ?_
  first | refine d_pu 3 rfl (pu_fieldAddr0 rfl) (by kernel_rfl) (by kernel_rfl) (by kernel_rfl) ?_ | refine d_pu 3 rfl (pu_fieldAddr rfl) (by kernel_rfl) (by kernel_rfl) (by kernel_rfl) ?_
  refine d_rd 4 rfl (rd_load rfl rfl) rfl (by kernel_rfl) (by kernel_rfl) (by kernel_rfl) ?_
  first | refine d_pu 5 rfl (pu_fieldAddr0 rfl) (by kernel_rfl) (by kernel_rfl) (by kernel_rfl) ?_ | refine d_pu 5 rfl (pu_fieldAddr rfl) (by kernel_rfl) (by kernel_rfl) (by kernel_rfl) ?_
  refine d_rd 6 rfl (rd_load rfl rfl) rfl (by kernel_rfl) (by kernel_rfl) (by kernel_rfl) ?_
  refine d_pu 7 rfl (pu_len_row (hG.le h1).1 rfl) (by kernel_rfl) (by kernel_rfl) (by kernel_rfl) ?_
  refine d_pu 8 rfl (pu_min2_as (kG : Int) rfl rfl hkG) (by kernel_rfl) (by kernel_rfl) (by kernel_rfl) ?_
  refine d_pu 9 rfl (hpG _ _ _ _ _ rfl rfl rfl) (by kernel_rfl) (by kernel_rfl) (by kernel_rfl) ?_
  first | refine d_pu 10 rfl (pu_fieldAddr0 rfl) (by kernel_rfl) (by kernel_rfl) (by kernel_rfl) ?_ | refine d_pu 10 rfl (pu_fieldAddr rfl) (by kernel_rfl) (by kernel_rfl) (by kernel_rfl) ?_
  refine d_rd 11 rfl (rd_load rfl rfl) rfl (by kernel_rfl) (by kernel_rfl) (by kernel_rfl) ?_
  first | refine d_pu 12 rfl (pu_fieldAddr0 rfl) (by kernel_rfl) (by kernel_rfl) (by kernel_rfl) ?_ | refine d_pu 12 rfl (pu_fieldAddr rfl) (by kernel_rfl) (by kernel_rfl) (by kernel_rfl) ?_
  refine d_rd 13 rfl (rd_load rfl rfl) rfl (by kernel_rfl) (by kernel_rfl) (by kernel_rfl) ?_
  refine d_pu 14 rfl (pu_len_row (hN.le h1) rfl) (by kernel_rfl) (by kernel_rfl) (by kernel_rfl) ?_
  refine d_pu 15 rfl (pu_min2_as (kN : Int) rfl rfl hkN) (by kernel_rfl) (by kernel_rfl) (by kernel_rfl) ?_
  refine d_pu 16 rfl (hpN _ _ _ _ _ rfl rfl rfl) (by kernel_rfl) (by kernel_rfl) (by kernel_rfl) ?_
  rw [hvG', hvN']
  refine d_pu 17 rfl (pu_bld (qs := [(0, _), (1, _), (2, _)]) rfl) (by kernel_rfl) (by kernel_rfl) (by kernel_rfl) ?_
  refine d_pu 18 rfl (pu_bld (qs := [(0, _)]) rfl) (by kernel_rfl) (by kernel_rfl) (by kernel_rfl) ?_
  first | refine d_fint 19 rfl (by kernel_rfl) (by kernel_rfl) (ef_box rfl rfl) ?_ | refine d_finf 19 rfl (by kernel_rfl) (by kernel_rfl) (ef_box rfl rfl) ?_
  intro b53
  refine d_pu 20 rfl (pu_assign rfl) (by kernel_rfl) (by kernel_rfl) (by kernel_rfl) ?_
  refine d_sub _ (.cons (t := 1) rfl (.cons (t := 5) rfl (.cons (t := 9) rfl .nil))) ?_
  first | refine d_nilt (by kernel_rfl) ?_ | refine d_nilf (by kernel_rfl) ?_
  refine then_n ?_
  refine swp_seq ?_
  refine swp_seq ?_
  obtain ⟨kT, hkT⟩ : ∃ k : Nat, min (T.length : Int) 10 = (k : Int) := ⟨(min (T.length : Int) 10).toNat, by omega⟩
  obtain ⟨vT', hT', hpT⟩ := Row.hi (P := Tryd.prog) (t := 23) (hTt.le h1) kT (by omega)
  have hTl : (T.take kT).length = kT := by rw [List.length_take]; omega
  have hNl : (ns.take kN).length = kN := by rw [List.length_take]; omega
  have hkT10 : kT ≤ 10 := by omega
  rw [Nat.mul_one, flat_take (f := gTx) (fun _ => rfl)] at hT'
  have hTr' : ∀ t ∈ T.take kT, Row μ1 t.1 2 t.2.length (ens t.2) ∧ U32s t.2 := fun t ht => ⟨((hTr t (List.mem_of_mem_take ht)).1).le h1, (hTr t (List.mem_of_mem_take ht)).2⟩
  generalize T.take kT = Tk at *
  refine swp_region ?_
  refine s_pu (pu_move rfl) ?_
  refine s_pu (pu_move rfl) ?_
  refine s_pu (pu_len_row (hTt.le h1) rfl) ?_
  refine s_pu (pu_min2_as (kT : Int) rfl rfl hkT) ?_
  refine s_pu (hpT _ _ _ _ _ rfl rfl rfl) ?_
  refine s_pu (pu_len_row hT' rfl) ?_
  refine s_pu (pu_move rfl) ?_
  refine swl_sub _ (.cons (t := 5) rfl (.cons (t := 9) rfl (.cons (t := 58) rfl (.cons (t := 59) rfl (.cons (t := 60) rfl .nil))))) ?_
  refine swl_nil ?_
  refine then_n ?_
  refine swp_block ?_
  refine swp_ent (L' := [own 33 1 (.slice none 0 0) 0 [], blk b53 61 [.int .i64 (min m 60), .slice AG' (G.take kG).length cG', .slice AN' kN cN', .int .i64 0, .slice none 0 0], blk b5 58 [.int .i64 a, .int .i64 b, .int .i64 lim], ro μ1]) (own_nil_ent.trans (Split.ent' (by repeat (first | exact Split.nil | (apply Split.cons; (repeat (first | with_reducible exact Take.here | apply Take.there))))))) ?_
  refine swp_loop (ι := Nat) (fun i env L => ∃ (tv : Value) (T' : List (Value × List En)), Sub env [(5, .pointer (some ⟨b5, 0, none⟩)), (9, .pointer (some ⟨b53, 0, none⟩)), (58, vT'), (59, .int .i64 (kT : Nat)), (60, .int .i64 (i : Nat))] ∧ Ent L [own 33 1 tv i (T'.flatMap gTx), blk b53 61 [.int .i64 (min m 60), .slice AG' (G.take kG).length cG', .slice AN' kN cN', .int .i64 0, tv], blk b5 58 [.int .i64 a, .int .i64 b, .int .i64 lim], ro μ1] ∧ T'.length = i ∧ i ≤ kT ∧ ∀ t ∈ T', Row μ1 t.1 2 t.2.length (ens t.2) ∧ t.2.length ≤ 20 ∧ U32s t.2) (fun i => kT - i) 0 ⟨_, [], ⟨rfl, rfl, rfl, rfl, rfl, trivial⟩, Ent.refl _, rfl, Nat.zero_le _, fun t ht => by cases ht⟩ ?_
  rintro i env L ⟨tv, T', hsub, hE, hTl', hi, hTo⟩
  refine swp_sub _ hsub ?_
  refine swp_ent hE ?_
  clear hsub hE env L
  refine swp_seq ?_
  refine swp_region ?_
  refine s_pu (pu_lss rfl rfl) ?_
  refine swl_sub _ (.cons (t := 5) rfl (.cons (t := 9) rfl (.cons (t := 58) rfl (.cons (t := 59) rfl (.cons (t := 60) rfl (.cons (t := 61) rfl .nil)))))) ?_
  refine swl_nil ?_
  refine then_n ?_
  refine swp_seq ?_
  refine swp_cond (b := _) rfl (fun h61 => ?_) (fun h61 => ?_)
  ·skip
   have h61' : i < kT := by have := of_decide_eq_true h61; omega
   obtain ⟨tb, to, tc, htv, _, _, hr⟩ := hT'.pos (by omega)
   obtain ⟨te, hte⟩ : ∃ te, Tk[i]? = some te := ⟨_, List.getElem?_eq_getElem (by omega)⟩
   have htc := (hr.elem (f := gTx) (n := 1) (fun _ => rfl) hte).cell
   obtain ⟨q1, q2⟩ := hTr' te (List.mem_of_getElem? hte)
   have hqs := q1.small
   obtain ⟨kE, hkE⟩ : ∃ k : Nat, min (te.2.length : Int) 20 = (k : Int) := ⟨(min (te.2.length : Int) 20).toNat, by omega⟩
   obtain ⟨vE, hE', hpE⟩ := Row.hi (P := Tryd.prog) (t := 33) q1 kE (by omega)
   have hEl : (te.2.take kE).length = kE := by rw [List.length_take]; omega
   obtain ⟨AE, cE, rfl⟩ := hE'.sl
   refine swp_skip ?_
   refine then_n ?_
   refine swp_seq ?_
   refine swp_block ?_
   refine swp_seq ?_
   refine swp_region ?_
   refine s_pu (pu_indexAddr (to + i * 1) (congrArg some htv) rfl (by omega) (by omega) (by rw [Int.toNat_natCast])) ?_
   refine s_rd (rd_ro rfl htc) ?_
   refine s_pu (pu_assign rfl) ?_
   refine swl_sub _ (.cons (t := 5) rfl (.cons (t := 9) rfl (.cons (t := 11) rfl (.cons (t := 58) rfl (.cons (t := 59) rfl (.cons (t := 60) rfl .nil)))))) ?_
   refine swl_nil ?_
   refine then_n ?_
   refine swp_draw [4] _ [] (by simp only [List.append_nil]; exact Ent.refl _) (by kernel_rfl) ?_
   refine d_pu 0 rfl (pu_move rfl) (by kernel_rfl) (by kernel_rfl) (by kernel_rfl) ?_
   refine d_pu 1 rfl (pu_move rfl) (by kernel_rfl) (by kernel_rfl) (by kernel_rfl) ?_
   first | refine d_pu 2 rfl (pu_nilCheck rfl) (by kernel_rfl) (by kernel_rfl) (by kernel_rfl) ?_ | refine d_pu 2 rfl (pu_nilCheck_fn rfl) (by kernel_rfl) (by kernel_rfl) (by kernel_rfl) ?_ | refine d_pu 2 rfl (pu_nilCheck_if rfl) (by kernel_rfl) (by kernel_rfl) (by kernel_rfl) ?_
   first | refine d_pu 3 rfl (pu_fieldAddr0 rfl) (by kernel_rfl) (by kernel_rfl) (by kernel_rfl) ?_ | refine d_pu 3 rfl (pu_fieldAddr rfl) (by kernel_rfl) (by kernel_rfl) (by kernel_rfl) ?_
   refine d_rd 4 rfl (rd_load rfl rfl) rfl (by kernel_rfl) (by kernel_rfl) (by kernel_rfl) ?_
   refine d_pu 5 rfl (pu_move rfl) (by kernel_rfl) (by kernel_rfl) (by kernel_rfl) ?_
   refine d_pu 6 rfl (pu_move rfl) (by kernel_rfl) (by kernel_rfl) (by kernel_rfl) ?_
   refine d_pu 7 rfl (pu_len_row q1 rfl) (by kernel_rfl) (by kernel_rfl) (by kernel_rfl) ?_
   refine d_pu 8 rfl (pu_min2_as (kE : Int) rfl rfl hkE) (by kernel_rfl) (by kernel_rfl) (by kernel_rfl) ?_
   refine d_pu 9 rfl (hpE _ _ _ _ _ rfl rfl rfl) (by kernel_rfl) (by kernel_rfl) (by kernel_rfl) ?_
   refine d_eft 10 rfl (by kernel_rfl) (ef_bldS (qs := [(0, _)]) rfl rfl rfl) ?_
   intro b74
   refine ⟨_, Split.ent (by repeat (first | exact Split.nil | (apply Split.cons; (repeat (first | with_reducible exact Take.here | apply Take.there))))), ?_⟩
   first | refine d_fint 11 rfl (by kernel_rfl) (by kernel_rfl) (ef_append_lit (l := i) (m := 1) rfl rfl (by repeat (first | exact Split.nil | (apply Split.cons; (repeat (first | with_reducible exact Take.here | apply Take.there))))) (by simp only [maxLen]; omega) (by omega)) ?_ | refine d_finf 11 rfl (by kernel_rfl) (by kernel_rfl) (ef_append_lit (l := i) (m := 1) rfl rfl (by repeat (first | exact Split.nil | (apply Split.cons; (repeat (first | with_reducible exact Take.here | apply Take.there))))) (by simp only [maxLen]; omega) (by omega)) ?_
   rintro v75 hv75
   obtain ⟨g7, c7, rfl⟩ := hv75 (by decide)
   first | refine d_pu 12 rfl (pu_nilCheck rfl) (by kernel_rfl) (by kernel_rfl) (by kernel_rfl) ?_ | refine d_pu 12 rfl (pu_nilCheck_fn rfl) (by kernel_rfl) (by kernel_rfl) (by kernel_rfl) ?_ | refine d_pu 12 rfl (pu_nilCheck_if rfl) (by kernel_rfl) (by kernel_rfl) (by kernel_rfl) ?_
   first | refine d_pu 13 rfl (pu_fieldAddr0 rfl) (by kernel_rfl) (by kernel_rfl) (by kernel_rfl) ?_ | refine d_pu 13 rfl (pu_fieldAddr rfl) (by kernel_rfl) (by kernel_rfl) (by kernel_rfl) ?_
   first | refine d_fin0t 14 rfl (by kernel_rfl) (by kernel_rfl) (ef_store rfl rfl rfl) ?_ | refine d_fin0f 14 rfl (by kernel_rfl) (by kernel_rfl) (ef_store rfl rfl rfl) ?_
   refine d_sub _ (.cons (t := 5) rfl (.cons (t := 9) rfl (.cons (t := 58) rfl (.cons (t := 59) rfl (.cons (t := 60) rfl .nil))))) ?_
   first | refine d_nilt (by kernel_rfl) ?_ | refine d_nilf (by kernel_rfl) ?_
   refine block_n ?_
   refine then_n ?_
   refine swp_region ?_
   refine s_pu (pu_add_as ((i + 1 : Nat) : Int) rfl rfl (by omega) (by omega) (by omega)) ?_
   refine s_pu (pu_move rfl) ?_
   refine swl_sub _ (.cons (t := 5) rfl (.cons (t := 9) rfl (.cons (t := 58) rfl (.cons (t := 59) rfl (.cons (t := 60) rfl .nil))))) ?_
   refine swl_nil ?_
   refine then_n ⟨i + 1, ⟨.slice (some ⟨g7, 0, none⟩) (i + 1) c7, T' ++ [(.slice AE kE cE, te.2.take kE)], ⟨rfl, rfl, rfl, rfl, rfl, trivial⟩, ?_, by rw [List.length_append, hTl']; rfl, h61', ?_⟩, by omega⟩
   ·rw [show (T' ++ [(Value.slice AE kE cE, te.2.take kE)]).flatMap gTx = T'.flatMap gTx ++ [.slice AE kE cE] by rw [List.flatMap_append]; rfl]
    exact Split.ent' (by repeat (first | exact Split.nil | (apply Split.cons; (repeat (first | with_reducible exact Take.here | apply Take.there)))))
   ·intro t ht
    rcases List.mem_append.1 ht with ht | ht
    ·exact hTo t ht
    ·obtain rfl := List.mem_singleton.1 ht
     dsimp only
     refine ⟨?_, by omega, fun e he => q2 e (List.mem_of_mem_take he)⟩
     rw [hEl]
     have e1 : (ens te.2).take (kE * 2) = ens (te.2.take kE) := flat_take2 te.2 kE
     rw [e1] at hE'
     exact hE'
  ·skip
   have h61' := of_decide_eq_false h61
   obtain rfl : i = kT := by omega
   refine swp_share_own (e := 33) (n := 1) (v := tv) (μ := μ1) (by repeat (first | exact Split.nil | (apply Split.cons; (repeat (first | with_reducible exact Take.here | apply Take.there))))) fun μ2 h2 rtv => ?_
   have hGk : ∀ x ∈ G.take kG, x.2.length ≤ 1000000 := fun x hx => Nat.le_trans (hrows x (List.mem_of_mem_take hx)) (by decide)
   rw [← hvG', ← hvN']
   obtain ⟨W, hWe⟩ : ∃ W : WD, W = ⟨b53, min m 60, vG', vN', tv, G.take kG, T'⟩ := ⟨_, rfl⟩
   have hW : W.Ok μ2 := by
    subst hWe
    exact ⟨hG'.le h2, hGk, by rw [← hTl'] at rtv; exact rtv, fun t ht => ⟨((hTo t ht).1).le h2, (hTo t ht).2⟩, by dsimp only; omega⟩
   refine swp_ent (L' := [W.A 0, blk b5 58 [.int .i64 a, .int .i64 b, .int .i64 lim], ro μ2]) (by
    subst hWe
    exact show Ent _ [blk b53 61 [.int .i64 (min m 60), vG', vN', .int .i64 0, tv], blk b5 58 [.int .i64 a, .int .i64 b, .int .i64 lim], ro μ2] from Split.ent' (by repeat (first | exact Split.nil | (apply Split.cons; (repeat (first | with_reducible exact Take.here | apply Take.there)))))) ?_
   have hpe : b53 = W.p := by rw [hWe]
   rw [hpe]
   refine swp_exit ?_
   refine then_x ?_
   refine then_x ?_
   refine block_hit rfl ?_
   refine then_n ?_
   refine swp_seq ?_
   refine swp_region ?_
   first | refine s_pu (pu_fieldAddr0 rfl) ?_ | refine s_pu (pu_fieldAddr rfl) ?_
   refine s_rd (rd_load rfl rfl) ?_
   refine s_pu (pu_min2 rfl rfl) ?_
   refine s_pu (pu_assign rfl) ?_
   refine swl_sub _ (.cons (t := 5) rfl (.cons (t := 9) rfl (.cons (t := 12) rfl .nil))) ?_
   refine swl_nil ?_
   refine then_n ?_
   refine swp_seq ?_
   refine swp_region ?_
   refine s_pu (pu_move rfl) ?_
   refine s_pu (pu_iface rfl) ?_
   first | refine s_pu (pu_fieldAddr0 rfl) ?_ | refine s_pu (pu_fieldAddr rfl) ?_
   refine s_rd (rd_load rfl rfl) ?_
   first | refine s_pu (pu_fieldAddr0 rfl) ?_ | refine s_pu (pu_fieldAddr rfl) ?_
   refine s_rd (rd_load rfl rfl) ?_
   refine s_pu (pu_move rfl) ?_
   refine s_ef (ef_fn (wvirt_spec W μ2 μ2 hW (Le.refl _) (hT.le (h1.trans h2)) 0 a b (min lim 50)) rfl rfl (by repeat (first | exact Split.nil | (apply Split.cons; (repeat (first | with_reducible exact Take.here | apply Take.there)))))) ?_
   rintro v89 L1 ⟨uv, ut, s3, μ3, h3, rfl⟩
   refine swl_app ?_
   refine swl_sub _ (.cons (t := 5) rfl (.cons (t := 9) rfl (.cons (t := 12) rfl .nil))) ?_
   refine swl_nil ?_
   refine then_n ?_
   refine swp_seq ?_
   refine swp_region ?_
   refine s_pu (pu_move rfl) ?_
   refine s_pu (pu_iface rfl) ?_
   first | refine s_pu (pu_fieldAddr0 rfl) ?_ | refine s_pu (pu_fieldAddr rfl) ?_
   refine s_rd (rd_load rfl rfl) ?_
   first | refine s_pu (pu_fieldAddr0 rfl) ?_ | refine s_pu (pu_fieldAddr rfl) ?_
   refine s_rd (rd_load rfl rfl) ?_
   refine s_pu (pu_move rfl) ?_
   refine s_ef (ef_fn (wvmerge_spec W μ2 μ3 hW h3 (hT.le (h1.trans (h2.trans h3))) s3 a b (min lim 50)) rfl rfl (by repeat (first | exact Split.nil | (apply Split.cons; (repeat (first | with_reducible exact Take.here | apply Take.there)))))) ?_
   rintro v97 L1 ⟨uv2, cv2, ut2, uc2, s4, μ4, h4, rfl⟩
   refine swl_app ?_
   refine swl_sub _ (.cons (t := 5) rfl .nil) ?_
   refine swl_nil ?_
   refine then_n ?_
   refine swp_seq ?_
   refine swp_region ?_
   first | refine s_pu (pu_fieldAddr0 rfl) ?_ | refine s_pu (pu_fieldAddr rfl) ?_
   refine s_rd (rd_load rfl rfl) ?_
   first | refine s_pu (pu_fieldAddr0 rfl) ?_ | refine s_pu (pu_fieldAddr rfl) ?_
   refine s_rd (rd_load rfl rfl) ?_
   first | refine s_pu (pu_fieldAddr0 rfl) ?_ | refine s_pu (pu_fieldAddr rfl) ?_
   refine s_rd (rd_load rfl rfl) ?_
   refine s_ef (ef_fn (virtual_nil a b lim) rfl rfl (by repeat (first | exact Split.nil | (apply Split.cons; (repeat (first | with_reducible exact Take.here | apply Take.there)))))) ?_
   rintro v105 L1 ⟨rfl, rfl⟩
   refine swl_app ?_
   refine s_pu (pu_move rfl) ?_
   first | refine s_pu (pu_extractL rfl) ?_ | refine s_pu (pu_extract rfl rfl) ?_
   first | refine s_pu (pu_extractL rfl) ?_ | refine s_pu (pu_extract rfl rfl) ?_
   first | refine s_pu (pu_extractL rfl) ?_ | refine s_pu (pu_extract rfl rfl) ?_
   first | refine s_pu (pu_extractL rfl) ?_ | refine s_pu (pu_extract rfl rfl) ?_
   refine s_pu (pu_assign rfl) ?_
   refine s_pu (pu_assign rfl) ?_
   refine s_pu (pu_assign rfl) ?_
   refine s_pu (pu_assign rfl) ?_
   refine swl_sub _ (.cons (t := 5) rfl (.cons (t := 16) rfl .nil)) ?_
   refine swl_nil ?_
   refine then_n ?_
   refine swp_seq ?_
   refine swp_region ?_
   first | refine s_pu (pu_fieldAddr0 rfl) ?_ | refine s_pu (pu_fieldAddr rfl) ?_
   refine s_rd (rd_load rfl rfl) ?_
   first | refine s_pu (pu_fieldAddr0 rfl) ?_ | refine s_pu (pu_fieldAddr rfl) ?_
   refine s_rd (rd_load rfl rfl) ?_
   first | refine s_pu (pu_fieldAddr0 rfl) ?_ | refine s_pu (pu_fieldAddr rfl) ?_
   refine s_rd (rd_load rfl rfl) ?_
   refine s_ef (ef_fn (vmerge_nil a b lim) rfl rfl (by repeat (first | exact Split.nil | (apply Split.cons; (repeat (first | with_reducible exact Take.here | apply Take.there)))))) ?_
   rintro v117 L1 ⟨rfl, rfl⟩
   refine swl_app ?_
   refine s_pu (pu_move rfl) ?_
   first | refine s_pu (pu_extractL rfl) ?_ | refine s_pu (pu_extract rfl rfl) ?_
   first | refine s_pu (pu_extractL rfl) ?_ | refine s_pu (pu_extract rfl rfl) ?_
   first | refine s_pu (pu_extractL rfl) ?_ | refine s_pu (pu_extract rfl rfl) ?_
   first | refine s_pu (pu_extractL rfl) ?_ | refine s_pu (pu_extract rfl rfl) ?_
   refine s_pu (pu_assign rfl) ?_
   refine s_pu (pu_assign rfl) ?_
   refine s_pu (pu_assign rfl) ?_
   refine s_pu (pu_assign rfl) ?_
   refine swl_sub _ (.cons (t := 16) rfl (.cons (t := 20) rfl .nil)) ?_
   refine swl_nil ?_
   refine then_n ?_
   refine swp_seq ?_
   refine swp_region ?_
   refine s_pu (pu_move rfl) ?_
   refine s_pu (pu_eql rfl rfl) ?_
   refine s_pu (pu_move rfl) ?_
   refine s_split 124 rfl (fun h124 => ?_) (fun h124 => by cases h124)
   refine s_on rfl rfl ?_
   refine s_pu (pu_move rfl) ?_
   refine s_on rfl rfl ?_
   refine s_pu (pu_eql rfl rfl) ?_
   first | refine s_pu (pu_pick_t rfl rfl) ?_ | refine s_pu (pu_pick_f rfl rfl) ?_
   refine s_pu (pu_assign rfl) ?_
   refine swl_sub _ (.cons (t := 6) rfl .nil) ?_
   refine swl_nil ?_
   refine then_n ?_
   refine swp_ret ?_
   exact done_ret [ro μ4] (.tmp rfl .nil) ⟨rfl, μ4, [], h1.trans (h2.trans (h3.trans h4)), rfl⟩ (by repeat (first | exact Split.nil | (apply Split.cons; (repeat (first | with_reducible exact Take.here | apply Take.there)))))
end SX
namespace Go.Proofs.YtkldhmbmahgnjaaDoor
open Go.ChangeShapes Go.WideShapes Go.ChangeAt Go.RowKit
theorem ownKnobF : ownKnob Tryd.prog.godebug = none := by kernel_rfl
theorem gTab : Tryd.prog.globalNamed "math/bits.deBruijn64tab" = some 1 := by kernel_rfl
theorem tTab : (Tryd.prog.globals[1]?).map (·.type) = some 186 := by kernel_rfl
theorem datum {H : Type} : (Rows.laid_math_bits_deBruijn64tab : DataW H) = .agg (Lib.deBruijn64tab.map fun n => .lit (.int .u8 (n : Nat))) := rfl
theorem tab_of {W : World} (h : laidMetH Tryd.prog Rows.vbaseStepsRow.laid W) : SX.RowAt (fun b => W.heap[b]?) 1 0 SX.tabV := by
  rw [MakeChecks.laidMetH_plain _ _ _ (by kernel_rfl)] at h
  obtain ⟨ps, ⟨g0, t0, cs0, f0, p0, q0, hg0, ht0, hv0, hd0, _, _⟩, _, _⟩ := h
  obtain rfl := Option.some.inj (gTab.symm.trans hg0)
  obtain rfl := Option.some.inj (tTab.symm.trans ht0)
  obtain ⟨xs, m, rfl, hx, _, hn, hel⟩ := DataW.trod_array Tryd.underlying186 hd0
  simp only [Prod.mk.injEq] at hx
  have hx1 := hx.1
  rw [datum] at hx1
  simp only [DataW.agg.injEq] at hx1
  have c5 : Tryd.prog.cellsOf 5 = 1 := by kernel_rfl
  have hlen : Lib.deBruijn64tab.length = 64 := rfl
  intro j u hj
  have hj64 : j < 64 := by
    have := (List.getElem?_eq_some_iff.1 hj).1
    simpa [SX.tabV, hlen] using this
  obtain ⟨k, hk⟩ : ∃ k, Lib.deBruijn64tab[j]? = some k := ⟨_, List.getElem?_eq_getElem (by omega)⟩
  have hu : u = .int .u8 (k : Nat) := by
    unfold SX.tabV at hj
    rw [List.getElem?_map, hk] at hj
    exact (Option.some.inj hj).symm
  obtain ⟨y, hy⟩ : ∃ y, xs[j]? = some y := ⟨_, List.getElem?_eq_getElem (by omega)⟩
  have h1 := hel j hj64
  rw [hy, c5, Nat.mul_one] at h1
  obtain ⟨n, e1, e2, _⟩ := DataW.trod_int Tryd.underlying5 h1
  have e3 : (xs.map (·.1))[j]? = some (.lit (.int .u8 n)) := by rw [List.getElem?_map, hy, e2]; rfl
  rw [← hx1, List.getElem?_map, hk] at e3
  have hnk : n = (k : Int) := by
    have := Option.some.inj e3
    simpa using this.symm
  have hc := World.var?_cell hg0 hv0 j
  have hcs : cs0[j]? = some (.int .u8 n) := by
    have : (cs0.toList.drop j)[0]? = some (.int .u8 n) := by
      have := congrArg (·[0]?) e1
      simpa [List.getElem?_take] using this
    rw [List.getElem?_drop, Nat.add_zero] at this
    simpa using this
  rw [hcs] at hc
  rw [Nat.zero_add, hu, ← hnk]
  exact (SX.spot_of_cell hc).2
theorem door_met (os : Os) (args : Array Value) : laidMetH Tryd.prog Rows.vbaseStepsRow.laid ((World.doorLaid Tryd.prog 400 os).forCall (fun _ _ => 0) ⟨#[], args, []⟩).memory :=
  laidMetH_of_parts3 (fuel := 8) (laidMet_of_run' 8 (by kernel_rfl) (by kernel_rfl)) (by kernel_rfl) (by kernel_rfl)
theorem ask3 : ∃ g0 g1 g2, Tryd.prog.underlying 58 = some (.struct #[g0, g1, g2]) ∧ (g0.type = 3 ∧ g0.offset = 0) ∧ (g1.type = 3 ∧ g1.offset = 1) ∧ g2.type = 3 ∧ g2.offset = 2 := ⟨_, _, _, Tryd.underlying58, ⟨rfl, rfl⟩, ⟨rfl, rfl⟩, rfl, rfl⟩
theorem wild4 : ∃ g0 g1 g2 g3, Tryd.prog.underlying 56 = some (.struct #[g0, g1, g2, g3]) ∧ (g0.type = 3 ∧ g0.offset = 0) ∧ (g1.type = 22 ∧ g1.offset = 1) ∧ (g2.type = 43 ∧ g2.offset = 2) ∧ g3.type = 3 ∧ g3.offset = 3 := ⟨_, _, _, _, Tryd.underlying56, ⟨rfl, rfl⟩, ⟨rfl, rfl⟩, ⟨rfl, rfl⟩, rfl, rfl⟩
end Go.Proofs.YtkldhmbmahgnjaaDoor
