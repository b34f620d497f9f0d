/- A part of the proof: walks of the program's functions, and the rules by which they go. -/
import Derived.Test.YtkldhmbmahgnjaaDoorBbf35d9cb
import Derived.Test.YtkldhmbmahgnjaaDoorB9b79eba3
import Derived.Test.YtkldhmbmahgnjaaDoorBe381e68c
import Derived.Test.YtkldhmbmahgnjaaDoorBda7d67b0
import Derived.Test.YtkldhmbmahgnjaaDoorB6031634f
import Derived.Test.YtkldhmbmahgnjaaDoorRows
import Derived.ProofKit
import Derived.LaidMore
import Derived.OpenShut
import Derived.Stop.Joined
namespace SX
open Go Go.Proofs
theorem gens_row {g : List (List Int)} {gs : List Int} (h : moreG [] g = some gs) {i : Nat} {r : List Int} (hi : g[i]? = some r) : r.length ≤ i := by
  obtain ⟨h1, h2⟩ := okRow_iff.1 (gens_at h hi).2
  have h3 := nodup_in (U := (List.range i).map fun k : Nat => (k : Int)) h2 fun p hp => List.mem_map.2 ⟨p.toNat, List.mem_range.2 (by have := h1 p hp; omega), by have := h1 p hp; omega⟩
  rwa [List.length_map, List.length_range] at h3
theorem more_row {G : List (Value × List Int)} {gs : List Int} (h : moreG [] (nums G) = some gs) {x : Value × List Int} (hx : x ∈ G) : x.2.length ≤ G.length := by
  obtain ⟨i, hi⟩ := List.getElem?_of_mem hx
  have hlt := (List.getElem?_eq_some_iff.1 hi).1
  have := gens_row h (i := i) (r := x.2) (by rw [List.getElem?_map, hi]; rfl)
  omega
set_option maxHeartbeats 2000000 in
theorem goodw_spec (μ : PH) (v : Value) (G : List (Value × List Int)) (mo : Nat) (kn : Int) (hG : Graph μ v G) (hmo : mo ≤ 1048576) :
    Spec Tryd.prog 19 [v, .int .i64 (mo : Nat), .int .i64 kn] [ro μ] (fun r L => ∃ μ', Le μ μ' ∧
      ((¬ chkFrom 0 (nums (G.take (min G.length mo))) = 0 ∧ r = .pointer none ∧ L = [ro μ'])
       ∨ ∃ p v' vn gs, r = .pointer (some ⟨p, 0, none⟩) ∧ Graph μ' v' (G.take (min G.length mo)) ∧ moreG [] (nums (G.take (min G.length mo))) = some gs ∧ Row μ' vn 1 (cutG kn.toNat gs).length ((cutG kn.toNat gs).flatMap (icsk .i64)) ∧ L = [gA p v' vn (min G.length mo) noAsk, ro μ'])) := by
  refine Spec.of 42 Tryd.func19 rfl rfl rfl ?_
  refine swp_seq ?_
  refine swp_region ?_
  refine s_pu (pu_assign rfl) ?_
  refine swl_sub _ (.cons (t := 0) rfl (.cons (t := 1) rfl (.cons (t := 2) rfl .nil))) ?_
  refine swl_nil ?_
  refine then_n ?_
  refine swp_seq ?_
  obtain ⟨v', hG1, hsl⟩ := graph_take (P := Tryd.prog) (tG := 22) hG (min G.length mo) (Nat.min_le_left _ _)
  have hmn : (min (G.length : Int) (mo : Int)) = ((min G.length mo : Nat) : Int) := by omega
  have hlen1 : (G.take (min G.length mo)).length = min G.length mo := by rw [List.length_take]; omega
  have hml : min G.length mo ≤ 1048576 := by omega
  generalize hm : min G.length mo = m at *
  generalize G.take m = Gm at *
  refine swp_region ?_
  refine s_pu (pu_move rfl) ?_
  refine s_pu (pu_move rfl) ?_
  refine s_pu (pu_len_row hG.1 rfl) ?_
  refine s_pu (pu_move rfl) ?_
  refine s_pu (pu_min2 rfl rfl) ?_
  rw [hmn]
  refine s_pu (hsl _ _ _ .i64 _ rfl rfl rfl) ?_
  refine s_pu (pu_assign rfl) ?_
  refine swl_sub _ (.cons (t := 0) rfl (.cons (t := 2) rfl .nil)) ?_
  refine swl_nil ?_
  refine then_n ?_
  refine swp_seq ?_
  refine swp_seq ?_
  refine swp_region ?_
  refine s_pu (pu_move rfl) ?_
  refine s_ef (ef_fn (rcheck_spec μ v' Gm hG1 (by omega)) rfl rfl (by repeat (first | exact Split.nil | (apply Split.cons; (repeat (first | with_reducible exact Take.here | apply Take.there)))))) ?_
  rintro v17 L1 ⟨rfl, rfl⟩
  refine swl_app ?_
  refine s_pu (pu_neq rfl rfl) ?_
  refine swl_sub _ (.cons (t := 0) rfl (.cons (t := 2) rfl (.cons (t := 18) rfl .nil))) ?_
  refine swl_nil ?_
  refine then_n ?_
  refine swp_cond (b := _) rfl (fun h18 => ?_) (fun h18 => ?_)
  · skip   -- 18 T
    have hc : ¬ chkFrom 0 (nums Gm) = 0 := by simpa using h18
    refine swp_seq ?_
    refine swp_region ?_
    refine s_pu (pu_assign rfl) ?_
    refine swl_sub _ (.cons (t := 6) rfl .nil) ?_
    refine swl_nil ?_
    refine then_n ?_
    refine swp_ret ?_
    refine then_r ?_
    exact done_ret [ro μ] (.tmp rfl .nil) ⟨μ, Le.refl _, .inl ⟨hc, rfl, rfl⟩⟩ (by repeat (first | exact Split.nil | (apply Split.cons; (repeat (first | with_reducible exact Take.here | apply Take.there)))))
  · skip   -- 18 F
    have hc : chkFrom 0 (nums Gm) = 0 := by simpa using h18
    obtain ⟨a, ha⟩ : ∃ a, moreG [] (nums Gm) = some a := by
      have hs : (moreG [] (nums Gm)).isSome = true ↔ chkFrom 0 (nums Gm) = 0 := moreG_chk (all := [])
      exact Option.isSome_iff_exists.1 (hs.2 hc)
    have hrows1 : ∀ x ∈ Gm, x.2.length ≤ 1048576 := fun x hx => by
      have := more_row ha hx
      omega
    have hal : a.length = m := by rw [gens_len ha, List.length_map, hlen1]
    have hyes := moreL_some ha
    refine swp_skip ?_
    refine then_n ?_
    refine swp_seq ?_
    refine swp_region ?_
    refine s_pu (pu_move rfl) ?_
    refine s_ef (ef_fn (rall_spec μ v' Gm hG1 (by omega) hrows1) rfl rfl (by repeat (first | exact Split.nil | (apply Split.cons; (repeat (first | with_reducible exact Take.here | apply Take.there)))))) ?_
    rintro v21 L1 ⟨lv, rfl, rfl⟩
    refine swl_app ?_
    rw [hyes.1, hyes.2, show a.drop ([] : List Int).length = a from rfl]
    refine swl_fact (fun m h => own_shape .here h) fun hs1 => ?_
    have hform := shape_len hs1
    refine s_pu (pu_move rfl) ?_
    first | refine s_pu (pu_extractL rfl) ?_ | refine s_pu (pu_extract rfl rfl) ?_
    first | refine s_pu (pu_extractL rfl) ?_ | refine s_pu (pu_extract rfl rfl) ?_
    refine s_pu (pu_assign rfl) ?_
    refine s_pu (pu_assign rfl) ?_
    refine swl_sub _ (.cons (t := 0) rfl (.cons (t := 2) rfl (.cons (t := 7) rfl .nil))) ?_
    refine swl_nil ?_
    refine then_n ?_
    refine swp_seq ?_
    refine swp_seq ?_
    refine swp_region ?_
    refine s_pu (pu_move rfl) ?_
    refine s_pu (pu_max2 rfl rfl) ?_
    rw [show max kn 0 = ((kn.toNat : Nat) : Int) by omega]
    generalize kn.toNat = kk at *
    refine s_pu (pu_assign rfl) ?_
    refine swl_sub _ (.cons (t := 0) rfl (.cons (t := 7) rfl (.cons (t := 9) rfl .nil))) ?_
    refine swl_nil ?_
    refine then_n ?_
    refine swp_block ?_
    rw [ncs_of, ncs_ext (d := fun j => if kk ≤ j ∧ j < kk then 1024 else a.getD j 0) (fun j _ => (if_neg (by omega)).symm)]
    refine swp_sub _ (.cons (t := 0) rfl (.cons (t := 7) rfl (.cons (t := 9) rfl .nil))) ?_
    refine swp_loop (ι := Nat) (fun i env L => env = [(0, v'), (7, lv), (9, .int .i64 (i : Nat))] ∧ L = [own 3 1 lv a.length (ncs a.length (fun j => if kk ≤ j ∧ j < i then 1024 else a.getD j 0)), ro μ] ∧ kk ≤ i) (fun i => a.length - i) kk ⟨rfl, rfl, Nat.le_refl _⟩ ?_
    rintro i env L ⟨rfl, rfl, hi⟩
    refine swp_seq ?_
    refine swp_seq ?_
    refine swp_region ?_
    refine s_pu (pu_move rfl) ?_
    refine s_pu (pu_move rfl) ?_
    refine s_pu (pu_len_own hform rfl) ?_
    refine s_pu (pu_lss rfl rfl) ?_
    refine swl_sub _ (.cons (t := 0) rfl (.cons (t := 7) rfl (.cons (t := 9) rfl (.cons (t := 29) rfl .nil)))) ?_
    refine swl_nil ?_
    refine then_n ?_
    refine swp_cond (b := _) rfl (fun h29 => ?_) (fun h29 => ?_)
    · skip   -- 29 T
      have h29' : i < a.length := by have := of_decide_eq_true h29; omega
      refine swp_own (fun h0 l0 _ => by omega) (fun b1 c1 ex1 hv1 w1 w2 w3 w4 => ?_)
      subst hv1
      refine swp_skip ?_
      refine then_n ?_
      refine swp_seq ?_
      refine swp_block ?_
      refine swp_region ?_
      refine s_pu (pu_move rfl) ?_
      refine s_pu (pu_move rfl) ?_
      refine s_pu (pu_indexAddr i rfl rfl (by omega) (by omega) (by omega)) ?_
      refine s_ef0 (ef_storeP rfl rfl rfl (by rw [List.length_append, ncs_len]; omega)) ?_
      refine swl_sub _ (.cons (t := 0) rfl (.cons (t := 7) rfl (.cons (t := 9) rfl .nil))) ?_
      rw [List.set_append_left (h := by rw [ncs_len]; exact h29'), ncs_set (d := fun j => if kk ≤ j ∧ j < i + 1 then 1024 else a.getD j 0) (fun j => by
        by_cases e : j = i
        · subst e; rw [if_pos rfl, if_pos ⟨hi, Nat.lt_succ_self _⟩]
        · rw [if_neg e]
          by_cases h : kk ≤ j ∧ j < i
          · rw [if_pos h, if_pos (by omega)]
          · rw [if_neg h, if_neg (by omega)])]
      refine swl_ent (own_close (n := 1) (by rw [ncs_len]; omega) w4 w1 w2) ?_
      refine swl_nil ?_
      refine block_n ?_
      refine then_n ?_
      refine swp_region ?_
      refine s_pu (pu_move rfl) ?_
      refine s_pu (pu_add_as ((i + 1 : Nat) : Int) rfl rfl (by omega) (by omega) (by omega)) ?_
      refine s_pu (pu_assign rfl) ?_
      refine swl_sub _ (.cons (t := 0) rfl (.cons (t := 7) rfl (.cons (t := 9) rfl .nil))) ?_
      refine swl_nil ?_
      exact then_n ⟨i + 1, ⟨rfl, rfl, by omega⟩, by omega⟩
    · skip   -- 29 F
      have h29' := of_decide_eq_false h29
      rw [ncs_ext (d := fun j => if j < kk then a.getD j 0 else 1024) (fun j hj => by
        by_cases h : j < kk
        · rw [if_pos h, if_neg (by omega)]
        · rw [if_neg h, if_pos (by omega)]), ← ncs_cut]
      have hcl := cutG_len kk a
      rw [← hcl]
      refine swp_share_own (μ := μ) (by repeat (first | exact Split.nil | (apply Split.cons; (repeat (first | with_reducible exact Take.here | apply Take.there))))) fun μ4 h4 r4 => ?_
      obtain ⟨A9, c9, rfl⟩ := r4.sl
      obtain ⟨A8, c8, rfl⟩ := hG1.1.sl
      refine swp_exit ?_
      refine then_x ?_
      refine then_x ?_
      refine block_hit rfl ?_
      refine then_n ?_
      refine swp_seq ?_
      refine swp_region ?_
      refine s_pu (pu_move rfl) ?_
      refine s_pu (pu_move rfl) ?_
      refine s_pu (pu_move rfl) ?_
      refine s_pu (pu_len_row hG1.1 rfl) ?_
      refine s_ef (ef_make1 m rfl rfl (by rw [hlen1]) (by omega) (by simp only [maxLen]; omega)) ?_
      rintro b39
      skip
      refine s_pu (pu_bld (qs := [(0, _), (1, _), (2, _)]) rfl) ?_
      refine s_ef (ef_box rfl rfl) ?_
      intro b41
      refine s_pu (pu_assign rfl) ?_
      refine swl_sub _ (.cons (t := 6) rfl .nil) ?_
      rw [show List.replicate m (Value.int .i64 0) = askV m noAsk from ncs_zero m]
      refine swl_ent (Split.ent' (K := [blk b39 3 (askV m noAsk), blk b41 45 [.slice A8 Gm.length c8, .slice A9 (cutG kk a).length c9, .slice (some ⟨b39, 0, none⟩) m m], ro μ4]) (by repeat (first | exact Split.nil | (apply Split.cons; (repeat (first | with_reducible exact Take.here | apply Take.there)))))) ?_
      refine swl_ent (own_full (by unfold askV; rw [ncs_len]) (by simp only [maxLen]; omega)) ?_
      refine swl_nil ?_
      refine then_n ?_
      refine swp_ret ?_
      refine done_retE [gA b41 (.slice A8 Gm.length c8) (.slice A9 (cutG kk a).length c9) m noAsk, ro μ4] (.tmp rfl .nil) ⟨μ4, h4, .inr ⟨b41, _, _, a, rfl, hG1.le h4, ha, r4, rfl⟩⟩ ?_
      exact (Ent.perm (.swap _ _ _)).trans gA_close
theorem good2w_spec (μ : PH) (v : Value) (G : List (Value × List Int)) (mo : Nat) (kn : Int) (hG : Graph μ v G) (hmo : mo ≤ 65536) :
    Spec Tryd.prog 19 [v, .int .i64 (mo : Nat), .int .i64 kn] [ro μ] (fun r L => ∃ μ' o A, Le μ μ' ∧ r = .pointer o ∧ L = [A, ro μ'] ∧ GoodIs G mo kn μ' o A) := by
  refine Spec.ent3 (goodw_spec μ v G mo kn hG (by omega)) fun r L ⟨μ', h1, h2⟩ => ?_
  have hl : (G.take (min G.length mo)).length = min G.length mo := by rw [List.length_take]; omega
  rcases h2 with ⟨k1, rfl, rfl⟩ | ⟨p, v', vn, gs, rfl, k1, k2, k3, rfl⟩
  · exact ⟨_, star_close (K := []) (L := [ro μ']), μ', none, star [], h1, rfl, rfl, .inl ⟨rfl, k1⟩⟩
  · exact ⟨_, Ent.refl _, μ', _, _, h1, rfl, rfl, .inr ⟨p, v', vn, gs, rfl, ⟨k1, k2, k3, by omega, fun x hx => by have := more_row k2 hx; omega⟩, by rw [hl]⟩⟩
end SX
namespace SX
open Go Go.Proofs
/-- the world of a law -/
structure Wld where
  vG : Value
  vT : Value
  vF : Value
  S : Sett
  G : List (Value × List Int)
  T : List (Value × List En)
  F : List Bool
abbrev Wld.cells (w : Wld) : List Value := [w.vG, w.vT, .int .i64 w.S.ha, .int .i64 w.S.pe, .int .i64 w.S.mo, .int .u32 (w.S.seed.toNat : Nat), w.vF]
structure Wld.Ok (w : Wld) (μ : PH) : Prop where
  hG : Graph μ w.vG w.G
  hT : Row μ w.vT 1 w.T.length (w.T.flatMap gT)
  hTr : ∀ t ∈ w.T, Row μ t.1 2 t.2.length (ens t.2) ∧ U32s t.2
  hF : Row μ w.vF 1 w.F.length (w.F.map .bool)
theorem Wld.Ok.le {w : Wld} {μ μ' : PH} (h : w.Ok μ) (k : Le μ μ') : w.Ok μ' := ⟨h.hG.le k, h.hT.le k, fun t ht => ⟨(h.hTr t ht).1.le k, (h.hTr t ht).2⟩, h.hF.le k⟩
def ofT (T : List (Value × List En)) (c : Nat) : List En := if T.length = 0 then [] else goodE ((T[c % T.length]?).getD (.slice none 0 0, [])).2
theorem ofT_ok {T : List (Value × List En)} (hu : ∀ t ∈ T, U32s t.2) (c : Nat) : (ofT T c).length ≤ 100 ∧ GoodT (ofT T c) ∧ U32s (ofT T c) := by
  unfold ofT
  split
  · exact ⟨Nat.zero_le _, good_nil, fun _ h => by cases h⟩
  · have hm : c % T.length < T.length := Nat.mod_lt _ (by omega)
    rw [List.getElem?_eq_getElem hm]
    exact ⟨goodE_len _, good_good _, u32s_good (hu _ (List.getElem_mem hm))⟩
theorem fil_zero (n : Nat) : ((List.replicate n ()).flatMap fun _ => [Value.int .i64 0, .string ⟨#[]⟩]) = (List.replicate n ((0, []) : Fil)).flatMap encF := by
  induction n with
  | zero => rfl
  | succ n ih => rw [List.replicate_succ, List.replicate_succ, List.flatMap_cons, List.flatMap_cons, ih]; rfl
theorem bcn_zero (n : Nat) : ((List.replicate n ()).flatMap fun _ => [Value.bool false]) = bcn n fun _ => false := by
  have e : ∀ l : List Nat, ((List.replicate l.length ()).flatMap fun _ => [Value.bool false]) = l.map fun _ => Value.bool false := fun l => by
    induction l with
    | nil => rfl
    | cons a l ih => rw [List.length_cons, List.replicate_succ, List.flatMap_cons, ih]; rfl
  have := e (List.range n)
  rwa [List.length_range] at this
theorem ro_less {μ μ' : PH} (h : Le μ μ') {L : List Assn} : Ent (ro μ' :: L) (ro μ :: L) := Ent.imp fun _ hm b o hb => hm b o (h b o hb)
/-- a filter, and nothing in memory -/
theorem sof2_spec (μ : PH) (s : Sett) (va vb : Value) (a b : List En) (ha : Row μ va 2 a.length (ens a)) (hb : Row μ vb 2 b.length (ens b)) (hsz : a.length ≤ 100 ∧ b.length ≤ 100) (ga : GoodT a) (gb : GoodT b) :
    Spec Tryd.prog 21 [.agg (encS s).toArray, va, vb] [ro μ] (fun r L => ∃ (f : Fil) (e : Int), r = .tuple #[.agg (encF f).toArray, .int .i64 e] ∧ f.2.length ≤ 1048576 ∧ L = [ro μ]) :=
  Spec.ent3 (sof_spec μ s va vb a b ha hb hsz ga gb) fun r L ⟨f, e, μ', h1, h2, h3, _, h4⟩ => ⟨[ro μ], by rw [h4]; exact ro_less h1, f, e, h2, h3, rfl⟩
def st00 : HSt := ⟨noAsk, fun _ => false, fun _ => false⟩
set_option maxHeartbeats 8000000 in
theorem of_spec (w : Wld) (μ : PH) (h : w.Ok μ) (mo : Nat) (hmo : mo ≤ 10000) :
    Spec Tryd.prog 9 [.agg w.cells.toArray, .int .i64 (mo : Nat)] [ro μ] (fun r L => ∃ μ', Le μ μ' ∧
      ((¬ chkFrom 0 (nums (w.G.take (min w.G.length mo))) = 0 ∧ r = .pointer none ∧ L = [ro μ']) ∨
       ∃ W : HW, r = .pointer (some ⟨W.p, 0, none⟩) ∧ W.Ok μ' ∧ W.G = w.G.take (min w.G.length mo) ∧ W.n = min w.G.length mo ∧ W.T.map (·.2) = (List.range W.n).map (ofT w.T) ∧ L = [W.A st00, ro μ'])) := by
  refine Spec.of 113 Tryd.func9 rfl rfl rfl ?_
  refine swp_seq ?_
  refine swp_region ?_
  refine s_ef (ef_box rfl rfl) ?_
  intro b2
  refine s_pu (pu_assign rfl) ?_
  refine swl_sub _ (.cons (t := 1) rfl (.cons (t := 2) rfl .nil)) ?_
  refine swl_nil ?_
  refine then_n ?_
  refine swp_seq ?_
  refine swp_region ?_
  first | refine s_pu (pu_fieldAddr0 rfl) ?_ | refine s_pu (pu_fieldAddr rfl) ?_
  refine s_rd (rd_load rfl rfl) ?_
  refine s_pu (pu_move rfl) ?_
  refine s_pu (pu_move rfl) ?_
  refine s_ef (ef_fn (good2w_spec μ w.vG w.G mo mo h.hG (by omega)) rfl rfl (by repeat (first | exact Split.nil | (apply Split.cons; (repeat (first | with_reducible exact Take.here | apply Take.there)))))) ?_
  rintro v15 L1 ⟨μ1, o, A, h1, rfl, rfl, hp⟩
  skip
  refine s_pu (pu_assign rfl) ?_
  refine swl_sub _ (.cons (t := 2) rfl (.cons (t := 5) rfl .nil)) ?_
  refine swl_nil ?_
  refine then_n ?_
  refine swp_seq ?_
  refine swp_seq ?_
  refine swp_region ?_
  refine s_pu (pu_move rfl) ?_
  refine s_pu (pu_ptr_eq_nil rfl rfl) ?_
  refine swl_sub _ (.cons (t := 2) rfl (.cons (t := 5) rfl (.cons (t := 17) rfl .nil))) ?_
  refine swl_nil ?_
  refine then_n ?_
  refine swp_cond (b := _) rfl (fun h17 => ?_) (fun h17 => ?_)
  · skip   -- 17 T
    refine swp_seq ?_
    refine swp_region ?_
    refine s_pu (pu_assign rfl) ?_
    refine swl_sub _ (.cons (t := 4) rfl .nil) ?_
    refine swl_nil ?_
    refine then_n ?_
    refine swp_ret ?_
    refine then_r ?_
    rcases hp with ⟨rfl, k1⟩ | ⟨p, v', vn, gs, rfl, _⟩
    · exact done_retE [ro μ1] (.tmp rfl .nil) ⟨μ1, h1, .inl ⟨k1, rfl, rfl⟩⟩ (show Ent (A :: ro μ1 :: _) _ from Ent.drop.trans (Split.ent' (by repeat (first | exact Split.nil | (apply Split.cons; (repeat (first | with_reducible exact Take.here | apply Take.there)))))))
    · cases h17
  · skip   -- 17 F
    obtain ⟨p, v', vn, gs, rfl, hGS, rfl⟩ : ∃ p v' vn gs, o = some ⟨p, 0, none⟩ ∧ GS μ1 v' vn (w.G.take (min w.G.length mo)) gs mo ∧ A = gA p v' vn (w.G.take (min w.G.length mo)).length noAsk := by
      rcases hp with ⟨rfl, _⟩ | k
      · cases h17
      · exact k
    clear hp
    have hgood := gens_good hGS.ha
    have hGn : (w.G.take (min w.G.length mo)).length = min w.G.length mo := by rw [List.length_take]; omega
    have hn10 : (w.G.take (min w.G.length mo)).length ≤ 10000 := by omega
    generalize w.G.take (min w.G.length mo) = G at *
    obtain ⟨n, hn⟩ : ∃ n, n = G.length := ⟨_, rfl⟩
    have hG1 := hGS.hG
    have hT1 := h.hT.le h1
    have hF1 := h.hF.le h1
    have hTs := hT1.small
    have hFs := hF1.small
    refine swp_ex fun va => ?_
    simp only [List.append_eq, List.cons_append, List.nil_append]
    obtain ⟨AG, cG, hvG⟩ : ∃ A c, v' = .slice A n c := by obtain ⟨_, A, c, e, _⟩ := hG1.1; exact ⟨A, c, by rw [hn]; exact e⟩
    rw [← hn]
    refine swp_skip ?_
    refine then_n ?_
    refine swp_seq ?_
    refine swp_region ?_
    refine s_pu (pu_move rfl) ?_
    first | refine s_pu (pu_nilCheck rfl) ?_ | refine s_pu (pu_nilCheck_fn rfl) ?_ | refine s_pu (pu_nilCheck_if rfl) ?_
    first | refine s_pu (pu_fieldAddr0 rfl) ?_ | refine s_pu (pu_fieldAddr rfl) ?_
    refine s_rd (rd_load rfl rfl) ?_
    refine s_pu (pu_len (congrArg some hvG)) ?_
    refine s_pu (pu_assign rfl) ?_
    refine swl_sub _ (.cons (t := 2) rfl (.cons (t := 5) rfl (.cons (t := 6) rfl .nil))) ?_
    refine swl_nil ?_
    refine then_n ?_
    refine swp_cut (fun env L => ∃ (b33 b27 : Nat) (vl vm : Value), Sub env [(2, .pointer (some ⟨b2, 0, none⟩)), (5, .pointer (some ⟨p, 0, none⟩)), (6, .int .i64 (n : Nat)), (7, .pointer (some ⟨b33, 0, none⟩))] ∧ Ent L [blk b33 42 [.pointer (some ⟨p, 0, none⟩), .slice none 0 0, .int .i64 w.S.ha, .int .i64 w.S.pe, .int .i64 w.S.mo, .int .u32 (w.S.seed.toNat : Nat), .slice (some ⟨b27, 0, none⟩) n n, vl, vm], own 72 2 (.slice (some ⟨b27, 0, none⟩) n n) n ((List.replicate n ()).flatMap fun _ => [.int .i64 0, .string ⟨#[]⟩]), own 4 1 vl n ((List.replicate n ()).flatMap fun _ => [.bool false]), own 4 1 vm n ((List.replicate n ()).flatMap fun _ => [.bool false]), blk b2 29 w.cells, blk p 45 [v', vn, va], own 3 1 va n (askV n noAsk), ro μ1]) ?_ ?_
    · skip
      refine swp_draw [2] _ [] (by simp only [List.append_nil]; exact Ent.refl _) (by kernel_rfl) ?_
      refine d_pu 0 rfl (pu_move rfl) (by kernel_rfl) (by kernel_rfl) (by kernel_rfl) ?_
      first | refine d_pu 1 rfl (pu_fieldAddr0 rfl) (by kernel_rfl) (by kernel_rfl) (by kernel_rfl) ?_ | refine d_pu 1 rfl (pu_fieldAddr rfl) (by kernel_rfl) (by kernel_rfl) (by kernel_rfl) ?_
      first | refine d_rd 2 rfl (rd_loadW rfl rfl) rfl (by kernel_rfl) (by kernel_rfl) (by kernel_rfl) ?_ | refine d_rd 2 rfl (rd_loadX rfl rfl rfl) rfl (by kernel_rfl) (by kernel_rfl) (by kernel_rfl) ?_
      refine d_pu 3 rfl (pu_move rfl) (by kernel_rfl) (by kernel_rfl) (by kernel_rfl) ?_
      refine d_pu 5 rfl (pu_move rfl) (by kernel_rfl) (by kernel_rfl) (by kernel_rfl) ?_
      refine d_pu 7 rfl (pu_move rfl) (by kernel_rfl) (by kernel_rfl) (by kernel_rfl) ?_
      refine d_amb [4, 6, 8] (by kernel_rfl) rfl ⟨?_, ?_, ?_⟩
      · skip   -- 4 comes first
        refine dA_ef 4 rfl GOn.none (ef_makeN n rfl rfl rfl (by omega) (by simp only [maxLen]; omega)) ?_
        rintro b27
        refine ⟨_, Split.ent (by repeat (first | exact Split.nil | (apply Split.cons; (repeat (first | with_reducible exact Take.here | apply Take.there))))), ?_⟩
        refine d_amb [6, 8] (by kernel_rfl) rfl ⟨?_, ?_⟩
        · skip   -- 6 comes first
          refine dA_ef 6 rfl GOn.none (ef_makeN n rfl rfl rfl (by omega) (by simp only [maxLen]; omega)) ?_
          rintro b29
          refine ⟨_, Split.ent (by repeat (first | exact Split.nil | (apply Split.cons; (repeat (first | with_reducible exact Take.here | apply Take.there))))), ?_⟩
          refine d_eft 8 rfl (by kernel_rfl) (ef_makeN n rfl rfl rfl (by omega) (by simp only [maxLen]; omega)) ?_
          rintro b31
          refine ⟨_, Split.ent (by repeat (first | exact Split.nil | (apply Split.cons; (repeat (first | with_reducible exact Take.here | apply Take.there))))), ?_⟩
          simp only [show List.take 4 (List.drop 2 w.cells) = [.int .i64 w.S.ha, .int .i64 w.S.pe, .int .i64 w.S.mo, .int .u32 (w.S.seed.toNat : Nat)] from rfl]
          refine d_pu 9 rfl (pu_bld (qs := [(0, _), (2, _), (3, _), (4, _), (5, _)]) rfl) (by kernel_rfl) (by kernel_rfl) (by kernel_rfl) ?_
          first | refine d_fint 10 rfl (by kernel_rfl) (by kernel_rfl) (ef_box rfl rfl) ?_ | refine d_finf 10 rfl (by kernel_rfl) (by kernel_rfl) (ef_box rfl rfl) ?_
          intro b33
          refine d_pu 11 rfl (pu_assign rfl) (by kernel_rfl) (by kernel_rfl) (by kernel_rfl) ?_
          refine d_sub _ (.cons (t := 2) rfl (.cons (t := 5) rfl (.cons (t := 6) rfl (.cons (t := 7) rfl .nil)))) ?_
          first | refine d_nilt (by kernel_rfl) ?_ | refine d_nilf (by kernel_rfl) ?_
          exact then_n ⟨b33, b27, _, _, ⟨rfl, rfl, rfl, rfl, trivial⟩, Split.ent' (by repeat (first | exact Split.nil | (apply Split.cons; (repeat (first | with_reducible exact Take.here | apply Take.there)))))⟩
        · skip   -- 8 comes first
          refine dA_ef 8 rfl GOn.none (ef_makeN n rfl rfl rfl (by omega) (by simp only [maxLen]; omega)) ?_
          rintro b31
          refine ⟨_, Split.ent (by repeat (first | exact Split.nil | (apply Split.cons; (repeat (first | with_reducible exact Take.here | apply Take.there))))), ?_⟩
          refine d_eft 6 rfl (by kernel_rfl) (ef_makeN n rfl rfl rfl (by omega) (by simp only [maxLen]; omega)) ?_
          rintro b29
          refine ⟨_, Split.ent (by repeat (first | exact Split.nil | (apply Split.cons; (repeat (first | with_reducible exact Take.here | apply Take.there))))), ?_⟩
          simp only [show List.take 4 (List.drop 2 w.cells) = [.int .i64 w.S.ha, .int .i64 w.S.pe, .int .i64 w.S.mo, .int .u32 (w.S.seed.toNat : Nat)] from rfl]
          refine d_pu 9 rfl (pu_bld (qs := [(0, _), (2, _), (3, _), (4, _), (5, _)]) rfl) (by kernel_rfl) (by kernel_rfl) (by kernel_rfl) ?_
          first | refine d_fint 10 rfl (by kernel_rfl) (by kernel_rfl) (ef_box rfl rfl) ?_ | refine d_finf 10 rfl (by kernel_rfl) (by kernel_rfl) (ef_box rfl rfl) ?_
          intro b33
          refine d_pu 11 rfl (pu_assign rfl) (by kernel_rfl) (by kernel_rfl) (by kernel_rfl) ?_
          refine d_sub _ (.cons (t := 2) rfl (.cons (t := 5) rfl (.cons (t := 6) rfl (.cons (t := 7) rfl .nil)))) ?_
          first | refine d_nilt (by kernel_rfl) ?_ | refine d_nilf (by kernel_rfl) ?_
          exact then_n ⟨b33, b27, _, _, ⟨rfl, rfl, rfl, rfl, trivial⟩, Split.ent' (by repeat (first | exact Split.nil | (apply Split.cons; (repeat (first | with_reducible exact Take.here | apply Take.there)))))⟩
      · skip   -- 6 comes first
        refine dA_ef 6 rfl GOn.none (ef_makeN n rfl rfl rfl (by omega) (by simp only [maxLen]; omega)) ?_
        rintro b29
        refine ⟨_, Split.ent (by repeat (first | exact Split.nil | (apply Split.cons; (repeat (first | with_reducible exact Take.here | apply Take.there))))), ?_⟩
        refine d_amb [4, 8] (by kernel_rfl) rfl ⟨?_, ?_⟩
        · skip   -- 4 comes first
          refine dA_ef 4 rfl GOn.none (ef_makeN n rfl rfl rfl (by omega) (by simp only [maxLen]; omega)) ?_
          rintro b27
          refine ⟨_, Split.ent (by repeat (first | exact Split.nil | (apply Split.cons; (repeat (first | with_reducible exact Take.here | apply Take.there))))), ?_⟩
          refine d_eft 8 rfl (by kernel_rfl) (ef_makeN n rfl rfl rfl (by omega) (by simp only [maxLen]; omega)) ?_
          rintro b31
          refine ⟨_, Split.ent (by repeat (first | exact Split.nil | (apply Split.cons; (repeat (first | with_reducible exact Take.here | apply Take.there))))), ?_⟩
          simp only [show List.take 4 (List.drop 2 w.cells) = [.int .i64 w.S.ha, .int .i64 w.S.pe, .int .i64 w.S.mo, .int .u32 (w.S.seed.toNat : Nat)] from rfl]
          refine d_pu 9 rfl (pu_bld (qs := [(0, _), (2, _), (3, _), (4, _), (5, _)]) rfl) (by kernel_rfl) (by kernel_rfl) (by kernel_rfl) ?_
          first | refine d_fint 10 rfl (by kernel_rfl) (by kernel_rfl) (ef_box rfl rfl) ?_ | refine d_finf 10 rfl (by kernel_rfl) (by kernel_rfl) (ef_box rfl rfl) ?_
          intro b33
          refine d_pu 11 rfl (pu_assign rfl) (by kernel_rfl) (by kernel_rfl) (by kernel_rfl) ?_
          refine d_sub _ (.cons (t := 2) rfl (.cons (t := 5) rfl (.cons (t := 6) rfl (.cons (t := 7) rfl .nil)))) ?_
          first | refine d_nilt (by kernel_rfl) ?_ | refine d_nilf (by kernel_rfl) ?_
          exact then_n ⟨b33, b27, _, _, ⟨rfl, rfl, rfl, rfl, trivial⟩, Split.ent' (by repeat (first | exact Split.nil | (apply Split.cons; (repeat (first | with_reducible exact Take.here | apply Take.there)))))⟩
        · skip   -- 8 comes first
          refine dA_ef 8 rfl GOn.none (ef_makeN n rfl rfl rfl (by omega) (by simp only [maxLen]; omega)) ?_
          rintro b31
          refine ⟨_, Split.ent (by repeat (first | exact Split.nil | (apply Split.cons; (repeat (first | with_reducible exact Take.here | apply Take.there))))), ?_⟩
          refine d_eft 4 rfl (by kernel_rfl) (ef_makeN n rfl rfl rfl (by omega) (by simp only [maxLen]; omega)) ?_
          rintro b27
          refine ⟨_, Split.ent (by repeat (first | exact Split.nil | (apply Split.cons; (repeat (first | with_reducible exact Take.here | apply Take.there))))), ?_⟩
          simp only [show List.take 4 (List.drop 2 w.cells) = [.int .i64 w.S.ha, .int .i64 w.S.pe, .int .i64 w.S.mo, .int .u32 (w.S.seed.toNat : Nat)] from rfl]
          refine d_pu 9 rfl (pu_bld (qs := [(0, _), (2, _), (3, _), (4, _), (5, _)]) rfl) (by kernel_rfl) (by kernel_rfl) (by kernel_rfl) ?_
          first | refine d_fint 10 rfl (by kernel_rfl) (by kernel_rfl) (ef_box rfl rfl) ?_ | refine d_finf 10 rfl (by kernel_rfl) (by kernel_rfl) (ef_box rfl rfl) ?_
          intro b33
          refine d_pu 11 rfl (pu_assign rfl) (by kernel_rfl) (by kernel_rfl) (by kernel_rfl) ?_
          refine d_sub _ (.cons (t := 2) rfl (.cons (t := 5) rfl (.cons (t := 6) rfl (.cons (t := 7) rfl .nil)))) ?_
          first | refine d_nilt (by kernel_rfl) ?_ | refine d_nilf (by kernel_rfl) ?_
          exact then_n ⟨b33, b27, _, _, ⟨rfl, rfl, rfl, rfl, trivial⟩, Split.ent' (by repeat (first | exact Split.nil | (apply Split.cons; (repeat (first | with_reducible exact Take.here | apply Take.there)))))⟩
      · skip   -- 8 comes first
        refine dA_ef 8 rfl GOn.none (ef_makeN n rfl rfl rfl (by omega) (by simp only [maxLen]; omega)) ?_
        rintro b31
        refine ⟨_, Split.ent (by repeat (first | exact Split.nil | (apply Split.cons; (repeat (first | with_reducible exact Take.here | apply Take.there))))), ?_⟩
        refine d_amb [4, 6] (by kernel_rfl) rfl ⟨?_, ?_⟩
        · skip   -- 4 comes first
          refine dA_ef 4 rfl GOn.none (ef_makeN n rfl rfl rfl (by omega) (by simp only [maxLen]; omega)) ?_
          rintro b27
          refine ⟨_, Split.ent (by repeat (first | exact Split.nil | (apply Split.cons; (repeat (first | with_reducible exact Take.here | apply Take.there))))), ?_⟩
          refine d_eft 6 rfl (by kernel_rfl) (ef_makeN n rfl rfl rfl (by omega) (by simp only [maxLen]; omega)) ?_
          rintro b29
          refine ⟨_, Split.ent (by repeat (first | exact Split.nil | (apply Split.cons; (repeat (first | with_reducible exact Take.here | apply Take.there))))), ?_⟩
          simp only [show List.take 4 (List.drop 2 w.cells) = [.int .i64 w.S.ha, .int .i64 w.S.pe, .int .i64 w.S.mo, .int .u32 (w.S.seed.toNat : Nat)] from rfl]
          refine d_pu 9 rfl (pu_bld (qs := [(0, _), (2, _), (3, _), (4, _), (5, _)]) rfl) (by kernel_rfl) (by kernel_rfl) (by kernel_rfl) ?_
          first | refine d_fint 10 rfl (by kernel_rfl) (by kernel_rfl) (ef_box rfl rfl) ?_ | refine d_finf 10 rfl (by kernel_rfl) (by kernel_rfl) (ef_box rfl rfl) ?_
          intro b33
          refine d_pu 11 rfl (pu_assign rfl) (by kernel_rfl) (by kernel_rfl) (by kernel_rfl) ?_
          refine d_sub _ (.cons (t := 2) rfl (.cons (t := 5) rfl (.cons (t := 6) rfl (.cons (t := 7) rfl .nil)))) ?_
          first | refine d_nilt (by kernel_rfl) ?_ | refine d_nilf (by kernel_rfl) ?_
          exact then_n ⟨b33, b27, _, _, ⟨rfl, rfl, rfl, rfl, trivial⟩, Split.ent' (by repeat (first | exact Split.nil | (apply Split.cons; (repeat (first | with_reducible exact Take.here | apply Take.there)))))⟩
        · skip   -- 6 comes first
          refine dA_ef 6 rfl GOn.none (ef_makeN n rfl rfl rfl (by omega) (by simp only [maxLen]; omega)) ?_
          rintro b29
          refine ⟨_, Split.ent (by repeat (first | exact Split.nil | (apply Split.cons; (repeat (first | with_reducible exact Take.here | apply Take.there))))), ?_⟩
          refine d_eft 4 rfl (by kernel_rfl) (ef_makeN n rfl rfl rfl (by omega) (by simp only [maxLen]; omega)) ?_
          rintro b27
          refine ⟨_, Split.ent (by repeat (first | exact Split.nil | (apply Split.cons; (repeat (first | with_reducible exact Take.here | apply Take.there))))), ?_⟩
          simp only [show List.take 4 (List.drop 2 w.cells) = [.int .i64 w.S.ha, .int .i64 w.S.pe, .int .i64 w.S.mo, .int .u32 (w.S.seed.toNat : Nat)] from rfl]
          refine d_pu 9 rfl (pu_bld (qs := [(0, _), (2, _), (3, _), (4, _), (5, _)]) rfl) (by kernel_rfl) (by kernel_rfl) (by kernel_rfl) ?_
          first | refine d_fint 10 rfl (by kernel_rfl) (by kernel_rfl) (ef_box rfl rfl) ?_ | refine d_finf 10 rfl (by kernel_rfl) (by kernel_rfl) (ef_box rfl rfl) ?_
          intro b33
          refine d_pu 11 rfl (pu_assign rfl) (by kernel_rfl) (by kernel_rfl) (by kernel_rfl) ?_
          refine d_sub _ (.cons (t := 2) rfl (.cons (t := 5) rfl (.cons (t := 6) rfl (.cons (t := 7) rfl .nil)))) ?_
          first | refine d_nilt (by kernel_rfl) ?_ | refine d_nilf (by kernel_rfl) ?_
          exact then_n ⟨b33, b27, _, _, ⟨rfl, rfl, rfl, rfl, trivial⟩, Split.ent' (by repeat (first | exact Split.nil | (apply Split.cons; (repeat (first | with_reducible exact Take.here | apply Take.there)))))⟩
    rintro env L ⟨b33, b27, vl, vm, hsub, hE⟩
    refine swp_sub _ hsub ?_
    refine swp_ent hE ?_
    clear hsub hE env L
    refine swp_seq ?_
    refine swp_seq ?_
    refine swp_region ?_
    refine s_pu (pu_move rfl) ?_
    refine s_pu (pu_move rfl) ?_
    refine swl_sub _ (.cons (t := 2) rfl (.cons (t := 5) rfl (.cons (t := 6) rfl (.cons (t := 7) rfl (.cons (t := 34) rfl (.cons (t := 35) rfl .nil)))))) ?_
    refine swl_nil ?_
    refine then_n ?_
    refine swp_block ?_
    refine swp_loop (ι := Nat) (fun i env L => ∃ (tv : Value) (T' : List (Value × List En)) (μ2 : PH), Sub env [(2, .pointer (some ⟨b2, 0, none⟩)), (5, .pointer (some ⟨p, 0, none⟩)), (6, .int .i64 (n : Nat)), (7, .pointer (some ⟨b33, 0, none⟩)), (34, .int .i64 (n : Nat)), (35, .int .i64 (i : Nat))] ∧ Ent L [blk b33 42 [.pointer (some ⟨p, 0, none⟩), tv, .int .i64 w.S.ha, .int .i64 w.S.pe, .int .i64 w.S.mo, .int .u32 (w.S.seed.toNat : Nat), .slice (some ⟨b27, 0, none⟩) n n, vl, vm], own 33 1 tv i (T'.flatMap gT), own 72 2 (.slice (some ⟨b27, 0, none⟩) n n) n ((List.replicate n ()).flatMap fun _ => [.int .i64 0, .string ⟨#[]⟩]), own 4 1 vl n ((List.replicate n ()).flatMap fun _ => [.bool false]), own 4 1 vm n ((List.replicate n ()).flatMap fun _ => [.bool false]), blk b2 29 w.cells, blk p 45 [v', vn, va], own 3 1 va n (askV n noAsk), ro μ2] ∧ Le μ1 μ2 ∧ T'.length = i ∧ i ≤ n ∧ (∀ t ∈ T', Row μ2 t.1 2 t.2.length (ens t.2)) ∧ T'.map (·.2) = (List.range i).map (ofT w.T)) (fun i => n - i) 0 ⟨.slice none 0 0, [], μ1, ⟨rfl, rfl, rfl, rfl, rfl, rfl, trivial⟩, own_nil_ent.trans (Split.ent' (K := [blk b33 42 [.pointer (some ⟨p, 0, none⟩), .slice none 0 0, .int .i64 w.S.ha, .int .i64 w.S.pe, .int .i64 w.S.mo, .int .u32 (w.S.seed.toNat : Nat), .slice (some ⟨b27, 0, none⟩) n n, vl, vm], own 33 1 (.slice none 0 0) 0 [], own 72 2 (.slice (some ⟨b27, 0, none⟩) n n) n ((List.replicate n ()).flatMap fun _ => [.int .i64 0, .string ⟨#[]⟩]), own 4 1 vl n ((List.replicate n ()).flatMap fun _ => [.bool false]), own 4 1 vm n ((List.replicate n ()).flatMap fun _ => [.bool false]), blk b2 29 w.cells, blk p 45 [v', vn, va], own 3 1 va n (askV n noAsk), ro μ1]) (by repeat (first | exact Split.nil | (apply Split.cons; (repeat (first | with_reducible exact Take.here | apply Take.there)))))), Le.refl _, rfl, Nat.zero_le _, (fun t ht => by cases ht), rfl⟩ ?_
    rintro i env L ⟨tv, T', μ2, hsub, hE, h2, hl, hi, hTr, hTm⟩
    refine swp_sub _ hsub ?_
    refine swp_ent hE ?_
    clear hsub hE env L
    have hT2 := hT1.le h2
    refine swp_seq ?_
    refine swp_region ?_
    refine s_pu (pu_lss rfl rfl) ?_
    refine swl_sub _ (.cons (t := 2) rfl (.cons (t := 5) rfl (.cons (t := 6) rfl (.cons (t := 7) rfl (.cons (t := 34) rfl (.cons (t := 35) rfl (.cons (t := 36) rfl .nil))))))) ?_
    refine swl_nil ?_
    refine then_n ?_
    refine swp_seq ?_
    refine swp_cond (b := _) rfl (fun h36 => ?_) (fun h36 => ?_)
    · skip   -- 36 T
      have h36' : i < n := by have := of_decide_eq_true h36; omega
      refine swp_skip ?_
      refine then_n ?_
      refine swp_seq ?_
      refine swp_block ?_
      refine swp_seq ?_
      refine swp_region ?_
      refine s_pu (pu_move rfl) ?_
      refine s_pu (pu_assign rfl) ?_
      refine swl_sub _ (.cons (t := 2) rfl (.cons (t := 5) rfl (.cons (t := 6) rfl (.cons (t := 7) rfl (.cons (t := 8) rfl (.cons (t := 34) rfl (.cons (t := 35) rfl .nil))))))) ?_
      refine swl_nil ?_
      refine then_n ?_
      refine swp_seq ?_
      refine swp_region ?_
      refine s_pu (pu_assign rfl) ?_
      refine swl_sub _ (.cons (t := 2) rfl (.cons (t := 5) rfl (.cons (t := 6) rfl (.cons (t := 7) rfl (.cons (t := 8) rfl (.cons (t := 9) rfl (.cons (t := 34) rfl (.cons (t := 35) rfl .nil)))))))) ?_
      refine swl_nil ?_
      refine then_n ?_
      refine swp_cut (fun env L => ∃ (A : Option Addr) (c : Nat) (μ3 : PH), Sub env [(2, .pointer (some ⟨b2, 0, none⟩)), (5, .pointer (some ⟨p, 0, none⟩)), (6, .int .i64 (n : Nat)), (7, .pointer (some ⟨b33, 0, none⟩)), (34, .int .i64 (n : Nat)), (35, .int .i64 (i : Nat)), (9, .slice A (ofT w.T i).length c)] ∧ Ent L [blk b33 42 [.pointer (some ⟨p, 0, none⟩), tv, .int .i64 w.S.ha, .int .i64 w.S.pe, .int .i64 w.S.mo, .int .u32 (w.S.seed.toNat : Nat), .slice (some ⟨b27, 0, none⟩) n n, vl, vm], own 33 1 tv i (T'.flatMap gT), own 72 2 (.slice (some ⟨b27, 0, none⟩) n n) n ((List.replicate n ()).flatMap fun _ => [.int .i64 0, .string ⟨#[]⟩]), own 4 1 vl n ((List.replicate n ()).flatMap fun _ => [.bool false]), own 4 1 vm n ((List.replicate n ()).flatMap fun _ => [.bool false]), blk b2 29 w.cells, blk p 45 [v', vn, va], own 3 1 va n (askV n noAsk), ro μ3] ∧ Le μ2 μ3 ∧ Row μ3 (.slice A (ofT w.T i).length c) 2 (ofT w.T i).length (ens (ofT w.T i))) ?_ ?_
      · skip
        refine swp_seq ?_
        refine swp_region ?_
        first | refine s_pu (pu_fieldAddr0 rfl) ?_ | refine s_pu (pu_fieldAddr rfl) ?_
        refine s_rd (rd_load rfl rfl) ?_
        refine s_pu (pu_len_row hT2 rfl) ?_
        refine s_pu (pu_gtr rfl rfl) ?_
        refine swl_sub _ (.cons (t := 2) rfl (.cons (t := 5) rfl (.cons (t := 6) rfl (.cons (t := 7) rfl (.cons (t := 8) rfl (.cons (t := 9) rfl (.cons (t := 34) rfl (.cons (t := 35) rfl (.cons (t := 41) rfl .nil))))))))) ?_
        refine swl_nil ?_
        refine then_n ?_
        refine swp_cond (b := _) rfl (fun h41 => ?_) (fun h41 => ?_)
        · skip   -- 41 T
          have h41' : 0 < w.T.length := by have := of_decide_eq_true h41; omega
          have hmod : i % w.T.length < w.T.length := Nat.mod_lt _ h41'
          obtain ⟨tb, to, tc, htv, htc⟩ := trow hT2 hmod
          have htr := (h.hTr _ (List.getElem_mem hmod)).1.le (h1.trans h2)
          have hgs := good_spec μ2 (w.T[i % w.T.length]).1 (w.T[i % w.T.length]).2 htr
          have hoT : ofT w.T i = goodE (w.T[i % w.T.length]).2 := by unfold ofT; rw [if_neg (by omega), List.getElem?_eq_getElem hmod]; rfl
          rw [← hoT] at hgs
          refine swp_draw [1, 4, 8] _ [] (by simp only [List.append_nil]; exact Ent.refl _) (by kernel_rfl) ?_
          first | refine d_pu 0 rfl (pu_fieldAddr0 rfl) (by kernel_rfl) (by kernel_rfl) (by kernel_rfl) ?_ | refine d_pu 0 rfl (pu_fieldAddr rfl) (by kernel_rfl) (by kernel_rfl) (by kernel_rfl) ?_
          refine d_rd 1 rfl (rd_load rfl rfl) rfl (by kernel_rfl) (by kernel_rfl) (by kernel_rfl) ?_
          refine d_pu 2 rfl (pu_move rfl) (by kernel_rfl) (by kernel_rfl) (by kernel_rfl) ?_
          first | refine d_pu 3 rfl (pu_fieldAddr0 rfl) (by kernel_rfl) (by kernel_rfl) (by kernel_rfl) ?_ | refine d_pu 3 rfl (pu_fieldAddr rfl) (by kernel_rfl) (by kernel_rfl) (by kernel_rfl) ?_
          refine d_rd 4 rfl (rd_load rfl rfl) rfl (by kernel_rfl) (by kernel_rfl) (by kernel_rfl) ?_
          refine d_pu 5 rfl (pu_len_row hT2 rfl) (by kernel_rfl) (by kernel_rfl) (by kernel_rfl) ?_
          refine d_pu 6 rfl (pu_rem_as ((i % w.T.length : Nat) : Int) rfl rfl (by omega) (by omega) (by omega)) (by kernel_rfl) (by kernel_rfl) (by kernel_rfl) ?_
          refine d_pu 7 rfl (pu_indexAddr (to + (i % w.T.length) * 1) (congrArg some htv) rfl (by omega) (by omega) (by rw [Int.toNat_natCast])) (by kernel_rfl) (by kernel_rfl) (by kernel_rfl) ?_
          refine d_rd 8 rfl (rd_ro rfl htc) rfl (by kernel_rfl) (by kernel_rfl) (by kernel_rfl) ?_
          first | refine d_fint 9 rfl (by kernel_rfl) (by kernel_rfl) (ef_fn hgs rfl rfl (by repeat (first | exact Split.nil | (apply Split.cons; (repeat (first | with_reducible exact Take.here | apply Take.there)))))) ?_ | refine d_finf 9 rfl (by kernel_rfl) (by kernel_rfl) (ef_fn hgs rfl rfl (by repeat (first | exact Split.nil | (apply Split.cons; (repeat (first | with_reducible exact Take.here | apply Take.there)))))) ?_
          rintro v51 L1 ⟨μ3, h3, hr3, rfl⟩
          refine swd_app ?_
          obtain ⟨A3, c3, rfl⟩ := hr3.sl
          refine d_pu 10 rfl (pu_assign rfl) (by kernel_rfl) (by kernel_rfl) (by kernel_rfl) ?_
          refine d_sub _ (.cons (t := 2) rfl (.cons (t := 5) rfl (.cons (t := 6) rfl (.cons (t := 7) rfl (.cons (t := 9) rfl (.cons (t := 34) rfl (.cons (t := 35) rfl .nil))))))) ?_
          first | refine d_nilt (by kernel_rfl) ?_ | refine d_nilf (by kernel_rfl) ?_
          refine then_n ⟨A3, c3, μ3, ⟨rfl, rfl, rfl, rfl, rfl, rfl, rfl, trivial⟩, Split.ent' (by repeat (first | exact Split.nil | (apply Split.cons; (repeat (first | with_reducible exact Take.here | apply Take.there))))), h3, hr3⟩
        · skip   -- 41 F
          have h41' : w.T.length = 0 := by have := of_decide_eq_false h41; omega
          have hoT : ofT w.T i = [] := by unfold ofT; rw [if_pos h41']
          refine swp_skip ?_
          rw [hoT]
          exact then_n ⟨none, 0, μ2, ⟨rfl, rfl, rfl, rfl, rfl, rfl, rfl, trivial⟩, Split.ent' (by repeat (first | exact Split.nil | (apply Split.cons; (repeat (first | with_reducible exact Take.here | apply Take.there))))), Le.refl _, Row.nil _ _⟩
      rintro env L ⟨A3, c3, μ3, hsub, hE, h3, hr3⟩
      refine swp_sub _ hsub ?_
      refine swp_ent hE ?_
      clear hsub hE env L
      refine swp_region ?_
      refine s_pu (pu_move rfl) ?_
      refine s_pu (pu_move rfl) ?_
      first | refine s_pu (pu_nilCheck rfl) ?_ | refine s_pu (pu_nilCheck_fn rfl) ?_ | refine s_pu (pu_nilCheck_if rfl) ?_
      first | refine s_pu (pu_fieldAddr0 rfl) ?_ | refine s_pu (pu_fieldAddr rfl) ?_
      refine s_rd (rd_load rfl rfl) ?_
      refine s_pu (pu_move rfl) ?_
      refine s_ef (ef_bldS (qs := [(0, _)]) rfl rfl rfl) ?_
      intro b58
      refine s_ef (ef_append_lit (l := i) (m := 1) rfl rfl (by repeat (first | exact Split.nil | (apply Split.cons; (repeat (first | with_reducible exact Take.here | apply Take.there))))) (by simp only [maxLen]; omega) (by omega)) ?_
      rintro v59 hv59
      obtain ⟨g7, c7, rfl⟩ := hv59 (by decide)
      first | refine s_pu (pu_nilCheck rfl) ?_ | refine s_pu (pu_nilCheck_fn rfl) ?_ | refine s_pu (pu_nilCheck_if rfl) ?_
      first | refine s_pu (pu_fieldAddr0 rfl) ?_ | refine s_pu (pu_fieldAddr rfl) ?_
      refine s_ef0 (ef_store rfl rfl rfl) ?_
      refine swl_sub _ (.cons (t := 2) rfl (.cons (t := 5) rfl (.cons (t := 6) rfl (.cons (t := 7) rfl (.cons (t := 34) rfl (.cons (t := 35) rfl .nil)))))) ?_
      refine swl_nil ?_
      refine block_n ?_
      refine then_n ?_
      refine swp_region ?_
      refine s_pu (pu_add_as ((i + 1 : Nat) : Int) rfl rfl (by omega) (by omega) (by omega)) ?_
      refine s_pu (pu_move rfl) ?_
      refine swl_sub _ (.cons (t := 2) rfl (.cons (t := 5) rfl (.cons (t := 6) rfl (.cons (t := 7) rfl (.cons (t := 34) rfl (.cons (t := 35) rfl .nil)))))) ?_
      refine swl_nil ?_
      refine then_n ⟨i + 1, ⟨.slice (some ⟨g7, 0, none⟩) (i + 1) c7, T' ++ [(.slice A3 (ofT w.T i).length c3, ofT w.T i)], μ3, ⟨rfl, rfl, rfl, rfl, rfl, rfl, trivial⟩, ?_, h2.trans h3, by rw [List.length_append, hl]; rfl, h36', ?_, ?_⟩, by show n - (i + 1) < n - i; omega⟩
      · have e1 : (T' ++ [(Value.slice A3 (ofT w.T i).length c3, ofT w.T i)]).flatMap gT = T'.flatMap gT ++ [Value.slice A3 (ofT w.T i).length c3] := by rw [List.flatMap_append]; rfl
        rw [e1]
        exact Split.ent' (by repeat (first | exact Split.nil | (apply Split.cons; (repeat (first | with_reducible exact Take.here | apply Take.there)))))
      · intro t ht
        rcases List.mem_append.1 ht with ht | ht
        · exact (hTr t ht).le h3
        · rw [List.mem_singleton.1 ht]; exact hr3
      · rw [List.map_append, hTm, List.range_succ, List.map_append]; rfl
    · skip   -- 36 F
      obtain rfl : n = i := by have := of_decide_eq_false h36; omega
      rw [fil_zero]
      have hTall : ∀ t ∈ T', t.2.length ≤ 100 ∧ GoodT t.2 ∧ U32s t.2 := fun t ht => by
        have hm : t.2 ∈ T'.map (·.2) := List.mem_map_of_mem ht
        rw [hTm] at hm
        obtain ⟨c, _, hc⟩ := List.mem_map.1 hm
        rw [← hc]
        exact ofT_ok (fun t ht => (h.hTr t ht).2) c
      refine swp_share_own (e := 33) (n := 1) (v := tv) (μ := μ2) (by repeat (first | exact Split.nil | (apply Split.cons; (repeat (first | with_reducible exact Take.here | apply Take.there))))) fun μ3 h3 hrT => ?_
      rw [← hl] at hrT
      have hG3 := hG1.le (h2.trans h3)
      have hTr3 : ∀ t ∈ T', Row μ3 t.1 2 t.2.length (ens t.2) ∧ t.2.length ≤ 100 ∧ GoodT t.2 ∧ U32s t.2 := fun t ht => ⟨(hTr t ht).le h3, hTall t ht⟩
      refine swp_exit ?_
      refine then_x ?_
      refine then_x ?_
      refine block_hit rfl ?_
      refine then_n ?_
      refine swp_seq ?_
      refine swp_seq ?_
      refine swp_region ?_
      refine s_pu (pu_move rfl) ?_
      refine s_pu (pu_move rfl) ?_
      refine swl_sub _ (.cons (t := 2) rfl (.cons (t := 5) rfl (.cons (t := 7) rfl (.cons (t := 63) rfl (.cons (t := 64) rfl .nil))))) ?_
      refine swl_nil ?_
      refine then_n ?_
      refine swp_block ?_
      refine swp_loop (ι := Nat) (fun i env L => ∃ (F : List Fil) (μ4 : PH), Sub env [(2, .pointer (some ⟨b2, 0, none⟩)), (5, .pointer (some ⟨p, 0, none⟩)), (7, .pointer (some ⟨b33, 0, none⟩)), (63, .int .i64 (n : Nat)), (64, .int .i64 (i : Nat))] ∧ Ent L [blk b33 42 [.pointer (some ⟨p, 0, none⟩), tv, .int .i64 w.S.ha, .int .i64 w.S.pe, .int .i64 w.S.mo, .int .u32 (w.S.seed.toNat : Nat), .slice (some ⟨b27, 0, none⟩) n n, vl, vm], own 72 2 (.slice (some ⟨b27, 0, none⟩) n n) n (F.flatMap encF), own 4 1 vl n ((List.replicate n ()).flatMap fun _ => [.bool false]), own 4 1 vm n ((List.replicate n ()).flatMap fun _ => [.bool false]), blk b2 29 w.cells, blk p 45 [v', vn, va], own 3 1 va n (askV n noAsk), ro μ4] ∧ Le μ3 μ4 ∧ F.length = n ∧ i ≤ n ∧ (∀ f ∈ F, f.2.length ≤ 1048576)) (fun i => n - i) 0 ⟨List.replicate n ((0, []) : Fil), μ3, ⟨rfl, rfl, rfl, rfl, rfl, trivial⟩, Split.ent' (by repeat (first | exact Split.nil | (apply Split.cons; (repeat (first | with_reducible exact Take.here | apply Take.there))))), Le.refl _, List.length_replicate, Nat.zero_le _, (fun f hf => by rw [(List.mem_replicate.1 hf).2]; exact Nat.zero_le _)⟩ ?_
      rintro i env L ⟨F, μ4, hsub, hE, h4, hFl, hi, hFs2⟩
      refine swp_sub _ hsub ?_
      refine swp_ent hE ?_
      clear hsub hE env L
      have hF4 := hF1.le (h2.trans (h3.trans h4))
      refine swp_seq ?_
      refine swp_region ?_
      refine s_pu (pu_lss rfl rfl) ?_
      refine swl_sub _ (.cons (t := 2) rfl (.cons (t := 5) rfl (.cons (t := 7) rfl (.cons (t := 63) rfl (.cons (t := 64) rfl (.cons (t := 65) rfl .nil)))))) ?_
      refine swl_nil ?_
      refine then_n ?_
      refine swp_seq ?_
      refine swp_cond (b := _) rfl (fun h65 => ?_) (fun h65 => ?_)
      · skip   -- 65 T
        have h65' : i < n := by have := of_decide_eq_true h65; omega
        refine swp_skip ?_
        refine then_n ?_
        refine swp_seq ?_
        refine swp_block ?_
        refine swp_seq ?_
        refine swp_region ?_
        refine s_pu (pu_move rfl) ?_
        refine s_pu (pu_assign rfl) ?_
        refine swl_sub _ (.cons (t := 2) rfl (.cons (t := 5) rfl (.cons (t := 7) rfl (.cons (t := 10) rfl (.cons (t := 63) rfl (.cons (t := 64) rfl .nil)))))) ?_
        refine swl_nil ?_
        refine then_n ?_
        refine swp_seq ?_
        refine swp_draw [1, 6, 9, 13] _ [] (by simp only [List.append_nil]; exact Ent.refl _) (by kernel_rfl) ?_
        first | refine d_pu 0 rfl (pu_fieldAddr0 rfl) (by kernel_rfl) (by kernel_rfl) (by kernel_rfl) ?_ | refine d_pu 0 rfl (pu_fieldAddr rfl) (by kernel_rfl) (by kernel_rfl) (by kernel_rfl) ?_
        refine d_rd 1 rfl (rd_load rfl rfl) rfl (by kernel_rfl) (by kernel_rfl) (by kernel_rfl) ?_
        refine d_pu 2 rfl (pu_len_row hF4 rfl) (by kernel_rfl) (by kernel_rfl) (by kernel_rfl) ?_
        refine d_pu 3 rfl (pu_gtr rfl rfl) (by kernel_rfl) (by kernel_rfl) (by kernel_rfl) ?_
        refine d_pu 4 rfl (pu_move rfl) (by kernel_rfl) (by kernel_rfl) (by kernel_rfl) ?_
        refine d_split 71 rfl (fun h71 => ?_) (fun h71 => ?_)
        · skip   -- 71 T
          have h71' : 0 < w.F.length := by have := of_decide_eq_true h71; omega
          have hmod : i % w.F.length < w.F.length := Nat.mod_lt _ h71'
          obtain ⟨fb, fo, fc, hfv, _, _, hfr⟩ := hF4.pos h71'
          have hfc : CellAt μ4 fb (fo + i % w.F.length) (.bool (w.F[i % w.F.length])) := hfr _ _ (by rw [List.getElem?_map, List.getElem?_eq_getElem hmod]; rfl)
          first | refine d_pu_on 5 rfl rfl rfl (pu_fieldAddr0 rfl) (by kernel_rfl) (by kernel_rfl) (by kernel_rfl) ?_ | refine d_pu_on 5 rfl rfl rfl (pu_fieldAddr rfl) (by kernel_rfl) (by kernel_rfl) (by kernel_rfl) ?_
          refine d_rd_on 6 rfl rfl rfl (rd_load rfl rfl) rfl (by kernel_rfl) (by kernel_rfl) (by kernel_rfl) ?_
          refine d_pu_on 7 rfl rfl rfl (pu_move rfl) (by kernel_rfl) (by kernel_rfl) (by kernel_rfl) ?_
          first | refine d_pu_on 8 rfl rfl rfl (pu_fieldAddr0 rfl) (by kernel_rfl) (by kernel_rfl) (by kernel_rfl) ?_ | refine d_pu_on 8 rfl rfl rfl (pu_fieldAddr rfl) (by kernel_rfl) (by kernel_rfl) (by kernel_rfl) ?_
          refine d_rd_on 9 rfl rfl rfl (rd_load rfl rfl) rfl (by kernel_rfl) (by kernel_rfl) (by kernel_rfl) ?_
          refine d_pu_on 10 rfl rfl rfl (pu_len_row hF4 rfl) (by kernel_rfl) (by kernel_rfl) (by kernel_rfl) ?_
          refine d_pu_on 11 rfl rfl rfl (pu_rem_as ((i % w.F.length : Nat) : Int) rfl rfl (by omega) (by omega) (by omega)) (by kernel_rfl) (by kernel_rfl) (by kernel_rfl) ?_
          refine d_pu_on 12 rfl rfl rfl (pu_indexAddr (fo + i % w.F.length) (congrArg some hfv) rfl (by omega) (by omega) (by rw [Int.toNat_natCast, Nat.mul_one])) (by kernel_rfl) (by kernel_rfl) (by kernel_rfl) ?_
          refine d_rd_on 13 rfl rfl rfl (rd_ro rfl hfc) rfl (by kernel_rfl) (by kernel_rfl) (by kernel_rfl) ?_
          first | refine d_pu 14 rfl (pu_pick_t rfl rfl) (by kernel_rfl) (by kernel_rfl) (by kernel_rfl) ?_ | refine d_pu 14 rfl (pu_pick_f rfl rfl) (by kernel_rfl) (by kernel_rfl) (by kernel_rfl) ?_
          refine d_sub _ (.cons (t := 2) rfl (.cons (t := 5) rfl (.cons (t := 7) rfl (.cons (t := 10) rfl (.cons (t := 63) rfl (.cons (t := 64) rfl (.cons (t := 81) rfl .nil))))))) ?_
          first | refine d_nilt (by kernel_rfl) ?_ | refine d_nilf (by kernel_rfl) ?_
          refine then_n ?_
          refine swp_cond (b := _) rfl (fun h81 => ?_) (fun h81 => ?_)
          · skip   -- 81 T
            have hiT : i < T'.length := by omega
            obtain ⟨tb, to, tc, htv, htc⟩ := trow (hrT.le h4) hiT
            have hti := hTr3 _ (List.getElem_mem hiT)
            have hwas := was_spec μ4 v' tv G T' i (hG3.le h4) (hrT.le h4) (fun t ht => ⟨(hTr3 t ht).1.le h4, (hTr3 t ht).2⟩) (by omega) hgood (by omega)
            refine swp_draw [3, 6, 10, 14, 20, 23] _ [] (by simp only [List.append_nil]; exact Ent.refl _) (by kernel_rfl) ?_
            refine d_pu 0 rfl (pu_move rfl) (by kernel_rfl) (by kernel_rfl) (by kernel_rfl) ?_
            first | refine d_pu 1 rfl (pu_nilCheck rfl) (by kernel_rfl) (by kernel_rfl) (by kernel_rfl) ?_ | refine d_pu 1 rfl (pu_nilCheck_fn rfl) (by kernel_rfl) (by kernel_rfl) (by kernel_rfl) ?_ | refine d_pu 1 rfl (pu_nilCheck_if rfl) (by kernel_rfl) (by kernel_rfl) (by kernel_rfl) ?_
            first | refine d_pu 2 rfl (pu_fieldAddr0 rfl) (by kernel_rfl) (by kernel_rfl) (by kernel_rfl) ?_ | refine d_pu 2 rfl (pu_fieldAddr rfl) (by kernel_rfl) (by kernel_rfl) (by kernel_rfl) ?_
            refine d_rd 3 rfl (rd_load rfl rfl) rfl (by kernel_rfl) (by kernel_rfl) (by kernel_rfl) ?_
            refine d_pu 4 rfl (pu_move rfl) (by kernel_rfl) (by kernel_rfl) (by kernel_rfl) ?_
            first | refine d_pu 5 rfl (pu_fieldAddr0 rfl) (by kernel_rfl) (by kernel_rfl) (by kernel_rfl) ?_ | refine d_pu 5 rfl (pu_fieldAddr rfl) (by kernel_rfl) (by kernel_rfl) (by kernel_rfl) ?_
            first | refine d_rd 6 rfl (rd_loadW rfl rfl) rfl (by kernel_rfl) (by kernel_rfl) (by kernel_rfl) ?_ | refine d_rd 6 rfl (rd_loadX rfl rfl rfl) rfl (by kernel_rfl) (by kernel_rfl) (by kernel_rfl) ?_
            refine d_pu 7 rfl (pu_move rfl) (by kernel_rfl) (by kernel_rfl) (by kernel_rfl) ?_
            first | refine d_pu 8 rfl (pu_nilCheck rfl) (by kernel_rfl) (by kernel_rfl) (by kernel_rfl) ?_ | refine d_pu 8 rfl (pu_nilCheck_fn rfl) (by kernel_rfl) (by kernel_rfl) (by kernel_rfl) ?_ | refine d_pu 8 rfl (pu_nilCheck_if rfl) (by kernel_rfl) (by kernel_rfl) (by kernel_rfl) ?_
            first | refine d_pu 9 rfl (pu_fieldAddr0 rfl) (by kernel_rfl) (by kernel_rfl) (by kernel_rfl) ?_ | refine d_pu 9 rfl (pu_fieldAddr rfl) (by kernel_rfl) (by kernel_rfl) (by kernel_rfl) ?_
            refine d_rd 10 rfl (rd_load rfl rfl) rfl (by kernel_rfl) (by kernel_rfl) (by kernel_rfl) ?_
            refine d_pu 11 rfl (pu_move rfl) (by kernel_rfl) (by kernel_rfl) (by kernel_rfl) ?_
            first | refine d_pu 12 rfl (pu_nilCheck rfl) (by kernel_rfl) (by kernel_rfl) (by kernel_rfl) ?_ | refine d_pu 12 rfl (pu_nilCheck_fn rfl) (by kernel_rfl) (by kernel_rfl) (by kernel_rfl) ?_ | refine d_pu 12 rfl (pu_nilCheck_if rfl) (by kernel_rfl) (by kernel_rfl) (by kernel_rfl) ?_
            first | refine d_pu 13 rfl (pu_fieldAddr0 rfl) (by kernel_rfl) (by kernel_rfl) (by kernel_rfl) ?_ | refine d_pu 13 rfl (pu_fieldAddr rfl) (by kernel_rfl) (by kernel_rfl) (by kernel_rfl) ?_
            refine d_rd 14 rfl (rd_load rfl rfl) rfl (by kernel_rfl) (by kernel_rfl) (by kernel_rfl) ?_
            refine d_pu 15 rfl (pu_move rfl) (by kernel_rfl) (by kernel_rfl) (by kernel_rfl) ?_
            refine d_pu 17 rfl (pu_move rfl) (by kernel_rfl) (by kernel_rfl) (by kernel_rfl) ?_
            first | refine d_pu 18 rfl (pu_nilCheck rfl) (by kernel_rfl) (by kernel_rfl) (by kernel_rfl) ?_ | refine d_pu 18 rfl (pu_nilCheck_fn rfl) (by kernel_rfl) (by kernel_rfl) (by kernel_rfl) ?_ | refine d_pu 18 rfl (pu_nilCheck_if rfl) (by kernel_rfl) (by kernel_rfl) (by kernel_rfl) ?_
            first | refine d_pu 19 rfl (pu_fieldAddr0 rfl) (by kernel_rfl) (by kernel_rfl) (by kernel_rfl) ?_ | refine d_pu 19 rfl (pu_fieldAddr rfl) (by kernel_rfl) (by kernel_rfl) (by kernel_rfl) ?_
            refine d_rd 20 rfl (rd_load rfl rfl) rfl (by kernel_rfl) (by kernel_rfl) (by kernel_rfl) ?_
            refine d_pu 21 rfl (pu_move rfl) (by kernel_rfl) (by kernel_rfl) (by kernel_rfl) ?_
            refine d_pu 22 rfl (pu_indexAddr (to + i * 1) (congrArg some htv) rfl (by omega) (by omega) (by rw [Int.toNat_natCast])) (by kernel_rfl) (by kernel_rfl) (by kernel_rfl) ?_
            refine d_rd 23 rfl (rd_ro rfl htc) rfl (by kernel_rfl) (by kernel_rfl) (by kernel_rfl) ?_
            refine d_eft 16 rfl (by kernel_rfl) (ef_fn hwas rfl rfl (by repeat (first | exact Split.nil | (apply Split.cons; (repeat (first | with_reducible exact Take.here | apply Take.there)))))) ?_
            rintro v99 L1 ⟨t, ht1, ht2, ht3, rfl⟩
            refine ⟨_, ent_appC (Split.ent (by repeat (first | exact Split.nil | (apply Split.cons; (repeat (first | with_reducible exact Take.here | apply Take.there)))))), ?_⟩
            refine d_eft 24 rfl (by kernel_rfl) (ef_fn (sof2_spec μ4 w.S v99 _ t _ ht1 (hti.1.le h4) ⟨ht2, hti.2.1⟩ ht3 hti.2.2.1) rfl rfl (by repeat (first | exact Split.nil | (apply Split.cons; (repeat (first | with_reducible exact Take.here | apply Take.there)))))) ?_
            rintro v107 L1 ⟨f, e, rfl, hfl, rfl⟩
            refine ⟨_, ent_appC (Split.ent (by repeat (first | exact Split.nil | (apply Split.cons; (repeat (first | with_reducible exact Take.here | apply Take.there)))))), ?_⟩
            refine d_pu 25 rfl (pu_move rfl) (by kernel_rfl) (by kernel_rfl) (by kernel_rfl) ?_
            first | refine d_pu 26 rfl (pu_extractL rfl) (by kernel_rfl) (by kernel_rfl) (by kernel_rfl) ?_ | refine d_pu 26 rfl (pu_extract rfl rfl) (by kernel_rfl) (by kernel_rfl) (by kernel_rfl) ?_
            first | refine d_pu 27 rfl (pu_extractL rfl) (by kernel_rfl) (by kernel_rfl) (by kernel_rfl) ?_ | refine d_pu 27 rfl (pu_extract rfl rfl) (by kernel_rfl) (by kernel_rfl) (by kernel_rfl) ?_
            refine d_pu 28 rfl (pu_indexAddr (0 + i * 2) rfl rfl (by omega) (by omega) (by rw [Int.toNat_natCast])) (by kernel_rfl) (by kernel_rfl) (by kernel_rfl) ?_
            first | refine d_fin0t 29 rfl (by kernel_rfl) (by kernel_rfl) (ef_store_ownA rfl rfl (by repeat (first | exact Split.nil | (apply Split.cons; (repeat (first | with_reducible exact Take.here | apply Take.there))))) (by show 0 + i * 2 + 2 ≤ _; rw [flat_length (f := encF) (k := 2) (fun _ => rfl)]; omega) rfl rfl) ?_ | refine d_fin0f 29 rfl (by kernel_rfl) (by kernel_rfl) (ef_store_ownA rfl rfl (by repeat (first | exact Split.nil | (apply Split.cons; (repeat (first | with_reducible exact Take.here | apply Take.there))))) (by show 0 + i * 2 + 2 ≤ _; rw [flat_length (f := encF) (k := 2) (fun _ => rfl)]; omega) rfl rfl) ?_
            refine d_sub _ (.cons (t := 2) rfl (.cons (t := 5) rfl (.cons (t := 7) rfl (.cons (t := 63) rfl (.cons (t := 64) rfl .nil))))) ?_
            first | refine d_nilt (by kernel_rfl) ?_ | refine d_nilf (by kernel_rfl) ?_
            refine block_n ?_
            refine then_n ?_
            refine swp_region ?_
            refine s_pu (pu_add_as ((i + 1 : Nat) : Int) rfl rfl (by omega) (by omega) (by omega)) ?_
            refine s_pu (pu_move rfl) ?_
            refine swl_sub _ (.cons (t := 2) rfl (.cons (t := 5) rfl (.cons (t := 7) rfl (.cons (t := 63) rfl (.cons (t := 64) rfl .nil))))) ?_
            refine swl_nil ?_
            refine then_n ⟨i + 1, ⟨F.set i f, μ4, ⟨rfl, rfl, rfl, rfl, rfl, trivial⟩, ?_, h4, by rw [List.length_set, hFl], h65', ?_⟩, by show n - (i + 1) < n - i; omega⟩
            · rw [Nat.zero_add, flat_over2 (f := encF) (n := 2) (fun _ => rfl) (by omega)]
              exact Split.ent' (by repeat (first | exact Split.nil | (apply Split.cons; (repeat (first | with_reducible exact Take.here | apply Take.there)))))
            · intro g hg
              rcases List.mem_or_eq_of_mem_set hg with hg | rfl
              · exact hFs2 g hg
              · exact hfl
          · skip   -- 81 F
            refine swp_skip ?_
            refine block_n ?_
            refine then_n ?_
            refine swp_region ?_
            refine s_pu (pu_add_as ((i + 1 : Nat) : Int) rfl rfl (by omega) (by omega) (by omega)) ?_
            refine s_pu (pu_move rfl) ?_
            refine swl_sub _ (.cons (t := 2) rfl (.cons (t := 5) rfl (.cons (t := 7) rfl (.cons (t := 63) rfl (.cons (t := 64) rfl .nil))))) ?_
            refine swl_nil ?_
            exact then_n ⟨i + 1, ⟨F, μ4, ⟨rfl, rfl, rfl, rfl, rfl, trivial⟩, Split.ent' (by repeat (first | exact Split.nil | (apply Split.cons; (repeat (first | with_reducible exact Take.here | apply Take.there))))), h4, hFl, h65', hFs2⟩, by show n - (i + 1) < n - i; omega⟩
        · skip   -- 71 F
          refine d_off 5 rfl rfl rfl rfl (by kernel_rfl) (by kernel_rfl) (by kernel_rfl) ?_
          refine d_off 6 rfl rfl rfl rfl (by kernel_rfl) (by kernel_rfl) (by kernel_rfl) ?_
          refine d_off 7 rfl rfl rfl rfl (by kernel_rfl) (by kernel_rfl) (by kernel_rfl) ?_
          refine d_off 8 rfl rfl rfl rfl (by kernel_rfl) (by kernel_rfl) (by kernel_rfl) ?_
          refine d_off 9 rfl rfl rfl rfl (by kernel_rfl) (by kernel_rfl) (by kernel_rfl) ?_
          refine d_off 10 rfl rfl rfl rfl (by kernel_rfl) (by kernel_rfl) (by kernel_rfl) ?_
          refine d_off 11 rfl rfl rfl rfl (by kernel_rfl) (by kernel_rfl) (by kernel_rfl) ?_
          refine d_off 12 rfl rfl rfl rfl (by kernel_rfl) (by kernel_rfl) (by kernel_rfl) ?_
          refine d_off 13 rfl rfl rfl rfl (by kernel_rfl) (by kernel_rfl) (by kernel_rfl) ?_
          first | refine d_pu 14 rfl (pu_pick_t rfl rfl) (by kernel_rfl) (by kernel_rfl) (by kernel_rfl) ?_ | refine d_pu 14 rfl (pu_pick_f rfl rfl) (by kernel_rfl) (by kernel_rfl) (by kernel_rfl) ?_
          refine d_sub _ (.cons (t := 2) rfl (.cons (t := 5) rfl (.cons (t := 7) rfl (.cons (t := 10) rfl (.cons (t := 63) rfl (.cons (t := 64) rfl (.cons (t := 81) rfl .nil))))))) ?_
          first | refine d_nilt (by kernel_rfl) ?_ | refine d_nilf (by kernel_rfl) ?_
          refine then_n ?_
          refine swp_cond (b := _) rfl (fun h81 => by cases h81) (fun h81 => ?_)
          refine swp_skip ?_
          refine block_n ?_
          refine then_n ?_
          refine swp_region ?_
          refine s_pu (pu_add_as ((i + 1 : Nat) : Int) rfl rfl (by omega) (by omega) (by omega)) ?_
          refine s_pu (pu_move rfl) ?_
          refine swl_sub _ (.cons (t := 2) rfl (.cons (t := 5) rfl (.cons (t := 7) rfl (.cons (t := 63) rfl (.cons (t := 64) rfl .nil))))) ?_
          refine swl_nil ?_
          exact then_n ⟨i + 1, ⟨F, μ4, ⟨rfl, rfl, rfl, rfl, rfl, trivial⟩, Split.ent' (by repeat (first | exact Split.nil | (apply Split.cons; (repeat (first | with_reducible exact Take.here | apply Take.there))))), h4, hFl, h65', hFs2⟩, by show n - (i + 1) < n - i; omega⟩
      · skip   -- 65 F
        rw [bcn_zero]
        refine swp_share_own (e := 72) (n := 2) (v := .slice (some ⟨b27, 0, none⟩) n n) (μ := μ4) (by repeat (first | exact Split.nil | (apply Split.cons; (repeat (first | with_reducible exact Take.here | apply Take.there))))) fun μ5 h5 hrF => ?_
        refine swp_exit ?_
        refine then_x ?_
        refine then_x ?_
        refine block_hit rfl ?_
        refine then_n ?_
        refine swp_seq ?_
        refine swp_region ?_
        refine s_pu (pu_move rfl) ?_
        refine s_pu (pu_assign rfl) ?_
        refine swl_sub _ (.cons (t := 4) rfl .nil) ?_
        refine swl_nil ?_
        refine then_n ?_
        refine swp_ret ?_
        refine done_retE [HW.A ⟨b33, p, v', vn, tv, .slice (some ⟨b27, 0, none⟩) n n, w.S, G, T', F⟩ st00, ro μ5] (.tmp rfl .nil) ⟨μ5, h1.trans (h2.trans (h3.trans (h4.trans h5))), .inr ⟨⟨b33, p, v', vn, tv, .slice (some ⟨b27, 0, none⟩) n n, w.S, G, T', F⟩, rfl, ⟨hG3.le (h4.trans h5), hgood, hGS.hn, hGS.hr, hrT.le (h4.trans h5), fun t ht => ⟨(hTr3 t ht).1.le (h4.trans h5), (hTr3 t ht).2⟩, by show T'.length = G.length; omega, ?_, by show F.length = G.length; omega, hFs2⟩, rfl, hGn, ?_, rfl⟩⟩ ?_
        · show Row μ5 _ 2 F.length _
          rw [hFl]; exact hrF
        · show T'.map (·.2) = (List.range G.length).map (ofT w.T)
          rw [hTm, hn]
        · refine (Split.ent' (K := [blk p 45 [v', vn, va], own 3 1 va n (askV n noAsk), blk b33 42 [.pointer (some ⟨p, 0, none⟩), tv, .int .i64 w.S.ha, .int .i64 w.S.pe, .int .i64 w.S.mo, .int .u32 (w.S.seed.toNat : Nat), .slice (some ⟨b27, 0, none⟩) n n, vl, vm], own 4 1 vl n (bcn n fun _ => false), own 4 1 vm n (bcn n fun _ => false), ro μ5]) (by repeat (first | exact Split.nil | (apply Split.cons; (repeat (first | with_reducible exact Take.here | apply Take.there)))))).trans (gA_close.trans ?_)
          refine (Split.ent' (K := [blk b33 42 [.pointer (some ⟨p, 0, none⟩), tv, .int .i64 w.S.ha, .int .i64 w.S.pe, .int .i64 w.S.mo, .int .u32 (w.S.seed.toNat : Nat), .slice (some ⟨b27, 0, none⟩) n n, vl, vm], gA p v' vn n noAsk, own 4 1 vl n (bcn n fun _ => false), own 4 1 vm n (bcn n fun _ => false), ro μ5]) (by repeat (first | exact Split.nil | (apply Split.cons; (repeat (first | with_reducible exact Take.here | apply Take.there)))))).trans ?_
          subst hn
          exact HW.close (W := ⟨b33, p, v', vn, tv, .slice (some ⟨b27, 0, none⟩) G.length G.length, w.S, G, T', F⟩) (s := st00)
end SX
namespace SX
open Go Go.Proofs
/-- the virtual ancestor, of graph and trees alone -/
def virtG (g : List (List Int)) (ts : List (List En)) (a b limit : Int) : List En × Bool × Int × Int :=
  if askedV g.length a b ≠ 0 then ([], false, 0, askedV g.length a b) else
  match vall (fun x y => sidesA g x [y]) (fun c => (ts[c.toNat]?).getD []) VM [] (min (max limit 0) 4096).toNat [a] b with
  | (none, _) => ([], false, 0, 12)
  | (some (t, ok), left) => (t, ok, (((min (max limit 0) 4096).toNat - left : Nat) : Int), 0)
theorem vt_map (W : HW) : VT W = fun c => ((W.T.map (·.2))[c.toNat]?).getD [] := by
  funext c
  unfold VT treeOf
  rw [List.getElem?_map]
  cases W.T[c.toNat]? <;> rfl
theorem virt_of {W : HW} {g : List (List Int)} {ts : List (List En)} (hg : nums W.G = g) (ht : W.T.map (·.2) = ts) (a b limit : Int) : virtV W a b limit = virtG g ts a b limit := by
  subst hg ht
  unfold virtV virtG VS
  rw [vt_map, List.length_map]
  rfl
abbrev xG : List (List Int) := [[], [0], [0], [1, 2], [2, 1]]
abbrev xp1 : List En := [(⟨#[112]⟩, 1)]
abbrev xp2 : List En := [(⟨#[112]⟩, 2)]
abbrev xpq : List En := [(⟨#[112]⟩, 1), (⟨#[113]⟩, 3)]
abbrev xT : List (List En) := [xp1, xp2, xpq, xp1, xp2]
theorem x_good : chkFrom 0 xG = 0 ∧ goodE xp1 = xp1 ∧ goodE xp2 = xp2 ∧ goodE xpq = xpq := by decide +kernel
theorem uni_lit {xs ys : List ByteArray} (hp : ys.Pairwise fun a b => strLt a b = true) (h1 : xs.all (fun q => ys.any fun p => decide (q = p)) = true) (h2 : ys.all (fun q => xs.any fun p => decide (q = p)) = true) : uniS xs = ys := rise_ext (uniS_rises _) hp fun q => by
  have key : ∀ {us ws : List ByteArray}, us.all (fun q => ws.any fun p => decide (q = p)) = true → q ∈ us → q ∈ ws := fun {us ws} h hq => by
    obtain ⟨p, hp, he⟩ := List.any_eq_true.1 (List.all_eq_true.1 h q hq)
    rw [of_decide_eq_true he]; exact hp
  rw [uniS_mem]
  exact ⟨key h1, key h2⟩
theorem rises_one (p : ByteArray) (b : Int) : Rises [(p, b)] := List.pairwise_singleton _ _
theorem x_vm : VM xp1 xp2 xpq = [(⟨#[112]⟩, 2), (⟨#[113]⟩, 3)] := by
  have e : pathsE xp1 xp2 xpq = [⟨#[112]⟩, ⟨#[113]⟩] := uni_lit (by decide +kernel) (by decide +kernel) (by decide +kernel)
  unfold VM
  rw [rowsB_L (rises_one _ _) (rises_one _ _) (show Rises xpq from by unfold Rises; decide +kernel), e]
  decide +kernel
theorem x_vall : vall (fun x y => sidesA xG x [y]) (fun c => (xT[c.toNat]?).getD []) VM [] 9 [3] 4 = (some (VM xp1 xp2 xpq, true), 7) := by
  kernel_rfl
theorem x_vall1 : (vall (fun x y => sidesA xG x [y]) (fun c => (xT[c.toNat]?).getD []) VM [] 1 [3] 4).1 = none := by
  kernel_rfl
theorem x_virt : virtG xG xT 3 4 9 = ([(⟨#[112]⟩, 2), (⟨#[113]⟩, 3)], true, 2, 0) := by
  unfold virtG
  rw [if_neg (by decide), show (min (max (9 : Int) 0) 4096).toNat = 9 from rfl, x_vall, x_vm]
  rfl
theorem x_virt1 : virtG xG xT 3 4 1 = ([], false, 0, 12) := by
  unfold virtG
  have h := x_vall1
  rw [if_neg (by decide), show (min (max (1 : Int) 0) 4096).toNat = 1 from rfl]
  generalize vall (fun x y => sidesA xG x [y]) (fun c => (xT[c.toNat]?).getD []) VM [] 1 [3] 4 = q at h
  obtain ⟨q1, q2⟩ := q
  dsimp only at h
  subst h; rfl
end SX
namespace SX
open Go Go.Proofs
set_option maxHeartbeats 4000000 in
theorem crossed_spec (μ : PH) : Spec Tryd.prog 18 [] [ro μ] (fun r L => ∃ (W : HW) (μ' : PH), Le μ μ' ∧ r = .pointer (some ⟨W.p, 0, none⟩) ∧ W.Ok μ' ∧ nums W.G = xG ∧ W.T.map (·.2) = xT ∧ W.n = 5 ∧ L = [W.A st00, ro μ']) := by
  refine Spec.of 24 Tryd.func18 rfl rfl rfl ?_
  refine swp_seq ?_
  refine swp_region ?_
  refine s_pu (pu_assign rfl) ?_
  refine swl_sub _ .nil ?_
  refine swl_nil ?_
  refine then_n ?_
  refine swp_seq ?_
  refine swp_region ?_
  refine s_pu (pu_bld (qs := [(0, _), (1, _)]) rfl) ?_
  refine s_ef (ef_bldS (qs := [(0, _)]) rfl rfl rfl) ?_
  intro b5
  refine s_pu (pu_bld (qs := [(0, _), (1, _)]) rfl) ?_
  refine s_ef (ef_bldS (qs := [(0, _)]) rfl rfl rfl) ?_
  intro b7
  refine s_pu (pu_bld (qs := [(0, _), (1, _)]) rfl) ?_
  refine s_pu (pu_bld (qs := [(0, _), (1, _)]) rfl) ?_
  refine s_ef (ef_bldS (qs := [(0, _), (1, _)]) rfl rfl rfl) ?_
  intro b10
  refine s_pu (pu_assign rfl) ?_
  refine s_pu (pu_assign rfl) ?_
  refine s_pu (pu_assign rfl) ?_
  refine swl_sub _ (.cons (t := 1) rfl (.cons (t := 2) rfl (.cons (t := 3) rfl .nil))) ?_
  refine swl_nil ?_
  refine then_n ?_
  refine swp_seq ?_
  refine swp_region ?_
  refine s_ef (ef_bldS (qs := [(0, _)]) rfl rfl rfl) ?_
  intro b11
  refine s_ef (ef_bldS (qs := [(0, _)]) rfl rfl rfl) ?_
  intro b12
  refine s_ef (ef_bldS (qs := [(0, _), (1, _)]) rfl rfl rfl) ?_
  intro b13
  refine s_ef (ef_bldS (qs := [(0, _), (1, _)]) rfl rfl rfl) ?_
  intro b14
  refine s_ef (ef_bldS (qs := [(0, _), (1, _), (2, _), (3, _), (4, _)]) rfl rfl rfl) ?_
  intro b15
  refine s_pu (pu_move rfl) ?_
  refine s_pu (pu_move rfl) ?_
  refine s_pu (pu_move rfl) ?_
  refine s_pu (pu_move rfl) ?_
  refine s_pu (pu_move rfl) ?_
  refine s_ef (ef_bldS (qs := [(0, _), (1, _), (2, _), (3, _), (4, _)]) rfl rfl rfl) ?_
  intro b21
  refine s_pu (pu_bld (qs := [(0, _), (1, _)]) rfl) ?_
  refine swl_share (b := b5) (μ := μ) (by repeat (first | exact Split.nil | (apply Split.cons; (repeat (first | with_reducible exact Take.here | apply Take.there))))) fun μ1 h1 k5 => ?_
  refine swl_share (b := b7) (μ := μ1) (by repeat (first | exact Split.nil | (apply Split.cons; (repeat (first | with_reducible exact Take.here | apply Take.there))))) fun μ2 h2 k7 => ?_
  refine swl_share (b := b10) (μ := μ2) (by repeat (first | exact Split.nil | (apply Split.cons; (repeat (first | with_reducible exact Take.here | apply Take.there))))) fun μ3 h3 k10 => ?_
  refine swl_share (b := b11) (μ := μ3) (by repeat (first | exact Split.nil | (apply Split.cons; (repeat (first | with_reducible exact Take.here | apply Take.there))))) fun μ4 h4 k11 => ?_
  refine swl_share (b := b12) (μ := μ4) (by repeat (first | exact Split.nil | (apply Split.cons; (repeat (first | with_reducible exact Take.here | apply Take.there))))) fun μ5 h5 k12 => ?_
  refine swl_share (b := b13) (μ := μ5) (by repeat (first | exact Split.nil | (apply Split.cons; (repeat (first | with_reducible exact Take.here | apply Take.there))))) fun μ6 h6 k13 => ?_
  refine swl_share (b := b14) (μ := μ6) (by repeat (first | exact Split.nil | (apply Split.cons; (repeat (first | with_reducible exact Take.here | apply Take.there))))) fun μ7 h7 k14 => ?_
  refine swl_share (b := b15) (μ := μ7) (by repeat (first | exact Split.nil | (apply Split.cons; (repeat (first | with_reducible exact Take.here | apply Take.there))))) fun μ8 h8 k15 => ?_
  refine swl_share (b := b21) (μ := μ8) (by repeat (first | exact Split.nil | (apply Split.cons; (repeat (first | with_reducible exact Take.here | apply Take.there))))) fun μ9 h9 k21 => ?_
  have l8 := h9
  have l7 := h8.trans l8
  have l6 := h7.trans l7
  have l5 := h6.trans l6
  have l4 := h5.trans l5
  have l3 := h4.trans l4
  have l2 := h3.trans l3
  have l1 := h2.trans l2
  have l0 := h1.trans l1
  have p1 : Row μ9 (.slice (some ⟨b5, 0, none⟩) 1 1) 2 xp1.length (ens xp1) := (row_of_blk k5 rfl (by decide)).le l1
  have p2 : Row μ9 (.slice (some ⟨b7, 0, none⟩) 1 1) 2 xp2.length (ens xp2) := (row_of_blk k7 rfl (by decide)).le l2
  have pq : Row μ9 (.slice (some ⟨b10, 0, none⟩) 2 2) 2 xpq.length (ens xpq) := (row_of_blk k10 rfl (by decide)).le l3
  have r1 : Row μ9 (.slice (some ⟨b11, 0, none⟩) 1 1) 1 1 ([0].flatMap (icsk .i64)) := (row_of_blk (n := 1) (l := 1) (cs := [0].flatMap (icsk .i64)) k11 (by rfl) (by decide)).le l4
  have r2 : Row μ9 (.slice (some ⟨b12, 0, none⟩) 1 1) 1 1 ([0].flatMap (icsk .i64)) := (row_of_blk (n := 1) (l := 1) (cs := [0].flatMap (icsk .i64)) k12 (by rfl) (by decide)).le l5
  have r3 : Row μ9 (.slice (some ⟨b13, 0, none⟩) 2 2) 1 2 ([1, 2].flatMap (icsk .i64)) := (row_of_blk (n := 1) (l := 2) (cs := [1, 2].flatMap (icsk .i64)) k13 (by rfl) (by decide)).le l6
  have r4 : Row μ9 (.slice (some ⟨b14, 0, none⟩) 2 2) 1 2 ([2, 1].flatMap (icsk .i64)) := (row_of_blk (n := 1) (l := 2) (cs := [2, 1].flatMap (icsk .i64)) k14 (by rfl) (by decide)).le l7
  have hG : Graph μ9 (.slice (some ⟨b15, 0, none⟩) 5 5) [(.slice none 0 0, []), (.slice (some ⟨b11, 0, none⟩) 1 1, [0]), (.slice (some ⟨b12, 0, none⟩) 1 1, [0]), (.slice (some ⟨b13, 0, none⟩) 2 2, [1, 2]), (.slice (some ⟨b14, 0, none⟩) 2 2, [2, 1])] := by
    refine ⟨(row_of_blk k15 (by rfl) (by decide)).le l8, fun x hx => ?_⟩
    rcases List.mem_cons.1 hx with rfl | hx
    · exact Row.nil _ _
    rcases List.mem_cons.1 hx with rfl | hx
    · exact r1
    rcases List.mem_cons.1 hx with rfl | hx
    · exact r2
    rcases List.mem_cons.1 hx with rfl | hx
    · exact r3
    obtain rfl := List.mem_singleton.1 hx
    exact r4
  have u1 : U32s xp1 := fun e he => by rw [List.mem_singleton.1 he]; unfold U32; dsimp only; omega
  have u2 : U32s xp2 := fun e he => by rw [List.mem_singleton.1 he]; unfold U32; dsimp only; omega
  have uq : U32s xpq := fun e he => by
    rcases List.mem_cons.1 he with rfl | he
    · unfold U32; dsimp only; omega
    · rw [List.mem_singleton.1 he]; unfold U32; dsimp only; omega
  obtain ⟨w, hw, hwn, hwt, hwG, hwc⟩ : ∃ w : Wld, w.Ok μ9 ∧ nums w.G = xG ∧ (List.range 5).map (ofT w.T) = xT ∧ w.G.length = 5 ∧ w.cells = [.slice (some ⟨b15, 0, none⟩) 5 5, .slice (some ⟨b21, 0, none⟩) 5 5, .int .i64 0, .int .i64 0, .int .i64 0, .int .u32 0, .slice none 0 0] := by
    refine ⟨⟨.slice (some ⟨b15, 0, none⟩) 5 5, .slice (some ⟨b21, 0, none⟩) 5 5, .slice none 0 0, ⟨0, 0, 0, 0#32⟩, _, [(.slice (some ⟨b5, 0, none⟩) 1 1, xp1), (.slice (some ⟨b7, 0, none⟩) 1 1, xp2), (.slice (some ⟨b10, 0, none⟩) 2 2, xpq), (.slice (some ⟨b5, 0, none⟩) 1 1, xp1), (.slice (some ⟨b7, 0, none⟩) 1 1, xp2)], []⟩, ⟨hG, row_of_blk k21 (by rfl) (by decide), fun t ht => ?_, Row.nil _ _⟩, rfl, ?_, rfl, rfl⟩
    · rcases List.mem_cons.1 ht with rfl | ht
      · exact ⟨p1, u1⟩
      rcases List.mem_cons.1 ht with rfl | ht
      · exact ⟨p2, u2⟩
      rcases List.mem_cons.1 ht with rfl | ht
      · exact ⟨pq, uq⟩
      rcases List.mem_cons.1 ht with rfl | ht
      · exact ⟨p1, u1⟩
      obtain rfl := List.mem_singleton.1 ht
      exact ⟨p2, u2⟩
    · show [goodE xp1, goodE xp2, goodE xpq, goodE xp1, goodE xp2] = xT
      rw [x_good.2.1, x_good.2.2.1, x_good.2.2.2]
  refine s_ef (ef_fn (of_spec w μ9 hw 9 (by decide)) rfl (by rw [hwc]; rfl) (by repeat (first | exact Split.nil | (apply Split.cons; (repeat (first | with_reducible exact Take.here | apply Take.there)))))) ?_
  rintro v23 L1 ⟨μa, ha, hp⟩
  obtain ⟨W, rfl, hWok, hWG, hWn, hWT, rfl⟩ : ∃ W : HW, v23 = .pointer (some ⟨W.p, 0, none⟩) ∧ W.Ok μa ∧ W.G = w.G.take (min w.G.length 9) ∧ W.n = min w.G.length 9 ∧ W.T.map (·.2) = (List.range W.n).map (ofT w.T) ∧ L1 = [W.A st00, ro μa] := by
    rcases hp with ⟨h, _⟩ | h
    · rw [show min w.G.length 9 = w.G.length by omega, List.take_length, hwn] at h; exact absurd x_good.1 h
    · exact h
  have hWn5 : W.n = 5 := by rw [hWn, hwG]; rfl
  have hWx : nums W.G = xG := by rw [hWG, show min w.G.length 9 = w.G.length by omega, List.take_length, hwn]
  rw [hWn5, hwt] at hWT
  refine swl_app ?_
  refine s_pu (pu_assign rfl) ?_
  refine swl_sub _ (.cons (t := 0) rfl .nil) ?_
  refine swl_nil ?_
  refine then_n ?_
  refine swp_ret ?_
  exact done_ret [W.A st00, ro μa] (.tmp rfl .nil) ⟨W, μa, l0.trans ha, rfl, hWok, hWx, hWT, hWn5, rfl⟩ (by repeat (first | exact Split.nil | (apply Split.cons; (repeat (first | with_reducible exact Take.here | apply Take.there)))))
end SX
namespace SX
open Go Go.Proofs
theorem askB0 : AskB 0 st00 := fun _ => Nat.le_refl _
set_option maxHeartbeats 4000000 in
theorem crosses_spec (μ : PH) (hT : RowAt μ 1 0 tabV) : Spec Tryd.prog 8 [] [ro μ] (fun r L => r = .bool true ∧ ∃ μ', Le μ μ' ∧ L = [ro μ']) := by
  refine Spec.of 45 Tryd.func8 rfl rfl rfl ?_
  refine swp_seq ?_
  refine swp_region ?_
  refine s_pu (pu_assign rfl) ?_
  refine swl_sub _ .nil ?_
  refine swl_nil ?_
  refine then_n ?_
  refine swp_seq ?_
  refine swp_region ?_
  refine s_ef (ef_fn (crossed_spec μ) rfl rfl (by repeat (first | exact Split.nil | (apply Split.cons; (repeat (first | with_reducible exact Take.here | apply Take.there)))))) ?_
  rintro v10 L1 ⟨W, μ1, h1, rfl, hW, hg, ht, hn, rfl⟩
  refine swl_app ?_
  refine s_pu (pu_iface rfl) ?_
  refine s_ef (ef_fn (virtual_spec W μ1 hW (by omega) μ1 (Le.refl _) (hT.le h1) st00 0 askB0 (by omega) 3 4 9) rfl rfl (by repeat (first | exact Split.nil | (apply Split.cons; (repeat (first | with_reducible exact Take.here | apply Take.there)))))) ?_
  rintro v12 L1 ⟨tv, s2, μ2, h2, _, _, rfl, rfl⟩
  rw [virt_of hg ht, x_virt]
  refine swl_app ?_
  refine swl_share_own (v := tv) (μ := μ2) (by repeat (first | exact Split.nil | (apply Split.cons; (repeat (first | with_reducible exact Take.here | apply Take.there))))) fun μ3 h3 rt => ?_
  refine s_pu (pu_move rfl) ?_
  first | refine s_pu (pu_extractL rfl) ?_ | refine s_pu (pu_extract rfl rfl) ?_
  first | refine s_pu (pu_extractL rfl) ?_ | refine s_pu (pu_extract rfl rfl) ?_
  first | refine s_pu (pu_extractL rfl) ?_ | refine s_pu (pu_extract rfl rfl) ?_
  first | refine s_pu (pu_extractL rfl) ?_ | refine s_pu (pu_extract rfl rfl) ?_
  refine s_pu (pu_assign rfl) ?_
  refine s_pu (pu_assign rfl) ?_
  refine s_pu (pu_assign rfl) ?_
  refine s_pu (pu_assign rfl) ?_
  refine swl_sub _ (.cons (t := 1) rfl (.cons (t := 2) rfl (.cons (t := 3) rfl (.cons (t := 4) rfl .nil)))) ?_
  refine swl_nil ?_
  refine then_n ?_
  refine swp_seq ?_
  refine swp_region ?_
  refine s_ef (ef_fn (crossed_spec μ3) rfl rfl (by repeat (first | exact Split.nil | (apply Split.cons; (repeat (first | with_reducible exact Take.here | apply Take.there)))))) ?_
  rintro v18 L1 ⟨W', μ4, h4, rfl, hW', hg', ht', hn', rfl⟩
  refine swl_app ?_
  refine s_pu (pu_iface rfl) ?_
  refine s_ef (ef_fn (virtual_spec W' μ4 hW' (by omega) μ4 (Le.refl _) (hT.le (h1.trans (h2.trans (h3.trans h4)))) st00 0 askB0 (by omega) 3 4 1) rfl rfl (by repeat (first | exact Split.nil | (apply Split.cons; (repeat (first | with_reducible exact Take.here | apply Take.there)))))) ?_
  rintro v20 L1 ⟨tv2, s5, μ5, h5, _, _, rfl, rfl⟩
  rw [virt_of hg' ht', x_virt1]
  refine swl_app ?_
  refine s_pu (pu_move rfl) ?_
  first | refine s_pu (pu_extractL rfl) ?_ | refine s_pu (pu_extract rfl rfl) ?_
  first | refine s_pu (pu_extractL rfl) ?_ | refine s_pu (pu_extract rfl rfl) ?_
  first | refine s_pu (pu_extractL rfl) ?_ | refine s_pu (pu_extract rfl rfl) ?_
  first | refine s_pu (pu_extractL rfl) ?_ | refine s_pu (pu_extract rfl rfl) ?_
  refine s_pu (pu_assign rfl) ?_
  refine s_pu (pu_assign rfl) ?_
  refine s_pu (pu_assign rfl) ?_
  refine s_pu (pu_assign rfl) ?_
  refine swl_sub _ (.cons (t := 1) rfl (.cons (t := 2) rfl (.cons (t := 3) rfl (.cons (t := 4) rfl (.cons (t := 8) rfl .nil))))) ?_
  refine swl_nil ?_
  refine then_n ?_
  refine swp_seq ?_
  refine swp_region ?_
  refine s_pu (pu_move rfl) ?_
  refine s_pu (pu_move rfl) ?_
  refine s_on rfl rfl ?_
  refine s_pu (pu_move rfl) ?_
  refine s_on rfl rfl ?_
  refine s_pu (pu_eql rfl rfl) ?_
  first | refine s_pu (pu_pick_t rfl rfl) ?_ | refine s_pu (pu_pick_f rfl rfl) ?_
  refine s_pu (pu_move rfl) ?_
  refine s_on rfl rfl ?_
  refine s_pu (pu_move rfl) ?_
  refine s_on rfl rfl ?_
  refine s_pu (pu_eql rfl rfl) ?_
  first | refine s_pu (pu_pick_t rfl rfl) ?_ | refine s_pu (pu_pick_f rfl rfl) ?_
  refine s_pu (pu_move rfl) ?_
  refine s_on rfl rfl ?_
  refine s_pu (pu_move rfl) ?_
  refine s_on rfl rfl ?_
  refine s_pu (pu_eql rfl rfl) ?_
  first | refine s_pu (pu_pick_t rfl rfl) ?_ | refine s_pu (pu_pick_f rfl rfl) ?_
  refine s_pu (pu_move rfl) ?_
  refine s_on rfl rfl ?_
  refine s_pu (pu_move rfl) ?_
  refine s_on rfl rfl ?_
  refine s_pu (pu_bld (qs := [(0, _), (1, _)]) rfl) ?_
  refine s_on rfl rfl ?_
  refine s_pu (pu_bld (qs := [(0, _), (1, _)]) rfl) ?_
  refine s_on rfl rfl ?_
  refine s_ef (ef_bldS (qs := [(0, _), (1, _)]) rfl rfl rfl) ?_
  intro b42
  refine s_on rfl rfl ?_
  refine s_ef (ef_fn (same_lit μ5 tv b42 [(⟨#[112]⟩, 2), (⟨#[113]⟩, 3)] [(⟨#[112]⟩, 2), (⟨#[113]⟩, 3)] (rt.le (h4.trans h5)) (by decide) (cs := [.string ⟨#[112]⟩, .int .u32 2, .string ⟨#[113]⟩, .int .u32 3]) rfl) rfl rfl (by repeat (first | exact Split.nil | (apply Split.cons; (repeat (first | with_reducible exact Take.here | apply Take.there)))))) ?_
  rintro v43 L1 ⟨rfl, rfl⟩
  refine swl_app ?_
  first | refine s_pu (pu_pick_t rfl rfl) ?_ | refine s_pu (pu_pick_f rfl rfl) ?_
  refine s_pu (pu_assign rfl) ?_
  refine swl_sub _ (.cons (t := 0) rfl .nil) ?_
  refine swl_nil ?_
  refine then_n ?_
  refine swp_ret ?_
  refine done_retE [ro μ5] (.tmp rfl .nil) ⟨?_, μ5, h1.trans (h2.trans (h3.trans (h4.trans h5))), rfl⟩ (Split.ent' (by repeat (first | exact Split.nil | (apply Split.cons; (repeat (first | with_reducible exact Take.here | apply Take.there))))))
  show Value.bool (decide _) = _
  simp
end SX
namespace SX
open Go Go.Proofs
end SX
namespace SX
open Go Go.Proofs
theorem onlyE_unk (g : List (List Int)) (xs ys : List Int) : onlyE g xs ys = if (unkB g.length xs || unkB g.length ys) = true then 9 else 0 := askedE_two _ _ _
theorem anyUp_one {g : List (List Int)} (hg : Good g) {b : Nat} (hb : b < g.length) (j : Nat) : anyUp g g.length [(b : Int)] j = up g b j := by
  rw [Bool.eq_iff_iff, anyUp_iff hg (fun p hp => by obtain rfl := List.mem_singleton.1 hp; omega), up_iff hg]
  constructor
  · rintro ⟨q, hq, hr⟩
    obtain rfl : q = b := by have := List.mem_singleton.1 hq; omega
    exact hr
  · exact fun h => ⟨b, List.mem_singleton.2 rfl, h⟩
-- MISSING falls_ext
theorem falls_els {n : Nat} {D : List Nat} (h : Falls D) (hn : ∀ j ∈ D, j < n) : elsTo n (fun j => decide (j ∈ D)) = numsI D.reverse := by
  unfold elsTo
  congr 1
  have key : ((List.range n).filter fun j => decide (j ∈ D)).reverse = D := by
    refine falls_ext ?_ h fun j => ?_
    · unfold Falls
      rw [List.pairwise_reverse]
      exact List.pairwise_lt_range.filter _
    · rw [List.mem_reverse, List.mem_filter, List.mem_range, decide_eq_true_eq]
      exact ⟨fun h => h.2, fun h => ⟨hn j h, h⟩⟩
  rw [← key, List.reverse_reverse, key]
/-! histories that cross, plainly -/
def crossR (o : Bool) (k : Nat) : List (List Int) := if o = true then [[((2 * k + 1 : Nat) : Int), ((2 * k + 2 : Nat) : Int)], [((2 * k + 2 : Nat) : Int), ((2 * k + 1 : Nat) : Int)]] else [[((2 * k + 2 : Nat) : Int), ((2 * k + 1 : Nat) : Int)], [((2 * k + 2 : Nat) : Int), ((2 * k + 1 : Nat) : Int)]]
def crossG (o : Bool) : Nat → List (List Int)
  | 0 => [[], [0], [0]]
  | k + 1 => crossG o k ++ crossR o k
theorem crossG_len (o : Bool) : ∀ k, (crossG o k).length = 2 * k + 3
  | 0 => rfl
  | k + 1 => by
    show (crossG o k ++ crossR o k).length = _
    rw [List.length_append, crossG_len o k, show (crossR o k).length = 2 by unfold crossR; split <;> rfl]; omega
/-- how far down -/
def lay (j : Nat) : Nat := (j + 1) / 2
theorem cross_row (o : Bool) : ∀ (k c j : Nat), (j : Int) ∈ rowOf (crossG o k) c ↔ c < 2 * k + 3 ∧ lay j + 1 = lay c
  | 0, c, j => by
    rcases c with _ | _ | _ | c
    · show (j : Int) ∈ ([] : List Int) ↔ _
      unfold lay; simp
    · show (j : Int) ∈ ([0] : List Int) ↔ _
      rw [List.mem_singleton]; unfold lay; omega
    · show (j : Int) ∈ ([0] : List Int) ↔ _
      rw [List.mem_singleton]; unfold lay; omega
    · have : rowOf (crossG o 0) (c + 3) = [] := by unfold rowOf; rw [List.getD_eq_getElem?_getD, List.getElem?_eq_none (by rw [crossG_len]; omega)]; rfl
      rw [this]
      exact ⟨fun h => (by cases h), fun h => (by omega)⟩
  | k + 1, c, j => by
    have hl := crossG_len o k
    have he : ∀ (i : Nat) (l : List Int), (crossR o k)[i]? = some l → ((j : Int) ∈ l ↔ j = 2 * k + 1 ∨ j = 2 * k + 2) := fun i l h => by
      unfold crossR at h
      split at h
      · rcases i with _ | _ | i
        · obtain rfl := Option.some.inj h.symm
          simp only [List.mem_cons, List.not_mem_nil, or_false]; omega
        · obtain rfl := Option.some.inj h.symm
          simp only [List.mem_cons, List.not_mem_nil, or_false]; omega
        · simp at h
      · rcases i with _ | _ | i
        · obtain rfl := Option.some.inj h.symm
          simp only [List.mem_cons, List.not_mem_nil, or_false]; omega
        · obtain rfl := Option.some.inj h.symm
          simp only [List.mem_cons, List.not_mem_nil, or_false]; omega
        · simp at h
    by_cases hc : c < 2 * k + 3
    · have : rowOf (crossG o (k + 1)) c = rowOf (crossG o k) c := by
        unfold rowOf
        show (crossG o k ++ crossR o k).getD c [] = _
        rw [List.getD_eq_getElem?_getD, List.getD_eq_getElem?_getD, List.getElem?_append_left (by omega)]
      rw [this, cross_row o k c j]
      exact ⟨fun h => ⟨by omega, h.2⟩, fun h => ⟨hc, h.2⟩⟩
    · have hr : (crossG o (k + 1))[c]? = (crossR o k)[c - (2 * k + 3)]? := by
        show (crossG o k ++ crossR o k)[c]? = _
        rw [List.getElem?_append_right (by omega), hl]
      unfold rowOf
      rw [List.getD_eq_getElem?_getD, hr]
      by_cases h5 : c < 2 * k + 5
      · obtain ⟨l, hl2⟩ : ∃ l, (crossR o k)[c - (2 * k + 3)]? = some l := ⟨_, List.getElem?_eq_getElem (by rw [show (crossR o k).length = 2 by unfold crossR; split <;> rfl]; omega)⟩
        rw [hl2]
        refine (he _ l hl2).trans ?_
        unfold lay; omega
      · rw [List.getElem?_eq_none (by rw [show (crossR o k).length = 2 by unfold crossR; split <;> rfl]; omega)]
        exact ⟨fun h => (by cases h), fun h => (by omega)⟩
theorem cross_good (o : Bool) (k : Nat) : Good (crossG o k) := fun c l hl p hp => by
  have hr := rowOf_at hl
  have hall : ∀ (k : Nat), ∀ l ∈ crossG o k, ∀ p ∈ l, 0 ≤ p := fun k => by
    induction k with
    | zero =>
      intro l hl p hp
      simp [crossG] at hl
      rcases hl with rfl | rfl
      · cases hp
      · rw [List.mem_singleton.1 hp]; exact Int.le_refl _
    | succ k ih =>
      intro l hl p hp
      rcases List.mem_append.1 hl with hl | hl
      · exact ih l hl p hp
      · unfold crossR at hl
        split at hl <;> (simp at hl; rcases hl with rfl | rfl <;> (simp at hp; omega))
  have h0 := hall k l (List.mem_of_getElem? hl) p hp
  obtain ⟨j, rfl⟩ : ∃ j : Nat, p = j := ⟨p.toNat, by omega⟩
  rw [← hr] at hp
  have := (cross_row o k c j).1 hp
  unfold lay at this
  omega
theorem cross_nodup (o : Bool) : ∀ (k : Nat), ∀ l ∈ crossG o k, l.Nodup
  | 0, l, hl => by
    simp [crossG] at hl
    rcases hl with rfl | rfl <;> simp
  | k + 1, l, hl => by
    rcases List.mem_append.1 hl with hl | hl
    · exact cross_nodup o k l hl
    · unfold crossR at hl
      split at hl <;> (simp at hl; rcases hl with rfl | rfl <;> simp <;> omega)
theorem chk_all : ∀ {g : List (List Int)} {c : Nat}, (∀ (i : Nat) (l : List Int), g[i]? = some l → rowErr (c + i) [] l = 0) → chkFrom c g = 0
  | [], _, _ => rfl
  | l :: g, c, h => by
    unfold chkFrom
    rw [if_pos (show rowErr c [] l = 0 from h 0 l rfl)]
    refine chk_all fun i l' hl => ?_
    have := h (i + 1) l' (by simpa using hl)
    rwa [show c + (i + 1) = c + 1 + i by omega] at this
theorem cross_chk (o : Bool) (k : Nat) : chkFrom 0 (crossG o k) = 0 := chk_all fun i l hl => rowErr_ok.2 ⟨fun p hp => by
  have := cross_good o k i l hl p hp
  omega, cross_nodup o k l (List.mem_of_getElem? hl), fun _ _ h => by cases h⟩
theorem cross_reach (o : Bool) (k : Nat) : ∀ (c j : Nat), c < 2 * k + 3 → (Reach (crossG o k) c j ↔ c = j ∨ lay j < lay c) := fun c => by
  induction c using Nat.strongRecOn with
  | _ c ih =>
    intro j hc
    constructor
    · intro h
      cases h with
      | refl => exact .inl rfl
      | step hp hr =>
        rename_i p
        have h1 := (cross_row o k c p).1 hp
        have hpc : p < c := by have := h1.2; unfold lay at this; omega
        rcases (ih p hpc j (by omega)).1 hr with rfl | h2
        · right; omega
        · right; omega
    · rintro (rfl | h)
      · exact .refl _
      · by_cases e : lay j + 1 = lay c
        · exact .step ((cross_row o k c j).2 ⟨hc, e⟩) (.refl _)
        · have hp : lay (2 * (lay c - 1)) + 1 = lay c := by unfold lay at *; omega
          have hpc : 2 * (lay c - 1) < c := by unfold lay at *; omega
          exact .step ((cross_row o k c _).2 ⟨hc, hp⟩) ((ih _ hpc j (by omega)).2 (.inr (by omega)))
theorem cross_up (o : Bool) (k : Nat) {c : Nat} (hc : c < 2 * k + 3) (j : Nat) : up (crossG o k) c j = true ↔ c = j ∨ lay j < lay c := by rw [up_iff (cross_good o k), cross_reach o k c j hc]
/-- the bases of the two that cross next -/
theorem cross_bases (o : Bool) (k i : Nat) (hi : i ≤ k) : sidesA (crossG o k) [((2 * i + 1 : Nat) : Int)] [((2 * i + 2 : Nat) : Int)] = if i = 0 then [0] else [((2 * i - 1 : Nat) : Int), ((2 * i : Nat) : Int)] := by
  have hl := crossG_len o k
  have hg := cross_good o k
  have he : onlyE (crossG o k) [((2 * i + 1 : Nat) : Int)] [((2 * i + 2 : Nat) : Int)] = 0 := by
    rw [onlyE_unk, hl]
    unfold unkB inR
    rw [if_neg]
    simp only [List.all_cons, List.all_nil, Bool.and_true]
    rw [decide_eq_true (show (0 : Int) ≤ ((2 * i + 1 : Nat) : Int) by omega), decide_eq_true (show (((2 * i + 1 : Nat) : Int)) < ((2 * k + 3 : Nat) : Int) by omega), decide_eq_true (show (0 : Int) ≤ ((2 * i + 2 : Nat) : Int) by omega), decide_eq_true (show (((2 * i + 2 : Nat) : Int)) < ((2 * k + 3 : Nat) : Int) by omega)]
    decide
  rw [sidesA, if_pos he]
  have hb : ∀ j, bothS (crossG o k) [((2 * i + 1 : Nat) : Int)] [((2 * i + 2 : Nat) : Int)] j = true ↔ lay j < i + 1 := fun j => by
    unfold bothS
    rw [anyUp_one hg (by omega), anyUp_one hg (by omega), Bool.and_eq_true, cross_up o k (by omega), cross_up o k (by omega)]
    unfold lay; omega
  have key : ∀ D : List Nat, Falls D → (∀ j ∈ D, j < (crossG o k).length) → (∀ j, j ∈ D ↔ lay j = i) → sidesB (crossG o k) [((2 * i + 1 : Nat) : Int)] [((2 * i + 2 : Nat) : Int)] = numsI D.reverse := fun D h1 h2 h3 => by
    rw [← falls_els h1 h2]
    unfold sidesB
    refine elsTo_ext fun j hj => ?_
    rw [Bool.eq_iff_iff, best_iff, decide_eq_true_eq, h3]
    constructor
    · rintro ⟨h4, h5⟩
      have h4' := (hb j).1 h4
      by_cases e : lay j = i
      · exact e
      · exfalso
        refine h5 (2 * lay j + 1) (by rw [hl]; omega) ((hb _).2 (by unfold lay at *; omega)) ((cross_row o k _ _).2 ⟨by omega, by unfold lay at *; omega⟩)
    · intro e
      refine ⟨(hb j).2 (by omega), fun y _ h4 h5 => ?_⟩
      have h4' := (hb y).1 h4
      have h5' := ((cross_row o k _ _).1 h5).2
      omega
  by_cases h0 : i = 0
  · rw [if_pos h0]
    subst h0
    exact key [0] (by unfold Falls; simp) (fun j hj => by rw [List.mem_singleton.1 hj, hl]; omega) (fun j => by rw [List.mem_singleton]; unfold lay; omega)
  · rw [if_neg h0]
    exact key [2 * i, 2 * i - 1] (by unfold Falls; simp; omega) (fun j hj => by
      rw [hl]
      rcases List.mem_cons.1 hj with rfl | hj
      · omega
      · rw [List.mem_singleton.1 hj]; omega) (fun j => by
      rw [List.mem_cons, List.mem_singleton]; unfold lay; omega)
end SX
namespace SX
open Go Go.Proofs
theorem asked_in {n a b : Nat} (hn : n ≤ 10000) (ha : a < n) (hb : b < n) : askedV n a b = 0 := by
  unfold askedV
  rw [if_neg (by omega)]
end SX
namespace SX
open Go Go.Proofs
end SX
namespace SX
open Go Go.Proofs
end SX
namespace SX
open Go Go.Proofs
abbrev pL : ByteArray := ⟨#[108]⟩
abbrev pR : ByteArray := ⟨#[114]⟩
def baseT (j : Nat) : List En := if j = 0 then [] else [(pL, (j : Int)), (pR, (j : Int))]
def leftT (j : Nat) : List En := if j = 0 then [(pL, 1)] else [(pL, ((j + 1 : Nat) : Int)), (pR, (j : Int))]
def rightT (j : Nat) : List En := if j = 0 then [(pR, 1)] else [(pL, (j : Int)), (pR, ((j + 1 : Nat) : Int))]
theorem rises_lr (x y : Int) : Rises [(pL, x), (pR, y)] := by
  unfold Rises
  refine List.pairwise_cons.2 ⟨fun e he => ?_, List.pairwise_singleton _ _⟩
  rw [List.mem_singleton.1 he]
  show strLt pL pR = true
  decide +kernel
theorem eq_ll : strEq pL pL = true := by decide +kernel
theorem eq_lr : strEq pL pR = false := by decide +kernel
theorem eq_rr : strEq pR pR = true := by decide +kernel
theorem lt_lr : strLt pL pR = true := by decide +kernel
theorem look_lr (x y : Int) : lookE [(pL, x), (pR, y)] pL = x ∧ lookE [(pL, x), (pR, y)] pR = y := by
  simp only [lookE, eq_ll, eq_lr, eq_rr]
  exact ⟨rfl, rfl⟩
theorem cross_vm (j : Nat) : VM (baseT j) (leftT j) (rightT j) = baseT (j + 1) ∧ cfR (rowsB (baseT j) (leftT j) (rightT j)) = [] := by
  by_cases hj : j = 0
  · subst hj
    have e : pathsE (baseT 0) (leftT 0) (rightT 0) = [pL, pR] := uni_lit (by decide +kernel) (by decide +kernel) (by decide +kernel)
    unfold VM
    rw [rowsB_L (show Rises (baseT 0) from List.Pairwise.nil) (show Rises (leftT 0) from rises_one _ _) (show Rises (rightT 0) from rises_one _ _), e]
    exact ⟨by decide +kernel, by decide +kernel⟩
  · have hb : baseT j = [(pL, (j : Int)), (pR, (j : Int))] := if_neg hj
    have hl : leftT j = [(pL, ((j + 1 : Nat) : Int)), (pR, (j : Int))] := if_neg hj
    have hr : rightT j = [(pL, (j : Int)), (pR, ((j + 1 : Nat) : Int))] := if_neg hj
    have hb1 : baseT (j + 1) = [(pL, ((j + 1 : Nat) : Int)), (pR, ((j + 1 : Nat) : Int))] := if_neg (by omega)
    have e : pathsE (baseT j) (leftT j) (rightT j) = [pL, pR] := by
      rw [hb, hl, hr]
      exact uni_lit (by decide +kernel) (show [pL, pR, pL, pR, pL, pR].all _ = true by decide +kernel) (show [pL, pR].all (fun q => [pL, pR, pL, pR, pL, pR].any _) = true by decide +kernel)
    have hrow : rowsB (baseT j) (leftT j) (rightT j) = [(pL, (j : Int), ((j + 1 : Nat) : Int), (j : Int)), (pR, (j : Int), (j : Int), ((j + 1 : Nat) : Int))] := by
      rw [rowsB_L (by rw [hb]; exact rises_lr _ _) (by rw [hl]; exact rises_lr _ _) (by rw [hr]; exact rises_lr _ _), e, hb, hl, hr]
      unfold rowsL
      simp only [List.map_cons, List.map_nil, look_lr]
    have o1 : oneE (j : Int) ((j + 1 : Nat) : Int) (j : Int) = (((j + 1 : Nat) : Int), false) := by unfold oneE; rw [if_pos (.inr rfl)]
    have o2 : oneE (j : Int) (j : Int) ((j + 1 : Nat) : Int) = (((j + 1 : Nat) : Int), false) := by unfold oneE; rw [if_neg (by omega), if_pos rfl]
    unfold VM
    rw [hrow, hb1]
    unfold outR cfR outR1 cfR1
    simp only [List.flatMap_cons, List.flatMap_nil, o1, o2]
    rw [if_neg (by omega)]
    exact ⟨rfl, rfl⟩
def crossT : Nat → List (List En)
  | 0 => [[], leftT 0, rightT 0]
  | k + 1 => crossT k ++ [leftT (k + 1), rightT (k + 1)]
theorem crossT_len : ∀ k, (crossT k).length = 2 * k + 3
  | 0 => rfl
  | k + 1 => by
    show (crossT k ++ [leftT (k + 1), rightT (k + 1)]).length = _
    rw [List.length_append, crossT_len k]; simp; omega
theorem crossT_at : ∀ (k i : Nat), i ≤ k → (crossT k)[2 * i + 1]? = some (leftT i) ∧ (crossT k)[2 * i + 2]? = some (rightT i) ∧ (crossT k)[0]? = some []
  | 0, i, h => by
    obtain rfl : i = 0 := by omega
    exact ⟨rfl, rfl, rfl⟩
  | k + 1, i, h => by
    have hl := crossT_len k
    unfold crossT
    by_cases hi : i = k + 1
    · subst hi
      rw [List.getElem?_append_right (by omega), List.getElem?_append_right (by omega), List.getElem?_append_left (by omega), hl, show 2 * (k + 1) + 1 - (2 * k + 3) = 0 by omega, show 2 * (k + 1) + 2 - (2 * k + 3) = 1 by omega]
      exact ⟨rfl, rfl, (crossT_at k 0 (Nat.zero_le _)).2.2⟩
    · rw [List.getElem?_append_left (by omega), List.getElem?_append_left (by omega), List.getElem?_append_left (by omega)]
      exact crossT_at k i (by omega)
theorem cross_vall (W : HW) (n : Nat) (hg : nums W.G = crossG true n) (hT : W.T.map (·.2) = crossT n) : ∀ i, i ≤ n → ∀ L, i + 1 ≤ L → vall (VS W) (VT W) VM [] L [((2 * i + 1 : Nat) : Int)] ((2 * i + 2 : Nat) : Int) = (some (baseT i, true), L - (i + 1)) := by
  have hVT : ∀ c : Nat, VT W (c : Int) = ((crossT n)[c]?).getD [] := fun c => by rw [vt_map]; dsimp only; rw [hT, Int.toNat_natCast]
  have hS : ∀ i, i ≤ n → VS W [((2 * i + 1 : Nat) : Int)] ((2 * i + 2 : Nat) : Int) = if i = 0 then [0] else [((2 * i - 1 : Nat) : Int), ((2 * i : Nat) : Int)] := fun i hi => by unfold VS; rw [hg]; exact cross_bases true n i hi
  intro i
  induction i with
  | zero =>
    intro _ L hL
    rw [vall_eq, if_neg (by omega), hS 0 (Nat.zero_le _), if_pos rfl]
    show (some (VT W ((0 : Nat) : Int), true), L - 1) = _
    rw [hVT, (crossT_at n 0 (Nat.zero_le _)).2.2]; rfl
  | succ i ih =>
    intro hi L hL
    rw [vall_eq, if_neg (by omega), hS (i + 1) hi, if_neg (by omega), show 2 * (i + 1) - 1 = 2 * i + 1 by omega, show 2 * (i + 1) = 2 * i + 2 by omega]
    dsimp only
    rw [vloop, ih (by omega) (L - 1) (by omega)]
    dsimp only
    rw [hVT, hVT, (crossT_at n i (by omega)).1, (crossT_at n i (by omega)).2.1]
    show (some (VM (baseT i) (leftT i) (rightT i), true), L - 1 - (i + 1)) = _
    rw [(cross_vm i).1]
    congr 1; omega
theorem cross_virt (W : HW) (n : Nat) (hn : n ≤ 29) (hg : nums W.G = crossG true n) (hT : W.T.map (·.2) = crossT n) (hW : W.n = 2 * n + 3) :
    virtV W ((2 * n + 1 : Nat) : Int) ((2 * n + 2 : Nat) : Int) 300 = (baseT n, true, ((n + 1 : Nat) : Int), 0) ∧ mergeV W ((2 * n + 1 : Nat) : Int) ((2 * n + 2 : Nat) : Int) 300 = (baseT (n + 1), [], ((n + 1 : Nat) : Int), 0) := by
  have hVT : ∀ c : Nat, VT W (c : Int) = ((crossT n)[c]?).getD [] := fun c => by rw [vt_map]; dsimp only; rw [hT, Int.toNat_natCast]
  have h1 : virtV W ((2 * n + 1 : Nat) : Int) ((2 * n + 2 : Nat) : Int) 300 = (baseT n, true, ((n + 1 : Nat) : Int), 0) := by
    unfold virtV
    rw [if_neg (not_not_intro (asked_in (by omega) (by omega) (by omega))), show (min (max (300 : Int) 0) 4096).toNat = 300 from rfl, cross_vall W n hg hT n (Nat.le_refl _) 300 (by omega)]
    show (baseT n, true, ((300 - (300 - (n + 1)) : Nat) : Int), (0 : Int)) = _
    rw [show 300 - (300 - (n + 1)) = n + 1 by omega]
  refine ⟨h1, ?_⟩
  unfold mergeV
  rw [h1, if_neg (by simp), hVT, hVT, (crossT_at n n (Nat.le_refl _)).1, (crossT_at n n (Nat.le_refl _)).2.1]
  show (VM (baseT n) (leftT n) (rightT n), cfR (rowsB (baseT n) (leftT n) (rightT n)), ((n + 1 : Nat) : Int), (0 : Int)) = _
  rw [(cross_vm n).1, (cross_vm n).2]
theorem good_lr {x y : Int} (hx : x ≠ 0) (hy : y ≠ 0) : goodE [(pL, x), (pR, y)] = [(pL, x), (pR, y)] := by
  have e : goodE [(pL, x), (pR, y)] = putE (putE [] pL x) pR y := by rfl
  have e1 : putE [] pL x = [(pL, x)] := by unfold putE; rw [if_neg (by decide), if_neg hx]; rfl
  have e2 : putE [(pL, x)] pR y = [(pL, x), (pR, y)] := by
    unfold putE
    rw [if_neg (by decide), if_neg hy]
    have h : ltP pR (pL, x) = true := lt_lr
    simp only [List.takeWhile_cons, List.takeWhile_nil, List.dropWhile_cons, List.dropWhile_nil, h, if_true]
    rfl
  rw [e, e1, e2]
end SX
namespace SX
open Go Go.Proofs
theorem put_l {x y z : Int} (hz : z ≠ 0) : putE [(pL, x), (pR, y)] pL z = [(pL, z), (pR, y)] := by
  have h1 : ltP pL (pL, x) = false := by show strLt pL pL = false; decide +kernel
  have t1 : List.takeWhile (ltP pL) [(pL, x), (pR, y)] = [] := by rw [List.takeWhile_cons, h1]; rfl
  have t2 : List.dropWhile (ltP pL) [(pL, x), (pR, y)] = [(pL, x), (pR, y)] := by rw [List.dropWhile_cons, h1]; rfl
  unfold putE
  rw [if_neg (by decide), if_neg hz, t1, t2, cutE_cons, if_pos (show strEq (pL, x).1 pL = true from eq_ll)]; rfl
theorem put_r {x y z : Int} (hz : z ≠ 0) : putE [(pL, x), (pR, y)] pR z = [(pL, x), (pR, z)] := by
  have h1 : ltP pR (pL, x) = true := lt_lr
  have h2 : ltP pR (pR, y) = false := by show strLt pR pR = false; decide +kernel
  have t1 : List.takeWhile (ltP pR) [(pL, x), (pR, y)] = [(pL, x)] := by rw [List.takeWhile_cons, h1, if_pos rfl, List.takeWhile_cons, h2]; rfl
  have t2 : List.dropWhile (ltP pR) [(pL, x), (pR, y)] = [(pR, y)] := by rw [List.dropWhile_cons, h1, if_pos rfl, List.dropWhile_cons, h2]; rfl
  unfold putE
  rw [if_neg (by decide), if_neg hz, t1, t2, cutE_cons, if_pos (show strEq (pR, y).1 pR = true from eq_rr)]; rfl
theorem cross_tree : ∀ (k : Nat), k ≤ 29 → ∀ t ∈ crossT k, goodE t = t ∧ U32s t
  | 0, _, t, ht => by
    have h : t = [] ∨ t = leftT 0 ∨ t = rightT 0 := by simpa [crossT] using ht
    rcases h with rfl | rfl | rfl
    · exact ⟨rfl, fun _ h => by cases h⟩
    · exact ⟨by decide +kernel, fun e he => by rw [List.mem_singleton.1 he]; unfold U32; dsimp only; omega⟩
    · exact ⟨by decide +kernel, fun e he => by rw [List.mem_singleton.1 he]; unfold U32; dsimp only; omega⟩
  | k + 1, hk, t, ht => by
    unfold crossT at ht
    rcases List.mem_append.1 ht with ht | ht
    · exact cross_tree k (by omega) t ht
    · have h : t = leftT (k + 1) ∨ t = rightT (k + 1) := by simpa using ht
      rcases h with rfl | rfl
      · rw [show leftT (k + 1) = [(pL, ((k + 1 + 1 : Nat) : Int)), (pR, ((k + 1 : Nat) : Int))] from if_neg (by omega)]
        refine ⟨good_lr (by omega) (by omega), fun e he => ?_⟩
        rcases List.mem_cons.1 he with rfl | he
        · unfold U32; dsimp only; omega
        · rw [List.mem_singleton.1 he]; unfold U32; dsimp only; omega
      · rw [show rightT (k + 1) = [(pL, ((k + 1 : Nat) : Int)), (pR, ((k + 1 + 1 : Nat) : Int))] from if_neg (by omega)]
        refine ⟨good_lr (by omega) (by omega), fun e he => ?_⟩
        rcases List.mem_cons.1 he with rfl | he
        · unfold U32; dsimp only; omega
        · rw [List.mem_singleton.1 he]; unfold U32; dsimp only; omega
/-- the trees as the source holds them -/
theorem cross_of {T : List (Value × List En)} {k : Nat} (hk : k ≤ 29) (h : T.map (·.2) = crossT k) : (List.range (2 * k + 3)).map (ofT T) = crossT k := by
  have hTl : T.length = 2 * k + 3 := by rw [← crossT_len k, ← h, List.length_map]
  apply List.ext_getElem?
  intro c
  by_cases hc : c < 2 * k + 3
  · rw [List.getElem?_map, List.getElem?_range hc]
    have hcT : c < T.length := by omega
    have e : ofT T c = goodE (T[c]).2 := by
      unfold ofT
      rw [if_neg (by omega), Nat.mod_eq_of_lt hcT, List.getElem?_eq_getElem hcT]; rfl
    have e2 : (crossT k)[c]? = some (T[c]).2 := by rw [← h, List.getElem?_map, List.getElem?_eq_getElem hcT]; rfl
    rw [e2]
    show some (ofT T c) = _
    rw [e, (cross_tree k hk _ (List.mem_of_getElem? e2)).1]
  · rw [List.getElem?_eq_none (by rw [List.length_map, List.length_range]; omega), List.getElem?_eq_none (by rw [crossT_len]; omega)]
set_option maxHeartbeats 16000000 in
theorem cross_spec (μ : PH) (hT : RowAt μ 1 0 tabV) (k : Int) (hk : 0 ≤ k ∧ k ≤ 255) : Spec Tryd.prog 5 [.int .u8 k] [ro μ] (LawOk μ) := by
  obtain ⟨n, hn, hn29⟩ : ∃ m : Nat, k.tmod 30 = (m : Int) ∧ m ≤ 29 := ⟨(k % 30).toNat, by rw [Int.tmod_eq_emod_of_nonneg hk.1]; omega, by omega⟩
  refine Spec.of 168 Tryd.func5 rfl rfl rfl ?_
  refine swp_seq ?_
  refine swp_region ?_
  refine s_pu (pu_assign rfl) ?_
  refine swl_sub _ (.cons (t := 0) rfl .nil) ?_
  refine swl_nil ?_
  refine then_n ?_
  refine swp_seq ?_
  refine swp_seq ?_
  refine swp_region ?_
  refine s_ef (ef_fn (crosses_spec μ hT) rfl rfl (by repeat (first | exact Split.nil | (apply Split.cons; (repeat (first | with_reducible exact Take.here | apply Take.there)))))) ?_
  rintro v22 L1 ⟨rfl, μ1, h1, rfl⟩
  refine swl_app ?_
  refine s_pu (pu_not rfl) ?_
  refine swl_sub _ (.cons (t := 0) rfl (.cons (t := 23) rfl .nil)) ?_
  refine swl_nil ?_
  refine then_n ?_
  refine swp_cond (b := _) rfl (fun h23 => by cases h23) (fun h23 => ?_)
  refine swp_skip ?_
  refine then_n ?_
  refine swp_seq ?_
  refine swp_region ?_
  refine s_ef (ef_bldS (qs := [(0, _)]) rfl rfl rfl) ?_
  intro b24
  refine s_ef (ef_bldS (qs := [(0, _)]) rfl rfl rfl) ?_
  intro b25
  refine s_ef (ef_bldS (qs := [(0, _), (1, _), (2, _)]) rfl rfl rfl) ?_
  intro b26
  refine s_pu (pu_bld (qs := [(0, _)]) rfl) ?_
  refine s_ef (ef_alloc) ?_
  intro b3
  refine s_ef0 (ef_storeA rfl rfl rfl rfl) ?_
  refine swl_sub _ (.cons (t := 0) rfl (.cons (t := 3) rfl .nil)) ?_
  refine swl_nil ?_
  refine then_n ?_
  refine swp_seq ?_
  refine swp_region ?_
  refine s_pu (pu_move rfl) ?_
  refine s_pu (pu_rem rfl rfl (by omega)) ?_
  rw [hn]
  refine s_pu (pu_conv_i64 rfl (by omega) (by omega)) ?_
  refine s_pu (pu_assign rfl) ?_
  refine swl_sub _ (.cons (t := 3) rfl (.cons (t := 4) rfl .nil)) ?_
  refine swl_nil ?_
  refine then_n ?_
  refine swp_seq ?_
  refine swp_region ?_
  refine s_pu (pu_bld (qs := [(0, _), (1, _)]) rfl) ?_
  refine s_ef (ef_bldS (qs := [(0, _)]) rfl rfl rfl) ?_
  intro b32
  refine s_pu (pu_bld (qs := [(0, _), (1, _)]) rfl) ?_
  refine s_ef (ef_bldS (qs := [(0, _)]) rfl rfl rfl) ?_
  intro b34
  refine s_pu (pu_assign rfl) ?_
  refine s_pu (pu_assign rfl) ?_
  refine swl_sub _ (.cons (t := 3) rfl (.cons (t := 4) rfl (.cons (t := 5) rfl (.cons (t := 6) rfl .nil)))) ?_
  refine swl_nil ?_
  refine then_n ?_
  refine swp_seq ?_
  refine swp_region ?_
  refine s_pu (pu_move rfl) ?_
  refine s_pu (pu_move rfl) ?_
  refine s_ef (ef_bldS (qs := [(0, _), (1, _), (2, _)]) rfl rfl rfl) ?_
  intro b37
  first | refine s_pu (pu_fieldAddr0 rfl) ?_ | refine s_pu (pu_fieldAddr rfl) ?_
  refine s_ef0 (ef_store rfl rfl rfl) ?_
  refine swl_sub _ (.cons (t := 3) rfl (.cons (t := 4) rfl .nil)) ?_
  refine swl_nil ?_
  refine then_n ?_
  refine swp_seq ?_
  refine swp_seq ?_
  refine swp_region ?_
  refine s_pu (pu_move rfl) ?_
  refine s_pu (pu_move rfl) ?_
  refine swl_sub _ (.cons (t := 3) rfl (.cons (t := 4) rfl (.cons (t := 39) rfl (.cons (t := 40) rfl .nil)))) ?_
  refine swl_nil ?_
  refine then_n ?_
  refine swp_block ?_
  refine swp_share (b := b24) (μ := μ1) (by repeat (first | exact Split.nil | (apply Split.cons; (repeat (first | with_reducible exact Take.here | apply Take.there))))) fun μ2 h2 k2 => ?_
  refine swp_share (b := b25) (μ := μ2) (by repeat (first | exact Split.nil | (apply Split.cons; (repeat (first | with_reducible exact Take.here | apply Take.there))))) fun μ3 h3 k3 => ?_
  refine swp_share (b := b32) (μ := μ3) (by repeat (first | exact Split.nil | (apply Split.cons; (repeat (first | with_reducible exact Take.here | apply Take.there))))) fun μ4 h4 k4 => ?_
  refine swp_share (b := b34) (μ := μ4) (by repeat (first | exact Split.nil | (apply Split.cons; (repeat (first | with_reducible exact Take.here | apply Take.there))))) fun μ5 h5 k5 => ?_
  have r1 : Row μ5 (.slice (some ⟨b24, 0, none⟩) 1 1) 1 1 (ivs [0]) := (row_of_blk (n := 1) (l := 1) (cs := ([0] : List Int).flatMap (icsk .i64)) k2 (by rfl) (by decide)).le (h3.trans (h4.trans h5))
  have r2 : Row μ5 (.slice (some ⟨b25, 0, none⟩) 1 1) 1 1 (ivs [0]) := (row_of_blk (n := 1) (l := 1) (cs := ([0] : List Int).flatMap (icsk .i64)) k3 (by rfl) (by decide)).le (h4.trans h5)
  have r3 : Row μ5 (.slice (some ⟨b32, 0, none⟩) 1 1) 2 (leftT 0).length (ens (leftT 0)) := (row_of_blk k4 rfl (by decide)).le h5
  have r4 : Row μ5 (.slice (some ⟨b34, 0, none⟩) 1 1) 2 (rightT 0).length (ens (rightT 0)) := row_of_blk k5 rfl (by decide)
  refine swp_loop (ι := Nat) (fun i env L => ∃ (g gt cg ct : Nat) (G : List (Value × List Int)) (T : List (Value × List En)) (μ6 : PH), Sub env [(3, .pointer (some ⟨b3, 0, none⟩)), (4, .int .i64 (n : Nat)), (39, .int .i64 (n : Nat)), (40, .int .i64 (i : Nat))] ∧
    Ent L [blk b3 29 [.slice (some ⟨g, 0, none⟩) (2 * i + 3) cg, .slice (some ⟨gt, 0, none⟩) (2 * i + 3) ct, .int .i64 0, .int .i64 0, .int .i64 0, .int .u32 0, .slice none 0 0], own 43 1 (.slice (some ⟨g, 0, none⟩) (2 * i + 3) cg) (2 * i + 3) (G.flatMap gcs), own 33 1 (.slice (some ⟨gt, 0, none⟩) (2 * i + 3) ct) (2 * i + 3) (T.flatMap gT), ro μ6] ∧
    i ≤ n ∧ nums G = crossG true i ∧ T.map (·.2) = crossT i ∧ Le μ5 μ6 ∧ (∀ x ∈ G, Row μ6 x.1 1 x.2.length (x.2.flatMap (icsk .i64))) ∧ (∀ t ∈ T, Row μ6 t.1 2 t.2.length (ens t.2))) (fun i => n - i) 0
    ⟨b26, b37, 3, 3, [(.slice none 0 0, []), (.slice (some ⟨b24, 0, none⟩) 1 1, [0]), (.slice (some ⟨b25, 0, none⟩) 1 1, [0])], [(.slice none 0 0, []), (.slice (some ⟨b32, 0, none⟩) 1 1, leftT 0), (.slice (some ⟨b34, 0, none⟩) 1 1, rightT 0)], μ5, ⟨rfl, rfl, rfl, rfl, trivial⟩, ?_, Nat.zero_le _, rfl, rfl, Le.refl _, ?_, ?_⟩ ?_
  · refine (Split.ent' (K := [blk b26 43 [.slice none 0 0, .slice (some ⟨b24, 0, none⟩) 1 1, .slice (some ⟨b25, 0, none⟩) 1 1], blk b3 29 [.slice (some ⟨b26, 0, none⟩) 3 3, .slice (some ⟨b37, 0, none⟩) 3 3, .int .i64 0, .int .i64 0, .int .i64 0, .int .u32 0, .slice none 0 0], blk b37 33 [.slice none 0 0, .slice (some ⟨b32, 0, none⟩) 1 1, .slice (some ⟨b34, 0, none⟩) 1 1], ro μ5]) (by repeat (first | exact Split.nil | (apply Split.cons; (repeat (first | with_reducible exact Take.here | apply Take.there)))))).trans ((own_full (n := 3) rfl (by decide)).trans ?_)
    refine (Split.ent' (K := [blk b37 33 [.slice none 0 0, .slice (some ⟨b32, 0, none⟩) 1 1, .slice (some ⟨b34, 0, none⟩) 1 1], blk b3 29 [.slice (some ⟨b26, 0, none⟩) 3 3, .slice (some ⟨b37, 0, none⟩) 3 3, .int .i64 0, .int .i64 0, .int .i64 0, .int .u32 0, .slice none 0 0], own 43 1 (.slice (some ⟨b26, 0, none⟩) 3 3) 3 [.slice none 0 0, .slice (some ⟨b24, 0, none⟩) 1 1, .slice (some ⟨b25, 0, none⟩) 1 1], ro μ5]) (by repeat (first | exact Split.nil | (apply Split.cons; (repeat (first | with_reducible exact Take.here | apply Take.there)))))).trans ((own_full (n := 3) rfl (by decide)).trans ?_)
    exact show Ent (own 33 1 (.slice (some ⟨b37, 0, none⟩) 3 3) 3 [.slice none 0 0, .slice (some ⟨b32, 0, none⟩) 1 1, .slice (some ⟨b34, 0, none⟩) 1 1] :: blk b3 29 [.slice (some ⟨b26, 0, none⟩) 3 3, .slice (some ⟨b37, 0, none⟩) 3 3, .int .i64 0, .int .i64 0, .int .i64 0, .int .u32 0, .slice none 0 0] :: own 43 1 (.slice (some ⟨b26, 0, none⟩) 3 3) 3 [.slice none 0 0, .slice (some ⟨b24, 0, none⟩) 1 1, .slice (some ⟨b25, 0, none⟩) 1 1] :: ro μ5 :: []) [blk b3 29 [.slice (some ⟨b26, 0, none⟩) 3 3, .slice (some ⟨b37, 0, none⟩) 3 3, .int .i64 0, .int .i64 0, .int .i64 0, .int .u32 0, .slice none 0 0], own 43 1 (.slice (some ⟨b26, 0, none⟩) 3 3) 3 [.slice none 0 0, .slice (some ⟨b24, 0, none⟩) 1 1, .slice (some ⟨b25, 0, none⟩) 1 1], own 33 1 (.slice (some ⟨b37, 0, none⟩) 3 3) 3 [.slice none 0 0, .slice (some ⟨b32, 0, none⟩) 1 1, .slice (some ⟨b34, 0, none⟩) 1 1], ro μ5] from Split.ent' (by repeat (first | exact Split.nil | (apply Split.cons; (repeat (first | with_reducible exact Take.here | apply Take.there)))))
  · intro x hx
    rcases List.mem_cons.1 hx with rfl | hx
    · exact Row.nil _ _
    rcases List.mem_cons.1 hx with rfl | hx
    · exact r1
    obtain rfl := List.mem_singleton.1 hx
    exact r2
  · intro x hx
    rcases List.mem_cons.1 hx with rfl | hx
    · exact Row.nil _ _
    rcases List.mem_cons.1 hx with rfl | hx
    · exact r3
    obtain rfl := List.mem_singleton.1 hx
    exact r4
  rintro i env L ⟨g, gt, cg, ct, G, T, μ6, hsub, hE, hi, hnu, hTm, h6, hrw, htr⟩
  refine swp_sub _ hsub ?_
  refine swp_ent hE ?_
  clear hsub hE env L
  refine swp_seq ?_
  refine swp_region ?_
  refine s_pu (pu_lss rfl rfl) ?_
  refine swl_sub _ (.cons (t := 3) rfl (.cons (t := 4) rfl (.cons (t := 39) rfl (.cons (t := 40) rfl (.cons (t := 41) rfl .nil))))) ?_
  refine swl_nil ?_
  refine then_n ?_
  refine swp_seq ?_
  refine swp_cond (b := _) rfl (fun h41 => ?_) (fun h41 => ?_)
  · skip   -- 41 T
    have h41' : i < n := by have := of_decide_eq_true h41; omega
    refine swp_skip ?_
    refine then_n ?_
    refine swp_seq ?_
    refine swp_block ?_
    refine swp_seq ?_
    refine swp_region ?_
    refine s_pu (pu_move rfl) ?_
    refine s_pu (pu_assign rfl) ?_
    refine swl_sub _ (.cons (t := 3) rfl (.cons (t := 4) rfl (.cons (t := 7) rfl (.cons (t := 39) rfl (.cons (t := 40) rfl .nil))))) ?_
    refine swl_nil ?_
    refine then_n ?_
    refine swp_seq ?_
    refine swp_draw [1, 5] _ [] (by simp only [List.append_nil]; exact Ent.refl _) (by kernel_rfl) ?_
    first | refine d_pu 0 rfl (pu_fieldAddr0 rfl) (by kernel_rfl) (by kernel_rfl) (by kernel_rfl) ?_ | refine d_pu 0 rfl (pu_fieldAddr rfl) (by kernel_rfl) (by kernel_rfl) (by kernel_rfl) ?_
    refine d_rd 1 rfl (rd_load rfl rfl) rfl (by kernel_rfl) (by kernel_rfl) (by kernel_rfl) ?_
    refine d_pu 2 rfl (pu_len rfl) (by kernel_rfl) (by kernel_rfl) (by kernel_rfl) ?_
    refine d_pu 3 rfl (pu_sub_as ((2 * i + 1 : Nat) : Int) rfl rfl (by omega) (by omega) (by omega)) (by kernel_rfl) (by kernel_rfl) (by kernel_rfl) ?_
    first | refine d_pu 4 rfl (pu_fieldAddr0 rfl) (by kernel_rfl) (by kernel_rfl) (by kernel_rfl) ?_ | refine d_pu 4 rfl (pu_fieldAddr rfl) (by kernel_rfl) (by kernel_rfl) (by kernel_rfl) ?_
    refine d_rd 5 rfl (rd_load rfl rfl) rfl (by kernel_rfl) (by kernel_rfl) (by kernel_rfl) ?_
    refine d_pu 6 rfl (pu_len rfl) (by kernel_rfl) (by kernel_rfl) (by kernel_rfl) ?_
    refine d_pu 7 rfl (pu_sub_as ((2 * i + 2 : Nat) : Int) rfl rfl (by omega) (by omega) (by omega)) (by kernel_rfl) (by kernel_rfl) (by kernel_rfl) ?_
    refine d_pu 8 rfl (pu_assign rfl) (by kernel_rfl) (by kernel_rfl) (by kernel_rfl) ?_
    refine d_pu 9 rfl (pu_assign rfl) (by kernel_rfl) (by kernel_rfl) (by kernel_rfl) ?_
    refine d_sub _ (.cons (t := 3) rfl (.cons (t := 4) rfl (.cons (t := 7) rfl (.cons (t := 8) rfl (.cons (t := 9) rfl (.cons (t := 39) rfl (.cons (t := 40) rfl .nil))))))) ?_
    first | refine d_nilt (by kernel_rfl) ?_ | refine d_nilf (by kernel_rfl) ?_
    refine then_n ?_
    refine swp_seq ?_
    refine swp_region ?_
    first | refine s_pu (pu_fieldAddr0 rfl) ?_ | refine s_pu (pu_fieldAddr rfl) ?_
    refine s_rd (rd_load rfl rfl) ?_
    refine s_pu (pu_move rfl) ?_
    refine s_pu (pu_move rfl) ?_
    refine s_ef (ef_bldS (qs := [(0, _), (1, _)]) rfl rfl rfl) ?_
    intro b55
    refine s_pu (pu_move rfl) ?_
    refine s_pu (pu_move rfl) ?_
    refine s_ef (ef_bldS (qs := [(0, _), (1, _)]) rfl rfl rfl) ?_
    intro b58
    refine s_ef (ef_bldS (qs := [(0, _), (1, _)]) rfl rfl rfl) ?_
    intro b59
    refine s_ef (ef_append_lit (l := 2 * i + 3) (m := 2) rfl rfl (by repeat (first | exact Split.nil | (apply Split.cons; (repeat (first | with_reducible exact Take.here | apply Take.there))))) (by simp only [maxLen]; omega) (by omega)) ?_
    rintro v60 hv60
    obtain ⟨g2, cg2, rfl⟩ := hv60 (by decide)
    first | refine s_pu (pu_fieldAddr0 rfl) ?_ | refine s_pu (pu_fieldAddr rfl) ?_
    refine s_ef0 (ef_store rfl rfl rfl) ?_
    refine swl_sub _ (.cons (t := 3) rfl (.cons (t := 4) rfl (.cons (t := 7) rfl (.cons (t := 39) rfl (.cons (t := 40) rfl .nil))))) ?_
    refine swl_nil ?_
    refine then_n ?_
    refine swp_seq ?_
    refine swp_share (b := b55) (μ := μ6) (by repeat (first | exact Split.nil | (apply Split.cons; (repeat (first | with_reducible exact Take.here | apply Take.there))))) fun μ7 h7 k7 => ?_
    refine swp_share (b := b58) (μ := μ7) (by repeat (first | exact Split.nil | (apply Split.cons; (repeat (first | with_reducible exact Take.here | apply Take.there))))) fun μ8 h8 k8 => ?_
    have r5 := (row_of_blk (n := 1) (l := 2) (cs := ([((2 * i + 1 : Nat) : Int), ((2 * i + 2 : Nat) : Int)] : List Int).flatMap (icsk .i64)) k7 (by rfl) (by decide)).le h8
    have r6 := row_of_blk (n := 1) (l := 2) (cs := ([((2 * i + 2 : Nat) : Int), ((2 * i + 1 : Nat) : Int)] : List Int).flatMap (icsk .i64)) k8 (by rfl) (by decide)
    refine swp_region ?_
    refine s_pu (pu_move rfl) ?_
    refine s_pu (pu_add_as ((i + 1 : Nat) : Int) rfl rfl (by omega) (by omega) (by omega)) ?_
    refine s_pu (pu_conv_as (k' := .u32) rfl (IntWalk.u32_in _ ⟨by omega, by omega⟩)) ?_
    refine s_pu (pu_bld (qs := [(0, _), (1, _)]) rfl) ?_
    refine s_pu (pu_move rfl) ?_
    refine s_pu (pu_add_as ((i + 1 : Nat) : Int) rfl rfl (by omega) (by omega) (by omega)) ?_
    refine s_pu (pu_conv_as (k' := .u32) rfl (IntWalk.u32_in _ ⟨by omega, by omega⟩)) ?_
    refine s_pu (pu_bld (qs := [(0, _), (1, _)]) rfl) ?_
    refine s_ef (ef_bldS (qs := [(0, _), (1, _)]) rfl rfl rfl) ?_
    intro b70
    refine s_pu (pu_assign rfl) ?_
    refine swl_sub _ (.cons (t := 3) rfl (.cons (t := 4) rfl (.cons (t := 7) rfl (.cons (t := 10) rfl (.cons (t := 39) rfl (.cons (t := 40) rfl .nil)))))) ?_
    refine swl_nil ?_
    refine then_n ?_
    refine swp_share (b := b70) (μ := μ8) (by repeat (first | exact Split.nil | (apply Split.cons; (repeat (first | with_reducible exact Take.here | apply Take.there))))) fun μ9 h9 k9 => ?_
    have r7 : Row μ9 (.slice (some ⟨b70, 0, none⟩) 2 2) 2 ([(pL, ((i + 1 : Nat) : Int)), (pR, ((i + 1 : Nat) : Int))] : List En).length (ens [(pL, ((i + 1 : Nat) : Int)), (pR, ((i + 1 : Nat) : Int))]) := row_of_blk k9 (by rfl) (by decide)
    have e1 : putE [(pL, ((i + 1 : Nat) : Int)), (pR, ((i + 1 : Nat) : Int))] pL ((i + 2 : Nat) : Int) = leftT (i + 1) := by rw [put_l (by omega)]; exact (if_neg (by omega)).symm
    have e2 : putE [(pL, ((i + 1 : Nat) : Int)), (pR, ((i + 1 : Nat) : Int))] pR ((i + 2 : Nat) : Int) = rightT (i + 1) := by rw [put_r (by omega)]; exact (if_neg (by omega)).symm
    have hp1 := Spec.formed (put_spec μ9 _ _ pL ((i + 2 : Nat) : Int) r7 (by show 2 ≤ 1048576; omega) (by decide))
    have hp2 := Spec.formed (put_spec μ9 _ _ pR ((i + 2 : Nat) : Int) r7 (by show 2 ≤ 1048576; omega) (by decide))
    rw [e1] at hp1
    rw [e2] at hp2
    refine swp_draw [1] _ [] (by simp only [List.append_nil]; exact Ent.refl _) (by kernel_rfl) ?_
    first | refine d_pu 0 rfl (pu_fieldAddr0 rfl) (by kernel_rfl) (by kernel_rfl) (by kernel_rfl) ?_ | refine d_pu 0 rfl (pu_fieldAddr rfl) (by kernel_rfl) (by kernel_rfl) (by kernel_rfl) ?_
    refine d_rd 1 rfl (rd_load rfl rfl) rfl (by kernel_rfl) (by kernel_rfl) (by kernel_rfl) ?_
    refine d_pu 2 rfl (pu_move rfl) (by kernel_rfl) (by kernel_rfl) (by kernel_rfl) ?_
    refine d_pu 3 rfl (pu_move rfl) (by kernel_rfl) (by kernel_rfl) (by kernel_rfl) ?_
    refine d_pu 4 rfl (pu_add_as ((i + 2 : Nat) : Int) rfl rfl (by omega) (by omega) (by omega)) (by kernel_rfl) (by kernel_rfl) (by kernel_rfl) ?_
    refine d_pu 5 rfl (pu_conv_as (k' := .u32) rfl (IntWalk.u32_in _ ⟨by omega, by omega⟩)) (by kernel_rfl) (by kernel_rfl) (by kernel_rfl) ?_
    refine d_pu 7 rfl (pu_move rfl) (by kernel_rfl) (by kernel_rfl) (by kernel_rfl) ?_
    refine d_pu 8 rfl (pu_move rfl) (by kernel_rfl) (by kernel_rfl) (by kernel_rfl) ?_
    refine d_pu 9 rfl (pu_add_as ((i + 2 : Nat) : Int) rfl rfl (by omega) (by omega) (by omega)) (by kernel_rfl) (by kernel_rfl) (by kernel_rfl) ?_
    refine d_pu 10 rfl (pu_conv_as (k' := .u32) rfl (IntWalk.u32_in _ ⟨by omega, by omega⟩)) (by kernel_rfl) (by kernel_rfl) (by kernel_rfl) ?_
    refine d_eft 6 rfl (by kernel_rfl) (ef_fn hp1 rfl rfl (by repeat (first | exact Split.nil | (apply Split.cons; (repeat (first | with_reducible exact Take.here | apply Take.there)))))) ?_
    rintro v77 L1 ⟨⟨A1, c1, rfl⟩, rfl⟩
    refine ⟨_, ent_appC (Split.ent (by repeat (first | exact Split.nil | (apply Split.cons; (repeat (first | with_reducible exact Take.here | apply Take.there)))))), ?_⟩
    refine d_eft 11 rfl (by kernel_rfl) (ef_fn hp2 rfl rfl (by repeat (first | exact Split.nil | (apply Split.cons; (repeat (first | with_reducible exact Take.here | apply Take.there)))))) ?_
    rintro v82 L1 ⟨⟨A2, c2, rfl⟩, rfl⟩
    refine ⟨_, ent_appC (Split.ent (by repeat (first | exact Split.nil | (apply Split.cons; (repeat (first | with_reducible exact Take.here | apply Take.there)))))), ?_⟩
    refine d_eft 12 rfl (by kernel_rfl) (ef_bldS (qs := [(0, _), (1, _)]) rfl rfl rfl) ?_
    intro b83
    refine ⟨_, Split.ent (by repeat (first | exact Split.nil | (apply Split.cons; (repeat (first | with_reducible exact Take.here | apply Take.there))))), ?_⟩
    first | refine d_fint 13 rfl (by kernel_rfl) (by kernel_rfl) (ef_append_lit (l := 2 * i + 3) (m := 2) rfl rfl (by repeat (first | exact Split.nil | (apply Split.cons; (repeat (first | with_reducible exact Take.here | apply Take.there))))) (by simp only [maxLen]; omega) (by omega)) ?_ | refine d_finf 13 rfl (by kernel_rfl) (by kernel_rfl) (ef_append_lit (l := 2 * i + 3) (m := 2) rfl rfl (by repeat (first | exact Split.nil | (apply Split.cons; (repeat (first | with_reducible exact Take.here | apply Take.there))))) (by simp only [maxLen]; omega) (by omega)) ?_
    rintro v84 hv84
    obtain ⟨g3, ct3, rfl⟩ := hv84 (by decide)
    first | refine d_pu 14 rfl (pu_fieldAddr0 rfl) (by kernel_rfl) (by kernel_rfl) (by kernel_rfl) ?_ | refine d_pu 14 rfl (pu_fieldAddr rfl) (by kernel_rfl) (by kernel_rfl) (by kernel_rfl) ?_
    first | refine d_fin0t 15 rfl (by kernel_rfl) (by kernel_rfl) (ef_store rfl rfl rfl) ?_ | refine d_fin0f 15 rfl (by kernel_rfl) (by kernel_rfl) (ef_store rfl rfl rfl) ?_
    refine d_sub _ (.cons (t := 3) rfl (.cons (t := 4) rfl (.cons (t := 39) rfl (.cons (t := 40) rfl .nil)))) ?_
    first | refine d_nilt (by kernel_rfl) ?_ | refine d_nilf (by kernel_rfl) ?_
    refine block_n ?_
    refine then_n ?_
    rw [show 2 * i + 3 + 2 = 2 * (i + 1) + 3 by omega]
    refine swp_share_own (e := 52) (n := 2) (v := .slice A1 (leftT (i + 1)).length c1) (μ := μ9) (by repeat (first | exact Split.nil | (apply Split.cons; (repeat (first | with_reducible exact Take.here | apply Take.there))))) fun μ10 h10 r8 => ?_
    refine swp_share_own (e := 52) (n := 2) (v := .slice A2 (rightT (i + 1)).length c2) (μ := μ10) (by repeat (first | exact Split.nil | (apply Split.cons; (repeat (first | with_reducible exact Take.here | apply Take.there))))) fun μ11 h11 r9 => ?_
    refine swp_region ?_
    refine s_pu (pu_add_as ((i + 1 : Nat) : Int) rfl rfl (by omega) (by omega) (by omega)) ?_
    refine s_pu (pu_move rfl) ?_
    refine swl_sub _ (.cons (t := 3) rfl (.cons (t := 4) rfl (.cons (t := 39) rfl (.cons (t := 40) rfl .nil)))) ?_
    refine swl_nil ?_
    have l9 : Le μ8 μ11 := h9.trans (h10.trans h11)
    have l6 : Le μ6 μ11 := h7.trans (h8.trans l9)
    refine then_n ⟨i + 1, ⟨g2, g3, cg2, ct3, G ++ [(.slice (some ⟨b55, 0, none⟩) 2 2, [((2 * i + 1 : Nat) : Int), ((2 * i + 2 : Nat) : Int)]), (.slice (some ⟨b58, 0, none⟩) 2 2, [((2 * i + 2 : Nat) : Int), ((2 * i + 1 : Nat) : Int)])], T ++ [(.slice A1 (leftT (i + 1)).length c1, leftT (i + 1)), (.slice A2 (rightT (i + 1)).length c2, rightT (i + 1))], μ11, ⟨rfl, rfl, rfl, rfl, trivial⟩, ?_, h41', ?_, ?_, h6.trans l6, fun x hx => ?_, fun t ht => ?_⟩, by show n - (i + 1) < n - i; omega⟩
    · rw [show (G ++ [((.slice (some ⟨b55, 0, none⟩) 2 2 : Value), [((2 * i + 1 : Nat) : Int), ((2 * i + 2 : Nat) : Int)]), (.slice (some ⟨b58, 0, none⟩) 2 2, [((2 * i + 2 : Nat) : Int), ((2 * i + 1 : Nat) : Int)])]).flatMap gcs = G.flatMap gcs ++ [.slice (some ⟨b55, 0, none⟩) 2 2, .slice (some ⟨b58, 0, none⟩) 2 2] by rw [List.flatMap_append]; rfl, show (T ++ [((.slice A1 (leftT (i + 1)).length c1 : Value), leftT (i + 1)), (.slice A2 (rightT (i + 1)).length c2, rightT (i + 1))]).flatMap gT = T.flatMap gT ++ [.slice A1 (leftT (i + 1)).length c1, .slice A2 (rightT (i + 1)).length c2] by rw [List.flatMap_append]; rfl]
      exact Split.ent' (by repeat (first | exact Split.nil | (apply Split.cons; (repeat (first | with_reducible exact Take.here | apply Take.there)))))
    · show nums (G ++ _) = crossG true i ++ crossR true i
      rw [nums, List.map_append, ← nums, hnu]
      unfold crossR
      rw [if_pos rfl]; rfl
    · show _ = crossT i ++ _
      rw [List.map_append, hTm]; rfl
    · rcases List.mem_append.1 hx with hx | hx
      · exact (hrw x hx).le l6
      rcases List.mem_cons.1 hx with rfl | hx
      · exact r5.le l9
      obtain rfl := List.mem_singleton.1 hx
      exact r6.le l9
    · rcases List.mem_append.1 ht with ht | ht
      · exact (htr t ht).le l6
      rcases List.mem_cons.1 ht with rfl | ht
      · exact r8.le h11
      obtain rfl := List.mem_singleton.1 ht
      exact r9
  · skip   -- 41 F
    obtain rfl : n = i := by have := of_decide_eq_false h41; omega
    have hGl : G.length = 2 * n + 3 := by rw [← crossG_len true n, ← hnu, List.length_map]
    have hTl : T.length = 2 * n + 3 := by rw [← crossT_len n, ← hTm, List.length_map]
    refine swp_share_own (e := 43) (n := 1) (v := .slice (some ⟨g, 0, none⟩) (2 * n + 3) cg) (μ := μ6) (by repeat (first | exact Split.nil | (apply Split.cons; (repeat (first | with_reducible exact Take.here | apply Take.there))))) fun μ7 h7 rG => ?_
    refine swp_share_own (e := 33) (n := 1) (v := .slice (some ⟨gt, 0, none⟩) (2 * n + 3) ct) (μ := μ7) (by repeat (first | exact Split.nil | (apply Split.cons; (repeat (first | with_reducible exact Take.here | apply Take.there))))) fun μ8 h8 rT => ?_
    rw [← hGl] at rG
    rw [← hTl] at rT
    have hw : (⟨.slice (some ⟨g, 0, none⟩) (2 * n + 3) cg, .slice (some ⟨gt, 0, none⟩) (2 * n + 3) ct, .slice none 0 0, ⟨0, 0, 0, 0#32⟩, G, T, []⟩ : Wld).Ok μ8 := by
      refine ⟨⟨?_, fun x hx => (hrw x hx).le (h7.trans h8)⟩, ?_, fun t ht => ⟨(htr t ht).le (h7.trans h8), ?_⟩, Row.nil _ _⟩
      · rw [hGl] at rG
        show Row μ8 _ 1 G.length _
        rw [hGl]; exact rG.le h8
      · rw [hTl] at rT
        show Row μ8 _ 1 T.length _
        rw [hTl]; exact rT
      · exact (cross_tree n hn29 t.2 (by rw [← hTm]; exact List.mem_map_of_mem ht)).2
    refine swp_exit ?_
    refine then_x ?_
    refine then_x ?_
    refine block_hit rfl ?_
    refine then_n ?_
    refine swp_seq ?_
    refine swp_region ?_
    first | refine s_rd (rd_loadW rfl rfl) ?_ | refine s_rd (rd_loadX rfl rfl rfl) ?_
    refine s_ef (ef_fn (of_spec _ μ8 hw 100 (by decide)) rfl rfl (by repeat (first | exact Split.nil | (apply Split.cons; (repeat (first | with_reducible exact Take.here | apply Take.there)))))) ?_
    rintro v88 L1 ⟨μa, ha, hp⟩
    obtain ⟨W, rfl, hWok, hWG, hWn, hWT, rfl⟩ : ∃ W : HW, v88 = .pointer (some ⟨W.p, 0, none⟩) ∧ W.Ok μa ∧ W.G = G.take (min G.length 100) ∧ W.n = min G.length 100 ∧ W.T.map (·.2) = (List.range W.n).map (ofT T) ∧ L1 = [W.A st00, ro μa] := by
      rcases hp with ⟨h, _⟩ | h
      · exact absurd (by show chkFrom 0 (nums (G.take (min G.length 100))) = 0; rw [show min G.length 100 = G.length by omega, List.take_length, hnu]; exact cross_chk true n) h
      · exact h
    clear hp
    have hmin : min G.length 100 = G.length := by omega
    have hWn5 : W.n = 2 * n + 3 := by rw [hWn, hmin, hGl]
    have hWx : nums W.G = crossG true n := by rw [hWG, hmin, List.take_length, hnu]
    rw [hWn5, cross_of hn29 hTm] at hWT
    obtain ⟨cv1, cv2⟩ := cross_virt W n hn29 hWx hWT hWn5
    have hn10 : W.n ≤ 10000 := by rw [hWn5]; omega
    have la : Le μ1 μa := (h2.trans (h3.trans (h4.trans (h5.trans h6)))).trans (h7.trans (h8.trans ha))
    refine swl_app ?_
    refine s_pu (pu_assign rfl) ?_
    refine swl_sub _ (.cons (t := 3) rfl (.cons (t := 4) rfl (.cons (t := 11) rfl .nil))) ?_
    refine swl_nil ?_
    refine then_n ?_
    refine swp_seq ?_
    refine swp_region ?_
    first | refine s_pu (pu_fieldAddr0 rfl) ?_ | refine s_pu (pu_fieldAddr rfl) ?_
    refine s_rd (rd_load rfl rfl) ?_
    refine s_pu (pu_len rfl) ?_
    refine s_pu (pu_assign rfl) ?_
    refine swl_sub _ (.cons (t := 4) rfl (.cons (t := 11) rfl (.cons (t := 12) rfl .nil))) ?_
    refine swl_nil ?_
    refine then_n ?_
    refine swp_seq ?_
    refine swp_region ?_
    refine s_pu (pu_move rfl) ?_
    refine s_pu (pu_iface rfl) ?_
    refine s_pu (pu_move rfl) ?_
    refine s_pu (pu_sub_as ((2 * n + 1 : Nat) : Int) rfl rfl (by omega) (by omega) (by omega)) ?_
    refine s_pu (pu_move rfl) ?_
    refine s_pu (pu_sub_as ((2 * n + 2 : Nat) : Int) rfl rfl (by omega) (by omega) (by omega)) ?_
    refine s_ef (ef_fn (virtual_spec W μa hWok hn10 μa (Le.refl _) (hT.le (h1.trans la)) st00 0 askB0 (by omega) ((2 * n + 1 : Nat) : Int) ((2 * n + 2 : Nat) : Int) 300) rfl rfl (by repeat (first | exact Split.nil | (apply Split.cons; (repeat (first | with_reducible exact Take.here | apply Take.there)))))) ?_
    rintro v99 L1 ⟨tv, sb, μb, hb, hsb, _, rfl, rfl⟩
    rw [cv1]
    refine swl_app ?_
    refine swl_share_own (v := tv) (μ := μb) (by repeat (first | exact Split.nil | (apply Split.cons; (repeat (first | with_reducible exact Take.here | apply Take.there))))) fun μc hc rt => ?_
    refine s_pu (pu_move rfl) ?_
    first | refine s_pu (pu_extractL rfl) ?_ | refine s_pu (pu_extract rfl rfl) ?_
    first | refine s_pu (pu_extractL rfl) ?_ | refine s_pu (pu_extract rfl rfl) ?_
    first | refine s_pu (pu_extractL rfl) ?_ | refine s_pu (pu_extract rfl rfl) ?_
    first | refine s_pu (pu_extractL rfl) ?_ | refine s_pu (pu_extract rfl rfl) ?_
    refine s_pu (pu_assign rfl) ?_
    refine s_pu (pu_assign rfl) ?_
    refine s_pu (pu_assign rfl) ?_
    refine s_pu (pu_assign rfl) ?_
    refine swl_sub _ (.cons (t := 4) rfl (.cons (t := 11) rfl (.cons (t := 12) rfl (.cons (t := 13) rfl (.cons (t := 14) rfl (.cons (t := 15) rfl (.cons (t := 16) rfl .nil))))))) ?_
    refine swl_nil ?_
    refine then_n ?_
    refine swp_seq ?_
    refine swp_region ?_
    refine s_pu (pu_move rfl) ?_
    refine s_pu (pu_iface rfl) ?_
    refine s_pu (pu_move rfl) ?_
    refine s_pu (pu_sub_as ((2 * n + 1 : Nat) : Int) rfl rfl (by omega) (by omega) (by omega)) ?_
    refine s_pu (pu_move rfl) ?_
    refine s_pu (pu_sub_as ((2 * n + 2 : Nat) : Int) rfl rfl (by omega) (by omega) (by omega)) ?_
    refine s_ef (ef_fn (vmerge_spec W μc (hWok.le (hb.trans hc)) hn10 μc (Le.refl _) (hT.le ((h1.trans la).trans (hb.trans hc))) sb 4097 (fun c => Nat.le_trans (hsb c) (by omega)) (by omega) ((2 * n + 1 : Nat) : Int) ((2 * n + 2 : Nat) : Int) 300) rfl rfl (by repeat (first | exact Split.nil | (apply Split.cons; (repeat (first | with_reducible exact Take.here | apply Take.there)))))) ?_
    rintro v111 L1 ⟨xv, cv, sd, μd, hd, _, _, rfl, rfl⟩
    rw [cv2]
    refine swl_app ?_
    refine swl_share_own (v := xv) (μ := μd) (by repeat (first | exact Split.nil | (apply Split.cons; (repeat (first | with_reducible exact Take.here | apply Take.there))))) fun μe he rx => ?_
    refine swl_share_own (v := cv) (μ := μe) (by repeat (first | exact Split.nil | (apply Split.cons; (repeat (first | with_reducible exact Take.here | apply Take.there))))) fun μf hf rc => ?_
    have hbn1 : baseT (n + 1) = [(pL, ((n + 1 : Nat) : Int)), (pR, ((n + 1 : Nat) : Int))] := if_neg (by omega)
    have lf : Le μ μf := (h1.trans la).trans ((hb.trans hc).trans (hd.trans (he.trans hf)))
    refine s_pu (pu_move rfl) ?_
    first | refine s_pu (pu_extractL rfl) ?_ | refine s_pu (pu_extract rfl rfl) ?_
    first | refine s_pu (pu_extractL rfl) ?_ | refine s_pu (pu_extract rfl rfl) ?_
    first | refine s_pu (pu_extractL rfl) ?_ | refine s_pu (pu_extract rfl rfl) ?_
    first | refine s_pu (pu_extractL rfl) ?_ | refine s_pu (pu_extract rfl rfl) ?_
    refine s_pu (pu_assign rfl) ?_
    refine s_pu (pu_assign rfl) ?_
    refine s_pu (pu_assign rfl) ?_
    refine s_pu (pu_assign rfl) ?_
    refine swl_sub _ (.cons (t := 4) rfl (.cons (t := 13) rfl (.cons (t := 14) rfl (.cons (t := 15) rfl (.cons (t := 16) rfl (.cons (t := 17) rfl (.cons (t := 18) rfl (.cons (t := 20) rfl .nil)))))))) ?_
    refine swl_nil ?_
    refine then_n ?_
    refine swp_seq ?_
    refine swp_region ?_
    refine s_pu (pu_move rfl) ?_
    refine s_pu (pu_add_as ((n + 1 : Nat) : Int) rfl rfl (by omega) (by omega) (by omega)) ?_
    refine s_pu (pu_conv_as (k' := .u32) rfl (IntWalk.u32_in _ ⟨by omega, by omega⟩)) ?_
    refine s_pu (pu_assign rfl) ?_
    refine swl_sub _ (.cons (t := 4) rfl (.cons (t := 13) rfl (.cons (t := 14) rfl (.cons (t := 15) rfl (.cons (t := 16) rfl (.cons (t := 17) rfl (.cons (t := 18) rfl (.cons (t := 20) rfl (.cons (t := 21) rfl .nil))))))))) ?_
    refine swl_nil ?_
    refine then_n ?_
    refine swp_seq ?_
    refine swp_seq ?_
    refine swp_region ?_
    refine s_pu (pu_move rfl) ?_
    refine s_pu (pu_neq rfl rfl) ?_
    refine s_pu (pu_move rfl) ?_
    refine s_on rfl rfl ?_
    refine s_pu (pu_move rfl) ?_
    refine s_on rfl rfl ?_
    refine s_pu (pu_neq rfl rfl) ?_
    first | refine s_pu (pu_pick_t rfl rfl) ?_ | refine s_pu (pu_pick_f rfl rfl) ?_
    refine s_pu (pu_move rfl) ?_
    refine s_on rfl rfl ?_
    refine s_pu (pu_move rfl) ?_
    refine s_on rfl rfl ?_
    refine s_pu (pu_not rfl) ?_
    first | refine s_pu (pu_pick_t rfl rfl) ?_ | refine s_pu (pu_pick_f rfl rfl) ?_
    refine s_pu (pu_move rfl) ?_
    refine s_on rfl rfl ?_
    refine s_pu (pu_move rfl) ?_
    refine s_on rfl rfl ?_
    refine s_pu (pu_move rfl) ?_
    refine s_on rfl rfl ?_
    refine s_pu (pu_add_as ((n + 1 : Nat) : Int) rfl rfl (by omega) (by omega) (by omega)) ?_
    refine s_on rfl rfl ?_
    refine s_pu (pu_neq rfl rfl) ?_
    first | refine s_pu (pu_pick_t rfl rfl) ?_ | refine s_pu (pu_pick_f rfl rfl) ?_
    refine s_pu (pu_move rfl) ?_
    refine s_split 135 rfl (fun h135 => by simp at h135) (fun h135 => ?_)
    refine s_on rfl rfl ?_
    refine s_pu (pu_move rfl) ?_
    refine s_on rfl rfl ?_
    refine s_pu (pu_len_row rc rfl) ?_
    refine s_on rfl rfl ?_
    refine s_pu (pu_neq rfl rfl) ?_
    first | refine s_pu (pu_pick_t rfl rfl) ?_ | refine s_pu (pu_pick_f rfl rfl) ?_
    refine s_pu (pu_move rfl) ?_
    refine s_on rfl rfl ?_
    refine s_pu (pu_move rfl) ?_
    refine s_on rfl rfl ?_
    refine s_pu (pu_move rfl) ?_
    refine s_on rfl rfl ?_
    refine s_pu (pu_bld (qs := [(0, _), (1, _)]) rfl) ?_
    refine s_on rfl rfl ?_
    refine s_pu (pu_move rfl) ?_
    refine s_on rfl rfl ?_
    refine s_pu (pu_bld (qs := [(0, _), (1, _)]) rfl) ?_
    refine s_on rfl rfl ?_
    refine s_ef (ef_bldS (qs := [(0, _), (1, _)]) rfl rfl rfl) ?_
    intro b146
    refine s_on rfl rfl ?_
    refine s_ef (ef_fn (same_lit μf xv b146 (baseT (n + 1)) [(pL, ((n + 1 : Nat) : Int)), (pR, ((n + 1 : Nat) : Int))] (rx.le hf) (by show 2 ≤ maxLen; decide) (cs := [.string pL, .int .u32 ((n + 1 : Nat) : Int), .string pR, .int .u32 ((n + 1 : Nat) : Int)]) rfl) rfl rfl (by repeat (first | exact Split.nil | (apply Split.cons; (repeat (first | with_reducible exact Take.here | apply Take.there)))))) ?_
    rintro v147 L1 ⟨rfl, rfl⟩
    refine swl_app ?_
    refine s_on rfl rfl ?_
    refine s_pu (pu_not rfl) ?_
    first | refine s_pu (pu_pick_t rfl rfl) ?_ | refine s_pu (pu_pick_f rfl rfl) ?_
    refine swl_sub _ (.cons (t := 4) rfl (.cons (t := 13) rfl (.cons (t := 149) rfl .nil))) ?_
    refine swl_nil ?_
    refine then_n ?_
    refine swp_cond (b := _) rfl (fun h149 => by rw [hbn1] at h149; simp at h149) (fun h149 => ?_)
    refine swp_skip ?_
    refine then_n ?_
    refine swp_seq ?_
    refine swp_region ?_
    refine s_pu (pu_move rfl) ?_
    refine s_pu (pu_eql rfl rfl) ?_
    refine s_pu (pu_move rfl) ?_
    refine s_split 152 rfl (fun h152 => ?_) (fun h152 => ?_)
    · skip   -- 152 T
      have hn0 : n = 0 := by have := of_decide_eq_true h152; omega
      refine s_on rfl rfl ?_
      refine s_pu (pu_move rfl) ?_
      refine s_on rfl rfl ?_
      refine s_pu (pu_len_row (rt.le (hd.trans (he.trans hf))) rfl) ?_
      refine s_on rfl rfl ?_
      refine s_pu (pu_eql rfl rfl) ?_
      first | refine s_pu (pu_pick_t rfl rfl) ?_ | refine s_pu (pu_pick_f rfl rfl) ?_
      refine s_pu (pu_move rfl) ?_
      refine s_split 157 rfl (fun h157 => ?_) (fun h157 => by rw [hn0] at h157; exact absurd h157 (by decide))
      refine s_off rfl rfl rfl ?_
      refine s_off rfl rfl rfl ?_
      refine s_off rfl rfl rfl ?_
      refine s_off rfl rfl rfl ?_
      refine s_off rfl rfl rfl ?_
      refine s_off rfl rfl rfl ?_
      refine s_off rfl rfl rfl ?_
      refine s_off rfl rfl rfl ?_
      refine s_off rfl rfl rfl ?_
      first | refine s_pu (pu_pick_t rfl rfl) ?_ | refine s_pu (pu_pick_f rfl rfl) ?_
      refine s_pu (pu_assign rfl) ?_
      refine swl_sub _ (.cons (t := 2) rfl .nil) ?_
      refine swl_nil ?_
      refine then_n ?_
      refine swp_ret ?_
      exact done_ret [ro μf] (.tmp rfl .nil) ⟨rfl, μf, [], lf, rfl⟩ (by repeat (first | exact Split.nil | (apply Split.cons; (repeat (first | with_reducible exact Take.here | apply Take.there)))))
    · skip   -- 152 F
      have hn0 : n ≠ 0 := fun e => by rw [e] at h152; exact absurd h152 (by decide)
      have hbn : baseT n = [(pL, (n : Int)), (pR, (n : Int))] := if_neg hn0
      refine s_off rfl rfl rfl ?_
      refine s_off rfl rfl rfl ?_
      refine s_off rfl rfl rfl ?_
      first | refine s_pu (pu_pick_t rfl rfl) ?_ | refine s_pu (pu_pick_f rfl rfl) ?_
      refine s_pu (pu_move rfl) ?_
      refine s_split 157 rfl (fun h157 => by cases h157) (fun h157 => ?_)
      refine s_on rfl rfl ?_
      refine s_pu (pu_move rfl) ?_
      refine s_on rfl rfl ?_
      refine s_pu (pu_move rfl) ?_
      refine s_on rfl rfl ?_
      refine s_pu (pu_conv_as (k' := .u32) rfl (IntWalk.u32_in _ ⟨by omega, by omega⟩)) ?_
      refine s_on rfl rfl ?_
      refine s_pu (pu_bld (qs := [(0, _), (1, _)]) rfl) ?_
      refine s_on rfl rfl ?_
      refine s_pu (pu_move rfl) ?_
      refine s_on rfl rfl ?_
      refine s_pu (pu_conv_as (k' := .u32) rfl (IntWalk.u32_in _ ⟨by omega, by omega⟩)) ?_
      refine s_on rfl rfl ?_
      refine s_pu (pu_bld (qs := [(0, _), (1, _)]) rfl) ?_
      refine s_on rfl rfl ?_
      refine s_ef (ef_bldS (qs := [(0, _), (1, _)]) rfl rfl rfl) ?_
      intro b165
      refine s_on rfl rfl ?_
      refine s_ef (ef_fn (same_lit μf tv b165 (baseT n) [(pL, (n : Int)), (pR, (n : Int))] (rt.le (hd.trans (he.trans hf))) (by show 2 ≤ maxLen; decide) (cs := [.string pL, .int .u32 (n : Int), .string pR, .int .u32 (n : Int)]) rfl) rfl rfl (by repeat (first | exact Split.nil | (apply Split.cons; (repeat (first | with_reducible exact Take.here | apply Take.there)))))) ?_
      rintro v166 L1 ⟨rfl, rfl⟩
      refine swl_app ?_
      first | refine s_pu (pu_pick_t rfl rfl) ?_ | refine s_pu (pu_pick_f rfl rfl) ?_
      refine s_pu (pu_assign rfl) ?_
      refine swl_sub _ (.cons (t := 2) rfl .nil) ?_
      refine swl_nil ?_
      refine then_n ?_
      refine swp_ret ?_
      refine done_ret [ro μf] (.tmp rfl .nil) ⟨?_, μf, [], lf, rfl⟩ (by repeat (first | exact Split.nil | (apply Split.cons; (repeat (first | with_reducible exact Take.here | apply Take.there)))))
      show Value.bool (decide (baseT n = [(pL, (n : Int)), (pR, (n : Int))])) = _
      rw [decide_eq_true hbn]
end SX
namespace Go.Proofs.YtkldhmbmahgnjaaDoor
open Go.ChangeShapes Go.WideShapes Go.ChangeAt Go.RowKit
theorem ownKnobF : ownKnob Tryd.prog.godebug = none := by kernel_rfl
theorem gTab : Tryd.prog.globalNamed "math/bits.deBruijn64tab" = some 1 := by kernel_rfl
theorem tTab : (Tryd.prog.globals[1]?).map (·.type) = some 186 := by kernel_rfl
theorem datum {H : Type} : (Rows.laid_math_bits_deBruijn64tab : DataW H) = .agg (Lib.deBruijn64tab.map fun n => .lit (.int .u8 (n : Nat))) := rfl
theorem tab_of {W : World} (h : laidMetH Tryd.prog Rows.vbaseStepsRow.laid W) : SX.RowAt (fun b => W.heap[b]?) 1 0 SX.tabV := by
  rw [MakeChecks.laidMetH_plain _ _ _ (by kernel_rfl)] at h
  obtain ⟨ps, ⟨g0, t0, cs0, f0, p0, q0, hg0, ht0, hv0, hd0, _, _⟩, _, _⟩ := h
  obtain rfl := Option.some.inj (gTab.symm.trans hg0)
  obtain rfl := Option.some.inj (tTab.symm.trans ht0)
  obtain ⟨xs, m, rfl, hx, _, hn, hel⟩ := DataW.trod_array Tryd.underlying186 hd0
  simp only [Prod.mk.injEq] at hx
  have hx1 := hx.1
  rw [datum] at hx1
  simp only [DataW.agg.injEq] at hx1
  have c5 : Tryd.prog.cellsOf 5 = 1 := by kernel_rfl
  have hlen : Lib.deBruijn64tab.length = 64 := rfl
  intro j u hj
  have hj64 : j < 64 := by
    have := (List.getElem?_eq_some_iff.1 hj).1
    simpa [SX.tabV, hlen] using this
  obtain ⟨k, hk⟩ : ∃ k, Lib.deBruijn64tab[j]? = some k := ⟨_, List.getElem?_eq_getElem (by omega)⟩
  have hu : u = .int .u8 (k : Nat) := by
    unfold SX.tabV at hj
    rw [List.getElem?_map, hk] at hj
    exact (Option.some.inj hj).symm
  obtain ⟨y, hy⟩ : ∃ y, xs[j]? = some y := ⟨_, List.getElem?_eq_getElem (by omega)⟩
  have h1 := hel j hj64
  rw [hy, c5, Nat.mul_one] at h1
  obtain ⟨n, e1, e2, _⟩ := DataW.trod_int Tryd.underlying5 h1
  have e3 : (xs.map (·.1))[j]? = some (.lit (.int .u8 n)) := by rw [List.getElem?_map, hy, e2]; rfl
  rw [← hx1, List.getElem?_map, hk] at e3
  have hnk : n = (k : Int) := by
    have := Option.some.inj e3
    simpa using this.symm
  have hc := World.var?_cell hg0 hv0 j
  have hcs : cs0[j]? = some (.int .u8 n) := by
    have : (cs0.toList.drop j)[0]? = some (.int .u8 n) := by
      have := congrArg (·[0]?) e1
      simpa [List.getElem?_take] using this
    rw [List.getElem?_drop, Nat.add_zero] at this
    simpa using this
  rw [hcs] at hc
  rw [Nat.zero_add, hu, ← hnk]
  exact (SX.spot_of_cell hc).2
theorem door_met (os : Os) (args : Array Value) : laidMetH Tryd.prog Rows.vbaseStepsRow.laid ((World.doorLaid Tryd.prog 400 os).forCall (fun _ _ => 0) ⟨#[], args, []⟩).memory :=
  laidMetH_of_parts3 (fuel := 8) (laidMet_of_run' 8 (by kernel_rfl) (by kernel_rfl)) (by kernel_rfl) (by kernel_rfl)
end Go.Proofs.YtkldhmbmahgnjaaDoor
