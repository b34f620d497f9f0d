/- A part of the proof: walks of the program's functions, and the rules by which they go. -/
import Derived.Test.YtkldhmbmahgnjaaGreatDoorB18f220d3
import Derived.Test.YtkldhmbmahgnjaaGreatDoorB567907ac
import Derived.Test.YtkldhmbmahgnjaaGreatDoorBcb281b7b
import Derived.Test.YtkldhmbmahgnjaaGreatDoorBa465853f
import Derived.Test.YtkldhmbmahgnjaaGreatDoorB9b8468fe
import Derived.Test.YtkldhmbmahgnjaaGreatDoorBd87140dc
import Derived.Test.YtkldhmbmahgnjaaGreatDoorRows
import Derived.ProofKit
import Derived.LaidMore
import Derived.OpenShut
import Derived.Stop.Joined
namespace SX
open Go Go.Proofs
/-- the world of a law -/
structure Wld where
  vG : Value
  vT : Value
  vF : Value
  S : Sett
  G : List (Value × List Int)
  T : List (Value × List En)
  F : List Bool
abbrev Wld.cells (w : Wld) : List Value := [w.vG, w.vT, .int .i64 w.S.ha, .int .i64 w.S.pe, .int .i64 w.S.mo, .int .u32 (w.S.seed.toNat : Nat), w.vF]
structure Wld.Ok (w : Wld) (μ : PH) : Prop where
  hG : Graph μ w.vG w.G
  hT : Row μ w.vT 1 w.T.length (w.T.flatMap gT)
  hTr : ∀ t ∈ w.T, Row μ t.1 2 t.2.length (ens t.2) ∧ U32s t.2
  hF : Row μ w.vF 1 w.F.length (w.F.map .bool)
theorem Wld.Ok.le {w : Wld} {μ μ' : PH} (h : w.Ok μ) (k : Le μ μ') : w.Ok μ' := ⟨h.hG.le k, h.hT.le k, fun t ht => ⟨(h.hTr t ht).1.le k, (h.hTr t ht).2⟩, h.hF.le k⟩
def ofT (T : List (Value × List En)) (c : Nat) : List En := if T.length = 0 then [] else goodE ((T[c % T.length]?).getD (.slice none 0 0, [])).2
theorem ofT_ok {T : List (Value × List En)} (hu : ∀ t ∈ T, U32s t.2) (c : Nat) : (ofT T c).length ≤ 100 ∧ GoodT (ofT T c) ∧ U32s (ofT T c) := by
  unfold ofT
  split
  · exact ⟨Nat.zero_le _, good_nil, fun _ h => by cases h⟩
  · have hm : c % T.length < T.length := Nat.mod_lt _ (by omega)
    rw [List.getElem?_eq_getElem hm]
    exact ⟨goodE_len _, good_good _, u32s_good (hu _ (List.getElem_mem hm))⟩
theorem fil_zero (n : Nat) : ((List.replicate n ()).flatMap fun _ => [Value.int .i64 0, .string ⟨#[]⟩]) = (List.replicate n ((0, []) : Fil)).flatMap encF := by
  induction n with
  | zero => rfl
  | succ n ih => rw [List.replicate_succ, List.replicate_succ, List.flatMap_cons, List.flatMap_cons, ih]; rfl
theorem bcn_zero (n : Nat) : ((List.replicate n ()).flatMap fun _ => [Value.bool false]) = bcn n fun _ => false := by
  have e : ∀ l : List Nat, ((List.replicate l.length ()).flatMap fun _ => [Value.bool false]) = l.map fun _ => Value.bool false := fun l => by
    induction l with
    | nil => rfl
    | cons a l ih => rw [List.length_cons, List.replicate_succ, List.flatMap_cons, ih]; rfl
  have := e (List.range n)
  rwa [List.length_range] at this
theorem ro_less {μ μ' : PH} (h : Le μ μ') {L : List Assn} : Ent (ro μ' :: L) (ro μ :: L) := Ent.imp fun _ hm b o hb => hm b o (h b o hb)
/-- a filter, and nothing in memory -/
theorem sof2_spec (μ : PH) (s : Sett) (va vb : Value) (a b : List En) (ha : Row μ va 2 a.length (ens a)) (hb : Row μ vb 2 b.length (ens b)) (hsz : a.length ≤ 100 ∧ b.length ≤ 100) (ga : GoodT a) (gb : GoodT b) :
    Spec Tryz.prog 16 [.agg (encS s).toArray, va, vb] [ro μ] (fun r L => ∃ (f : Fil) (e : Int), r = .tuple #[.agg (encF f).toArray, .int .i64 e] ∧ f.2.length ≤ 1048576 ∧ L = [ro μ]) :=
  Spec.ent3 (sof_spec μ s va vb a b ha hb hsz ga gb) fun r L ⟨f, e, μ', h1, h2, h3, _, h4⟩ => ⟨[ro μ], by rw [h4]; exact ro_less h1, f, e, h2, h3, rfl⟩
def st00 : HSt := ⟨noAsk, fun _ => false, fun _ => false⟩
set_option maxHeartbeats 8000000 in
theorem of_specC (w : Wld) (μ : PH) (h : w.Ok μ) (mo : Nat) (hmo : mo ≤ 10000) :
  Spec Tryz.prog 5 [.agg w.cells.toArray, .int .i64 (mo : Nat)] [ro μ] (fun r L => ∃ μ', Le μ μ' ∧
   ((¬ chkFrom 0 (nums (w.G.take (min w.G.length mo))) = 0 ∧ r = .pointer none ∧ L = [ro μ']) ∨
    (chkFrom 0 (nums (w.G.take (min w.G.length mo))) = 0 ∧ ∃ W : HW, r = .pointer (some ⟨W.p, 0, none⟩) ∧ W.Ok μ' ∧ W.G = w.G.take (min w.G.length mo) ∧ W.n = min w.G.length mo ∧ W.T.map (·.2) = (List.range W.n).map (ofT w.T) ∧ L = [W.A st00, ro μ']))) := by
 refine Spec.of 113 Tryz.func5 rfl rfl rfl ?_
 refine swp_seq ?_
 refine swp_region ?_
 refine s_ef (ef_box rfl rfl) ?_
 intro b2
 refine s_pu (pu_assign rfl) ?_
 refine swl_sub _ (.cons (t := 1) rfl (.cons (t := 2) rfl .nil)) ?_
 refine swl_nil ?_
 refine then_n ?_
 refine swp_seq ?_
 refine swp_region ?_
 first | refine s_pu (pu_fieldAddr0 rfl) ?_ | refine s_pu (pu_fieldAddr rfl) ?_
 refine s_rd (rd_load rfl rfl) ?_
 refine s_pu (pu_move rfl) ?_
 refine s_pu (pu_move rfl) ?_
 refine s_ef (ef_fn (good2w_spec μ w.vG w.G mo mo h.hG (by omega)) rfl rfl (by repeat (first | exact Split.nil | (apply Split.cons; (repeat (first | with_reducible exact Take.here | apply Take.there)))))) ?_
 rintro v15 L1 ⟨μ1, o, A, h1, rfl, rfl, hp⟩
 skip
 refine s_pu (pu_assign rfl) ?_
 refine swl_sub _ (.cons (t := 2) rfl (.cons (t := 5) rfl .nil)) ?_
 refine swl_nil ?_
 refine then_n ?_
 refine swp_seq ?_
 refine swp_seq ?_
 refine swp_region ?_
 refine s_pu (pu_move rfl) ?_
 refine s_pu (pu_ptr_eq_nil rfl rfl) ?_
 refine swl_sub _ (.cons (t := 2) rfl (.cons (t := 5) rfl (.cons (t := 17) rfl .nil))) ?_
 refine swl_nil ?_
 refine then_n ?_
 refine swp_cond (b := _) rfl (fun h17 => ?_) (fun h17 => ?_)
 ·skip
  refine swp_seq ?_
  refine swp_region ?_
  refine s_pu (pu_assign rfl) ?_
  refine swl_sub _ (.cons (t := 4) rfl .nil) ?_
  refine swl_nil ?_
  refine then_n ?_
  refine swp_ret ?_
  refine then_r ?_
  rcases hp with ⟨rfl, k1⟩ | ⟨p, v', vn, gs, rfl, _⟩
  ·exact done_retE [ro μ1] (.tmp rfl .nil) ⟨μ1, h1, .inl ⟨k1, rfl, rfl⟩⟩ (show Ent (A :: ro μ1 :: _) _ from Ent.drop.trans (Split.ent' (by repeat (first | exact Split.nil | (apply Split.cons; (repeat (first | with_reducible exact Take.here | apply Take.there)))))))
  ·cases h17
 ·skip
  obtain ⟨p, v', vn, gs, rfl, hGS, rfl⟩ : ∃ p v' vn gs, o = some ⟨p, 0, none⟩ ∧ GS μ1 v' vn (w.G.take (min w.G.length mo)) gs mo ∧ A = gA p v' vn (w.G.take (min w.G.length mo)).length noAsk := by
   rcases hp with ⟨rfl, _⟩ | k
   ·cases h17
   ·exact k
  clear hp
  have hgood := gens_good hGS.ha
  have hck : chkFrom 0 (nums (w.G.take (min w.G.length mo))) = 0 := (moreG_chk (all := [])).1 (by rw [hGS.ha]; rfl)
  have hGn : (w.G.take (min w.G.length mo)).length = min w.G.length mo := by rw [List.length_take]; omega
  have hn10 : (w.G.take (min w.G.length mo)).length ≤ 10000 := by omega
  generalize w.G.take (min w.G.length mo) = G at *
  obtain ⟨n, hn⟩ : ∃ n, n = G.length := ⟨_, rfl⟩
  have hG1 := hGS.hG
  have hT1 := h.hT.le h1
  have hF1 := h.hF.le h1
  have hTs := hT1.small
  have hFs := hF1.small
  refine swp_ex fun va => ?_
  simp only [List.append_eq, List.cons_append, List.nil_append]
  obtain ⟨AG, cG, hvG⟩ : ∃ A c, v' = .slice A n c := by obtain ⟨_, A, c, e, _⟩ := hG1.1; exact ⟨A, c, by rw [hn]; exact e⟩
  rw [← hn]
  refine swp_skip ?_
  refine then_n ?_
  refine swp_seq ?_
  refine swp_region ?_
  refine s_pu (pu_move rfl) ?_
  first | refine s_pu (pu_nilCheck rfl) ?_ | refine s_pu (pu_nilCheck_fn rfl) ?_ | refine s_pu (pu_nilCheck_if rfl) ?_
  first | refine s_pu (pu_fieldAddr0 rfl) ?_ | refine s_pu (pu_fieldAddr rfl) ?_
  refine s_rd (rd_load rfl rfl) ?_
  refine s_pu (pu_len (congrArg some hvG)) ?_
  refine s_pu (pu_assign rfl) ?_
  refine swl_sub _ (.cons (t := 2) rfl (.cons (t := 5) rfl (.cons (t := 6) rfl .nil))) ?_
  refine swl_nil ?_
  refine then_n ?_
  refine swp_cut (fun env L => ∃ (b33 b27 : Nat) (vl vm : Value), Sub env [(2, .pointer (some ⟨b2, 0, none⟩)), (5, .pointer (some ⟨p, 0, none⟩)), (6, .int .i64 (n : Nat)), (7, .pointer (some ⟨b33, 0, none⟩))] ∧ Ent L [blk b33 43 [.pointer (some ⟨p, 0, none⟩), .slice none 0 0, .int .i64 w.S.ha, .int .i64 w.S.pe, .int .i64 w.S.mo, .int .u32 (w.S.seed.toNat : Nat), .slice (some ⟨b27, 0, none⟩) n n, vl, vm], own 61 2 (.slice (some ⟨b27, 0, none⟩) n n) n ((List.replicate n ()).flatMap fun _ => [.int .i64 0, .string ⟨#[]⟩]), own 4 1 vl n ((List.replicate n ()).flatMap fun _ => [.bool false]), own 4 1 vm n ((List.replicate n ()).flatMap fun _ => [.bool false]), blk b2 29 w.cells, blk p 46 [v', vn, va], own 3 1 va n (askV n noAsk), ro μ1]) ?_ ?_
  ·skip
   refine swp_draw [2] _ [] (by simp only [List.append_nil]; exact Ent.refl _) (by kernel_rfl) ?_
   refine d_pu 0 rfl (pu_move rfl) (by kernel_rfl) (by kernel_rfl) (by kernel_rfl) ?_
   first | refine d_pu 1 rfl (pu_fieldAddr0 rfl) (by kernel_rfl) (by kernel_rfl) (by kernel_rfl) ?_ | refine d_pu 1 rfl (pu_fieldAddr rfl) (by kernel_rfl) (by kernel_rfl) (by kernel_rfl) ?_
   first | refine d_rd 2 rfl (rd_loadW rfl rfl) rfl (by kernel_rfl) (by kernel_rfl) (by kernel_rfl) ?_ | refine d_rd 2 rfl (rd_loadX rfl rfl rfl) rfl (by kernel_rfl) (by kernel_rfl) (by kernel_rfl) ?_
   refine d_pu 3 rfl (pu_move rfl) (by kernel_rfl) (by kernel_rfl) (by kernel_rfl) ?_
   refine d_pu 5 rfl (pu_move rfl) (by kernel_rfl) (by kernel_rfl) (by kernel_rfl) ?_
   refine d_pu 7 rfl (pu_move rfl) (by kernel_rfl) (by kernel_rfl) (by kernel_rfl) ?_
   refine d_amb [4, 6, 8] (by kernel_rfl) rfl ⟨?_, ?_, ?_⟩
   ·skip
    refine dA_ef 4 rfl GOn.none (ef_makeN n rfl rfl rfl (by omega) (by simp only [maxLen]; omega)) ?_
    rintro b27
    refine ⟨_, Split.ent (by repeat (first | exact Split.nil | (apply Split.cons; (repeat (first | with_reducible exact Take.here | apply Take.there))))), ?_⟩
    refine d_amb [6, 8] (by kernel_rfl) rfl ⟨?_, ?_⟩
    ·skip
     refine dA_ef 6 rfl GOn.none (ef_makeN n rfl rfl rfl (by omega) (by simp only [maxLen]; omega)) ?_
     rintro b29
     refine ⟨_, Split.ent (by repeat (first | exact Split.nil | (apply Split.cons; (repeat (first | with_reducible exact Take.here | apply Take.there))))), ?_⟩
     refine d_eft 8 rfl (by kernel_rfl) (ef_makeN n rfl rfl rfl (by omega) (by simp only [maxLen]; omega)) ?_
     rintro b31
     refine ⟨_, Split.ent (by repeat (first | exact Split.nil | (apply Split.cons; (repeat (first | with_reducible exact Take.here | apply Take.there))))), ?_⟩
     simp only [show List.take 4 (List.drop 2 w.cells) = [.int .i64 w.S.ha, .int .i64 w.S.pe, .int .i64 w.S.mo, .int .u32 (w.S.seed.toNat : Nat)] from rfl]
     refine d_pu 9 rfl (pu_bld (qs := [(0, _), (2, _), (3, _), (4, _), (5, _)]) rfl) (by kernel_rfl) (by kernel_rfl) (by kernel_rfl) ?_
     first | refine d_fint 10 rfl (by kernel_rfl) (by kernel_rfl) (ef_box rfl rfl) ?_ | refine d_finf 10 rfl (by kernel_rfl) (by kernel_rfl) (ef_box rfl rfl) ?_
     intro b33
     refine d_pu 11 rfl (pu_assign rfl) (by kernel_rfl) (by kernel_rfl) (by kernel_rfl) ?_
     refine d_sub _ (.cons (t := 2) rfl (.cons (t := 5) rfl (.cons (t := 6) rfl (.cons (t := 7) rfl .nil)))) ?_
     first | refine d_nilt (by kernel_rfl) ?_ | refine d_nilf (by kernel_rfl) ?_
     exact then_n ⟨b33, b27, _, _, ⟨rfl, rfl, rfl, rfl, trivial⟩, Split.ent' (by repeat (first | exact Split.nil | (apply Split.cons; (repeat (first | with_reducible exact Take.here | apply Take.there)))))⟩
    ·skip
     refine dA_ef 8 rfl GOn.none (ef_makeN n rfl rfl rfl (by omega) (by simp only [maxLen]; omega)) ?_
     rintro b31
     refine ⟨_, Split.ent (by repeat (first | exact Split.nil | (apply Split.cons; (repeat (first | with_reducible exact Take.here | apply Take.there))))), ?_⟩
     refine d_eft 6 rfl (by kernel_rfl) (ef_makeN n rfl rfl rfl (by omega) (by simp only [maxLen]; omega)) ?_
     rintro b29
     refine ⟨_, Split.ent (by repeat (first | exact Split.nil | (apply Split.cons; (repeat (first | with_reducible exact Take.here | apply Take.there))))), ?_⟩
     simp only [show List.take 4 (List.drop 2 w.cells) = [.int .i64 w.S.ha, .int .i64 w.S.pe, .int .i64 w.S.mo, .int .u32 (w.S.seed.toNat : Nat)] from rfl]
     refine d_pu 9 rfl (pu_bld (qs := [(0, _), (2, _), (3, _), (4, _), (5, _)]) rfl) (by kernel_rfl) (by kernel_rfl) (by kernel_rfl) ?_
     first | refine d_fint 10 rfl (by kernel_rfl) (by kernel_rfl) (ef_box rfl rfl) ?_ | refine d_finf 10 rfl (by kernel_rfl) (by kernel_rfl) (ef_box rfl rfl) ?_
     intro b33
     refine d_pu 11 rfl (pu_assign rfl) (by kernel_rfl) (by kernel_rfl) (by kernel_rfl) ?_
     refine d_sub _ (.cons (t := 2) rfl (.cons (t := 5) rfl (.cons (t := 6) rfl (.cons (t := 7) rfl .nil)))) ?_
     first | refine d_nilt (by kernel_rfl) ?_ | refine d_nilf (by kernel_rfl) ?_
     exact then_n ⟨b33, b27, _, _, ⟨rfl, rfl, rfl, rfl, trivial⟩, Split.ent' (by repeat (first | exact Split.nil | (apply Split.cons; (repeat (first | with_reducible exact Take.here | apply Take.there)))))⟩
   ·skip
    refine dA_ef 6 rfl GOn.none (ef_makeN n rfl rfl rfl (by omega) (by simp only [maxLen]; omega)) ?_
    rintro b29
    refine ⟨_, Split.ent (by repeat (first | exact Split.nil | (apply Split.cons; (repeat (first | with_reducible exact Take.here | apply Take.there))))), ?_⟩
    refine d_amb [4, 8] (by kernel_rfl) rfl ⟨?_, ?_⟩
    ·skip
     refine dA_ef 4 rfl GOn.none (ef_makeN n rfl rfl rfl (by omega) (by simp only [maxLen]; omega)) ?_
     rintro b27
     refine ⟨_, Split.ent (by repeat (first | exact Split.nil | (apply Split.cons; (repeat (first | with_reducible exact Take.here | apply Take.there))))), ?_⟩
     refine d_eft 8 rfl (by kernel_rfl) (ef_makeN n rfl rfl rfl (by omega) (by simp only [maxLen]; omega)) ?_
     rintro b31
     refine ⟨_, Split.ent (by repeat (first | exact Split.nil | (apply Split.cons; (repeat (first | with_reducible exact Take.here | apply Take.there))))), ?_⟩
     simp only [show List.take 4 (List.drop 2 w.cells) = [.int .i64 w.S.ha, .int .i64 w.S.pe, .int .i64 w.S.mo, .int .u32 (w.S.seed.toNat : Nat)] from rfl]
     refine d_pu 9 rfl (pu_bld (qs := [(0, _), (2, _), (3, _), (4, _), (5, _)]) rfl) (by kernel_rfl) (by kernel_rfl) (by kernel_rfl) ?_
     first | refine d_fint 10 rfl (by kernel_rfl) (by kernel_rfl) (ef_box rfl rfl) ?_ | refine d_finf 10 rfl (by kernel_rfl) (by kernel_rfl) (ef_box rfl rfl) ?_
     intro b33
     refine d_pu 11 rfl (pu_assign rfl) (by kernel_rfl) (by kernel_rfl) (by kernel_rfl) ?_
     refine d_sub _ (.cons (t := 2) rfl (.cons (t := 5) rfl (.cons (t := 6) rfl (.cons (t := 7) rfl .nil)))) ?_
     first | refine d_nilt (by kernel_rfl) ?_ | refine d_nilf (by kernel_rfl) ?_
     exact then_n ⟨b33, b27, _, _, ⟨rfl, rfl, rfl, rfl, trivial⟩, Split.ent' (by repeat (first | exact Split.nil | (apply Split.cons; (repeat (first | with_reducible exact Take.here | apply Take.there)))))⟩
    ·skip
     refine dA_ef 8 rfl GOn.none (ef_makeN n rfl rfl rfl (by omega) (by simp only [maxLen]; omega)) ?_
     rintro b31
     refine ⟨_, Split.ent (by repeat (first | exact Split.nil | (apply Split.cons; (repeat (first | with_reducible exact Take.here | apply Take.there))))), ?_⟩
     refine d_eft 4 rfl (by kernel_rfl) (ef_makeN n rfl rfl rfl (by omega) (by simp only [maxLen]; omega)) ?_
     rintro b27
     refine ⟨_, Split.ent (by repeat (first | exact Split.nil | (apply Split.cons; (repeat (first | with_reducible exact Take.here | apply Take.there))))), ?_⟩
     simp only [show List.take 4 (List.drop 2 w.cells) = [.int .i64 w.S.ha, .int .i64 w.S.pe, .int .i64 w.S.mo, .int .u32 (w.S.seed.toNat : Nat)] from rfl]
     refine d_pu 9 rfl (pu_bld (qs := [(0, _), (2, _), (3, _), (4, _), (5, _)]) rfl) (by kernel_rfl) (by kernel_rfl) (by kernel_rfl) ?_
     first | refine d_fint 10 rfl (by kernel_rfl) (by kernel_rfl) (ef_box rfl rfl) ?_ | refine d_finf 10 rfl (by kernel_rfl) (by kernel_rfl) (ef_box rfl rfl) ?_
     intro b33
     refine d_pu 11 rfl (pu_assign rfl) (by kernel_rfl) (by kernel_rfl) (by kernel_rfl) ?_
     refine d_sub _ (.cons (t := 2) rfl (.cons (t := 5) rfl (.cons (t := 6) rfl (.cons (t := 7) rfl .nil)))) ?_
     first | refine d_nilt (by kernel_rfl) ?_ | refine d_nilf (by kernel_rfl) ?_
     exact then_n ⟨b33, b27, _, _, ⟨rfl, rfl, rfl, rfl, trivial⟩, Split.ent' (by repeat (first | exact Split.nil | (apply Split.cons; (repeat (first | with_reducible exact Take.here | apply Take.there)))))⟩
   ·skip
    refine dA_ef 8 rfl GOn.none (ef_makeN n rfl rfl rfl (by omega) (by simp only [maxLen]; omega)) ?_
    rintro b31
    refine ⟨_, Split.ent (by repeat (first | exact Split.nil | (apply Split.cons; (repeat (first | with_reducible exact Take.here | apply Take.there))))), ?_⟩
    refine d_amb [4, 6] (by kernel_rfl) rfl ⟨?_, ?_⟩
    ·skip
     refine dA_ef 4 rfl GOn.none (ef_makeN n rfl rfl rfl (by omega) (by simp only [maxLen]; omega)) ?_
     rintro b27
     refine ⟨_, Split.ent (by repeat (first | exact Split.nil | (apply Split.cons; (repeat (first | with_reducible exact Take.here | apply Take.there))))), ?_⟩
     refine d_eft 6 rfl (by kernel_rfl) (ef_makeN n rfl rfl rfl (by omega) (by simp only [maxLen]; omega)) ?_
     rintro b29
     refine ⟨_, Split.ent (by repeat (first | exact Split.nil | (apply Split.cons; (repeat (first | with_reducible exact Take.here | apply Take.there))))), ?_⟩
     simp only [show List.take 4 (List.drop 2 w.cells) = [.int .i64 w.S.ha, .int .i64 w.S.pe, .int .i64 w.S.mo, .int .u32 (w.S.seed.toNat : Nat)] from rfl]
     refine d_pu 9 rfl (pu_bld (qs := [(0, _), (2, _), (3, _), (4, _), (5, _)]) rfl) (by kernel_rfl) (by kernel_rfl) (by kernel_rfl) ?_
     first | refine d_fint 10 rfl (by kernel_rfl) (by kernel_rfl) (ef_box rfl rfl) ?_ | refine d_finf 10 rfl (by kernel_rfl) (by kernel_rfl) (ef_box rfl rfl) ?_
     intro b33
     refine d_pu 11 rfl (pu_assign rfl) (by kernel_rfl) (by kernel_rfl) (by kernel_rfl) ?_
     refine d_sub _ (.cons (t := 2) rfl (.cons (t := 5) rfl (.cons (t := 6) rfl (.cons (t := 7) rfl .nil)))) ?_
     first | refine d_nilt (by kernel_rfl) ?_ | refine d_nilf (by kernel_rfl) ?_
     exact then_n ⟨b33, b27, _, _, ⟨rfl, rfl, rfl, rfl, trivial⟩, Split.ent' (by repeat (first | exact Split.nil | (apply Split.cons; (repeat (first | with_reducible exact Take.here | apply Take.there)))))⟩
    ·skip
     refine dA_ef 6 rfl GOn.none (ef_makeN n rfl rfl rfl (by omega) (by simp only [maxLen]; omega)) ?_
     rintro b29
     refine ⟨_, Split.ent (by repeat (first | exact Split.nil | (apply Split.cons; (repeat (first | with_reducible exact Take.here | apply Take.there))))), ?_⟩
     refine d_eft 4 rfl (by kernel_rfl) (ef_makeN n rfl rfl rfl (by omega) (by simp only [maxLen]; omega)) ?_
     rintro b27
     refine ⟨_, Split.ent (by repeat (first | exact Split.nil | (apply Split.cons; (repeat (first | with_reducible exact Take.here | apply Take.there))))), ?_⟩
     simp only [show List.take 4 (List.drop 2 w.cells) = [.int .i64 w.S.ha, .int .i64 w.S.pe, .int .i64 w.S.mo, .int .u32 (w.S.seed.toNat : Nat)] from rfl]
     refine d_pu 9 rfl (pu_bld (qs := [(0, _), (2, _), (3, _), (4, _), (5, _)]) rfl) (by kernel_rfl) (by kernel_rfl) (by kernel_rfl) ?_
     first | refine d_fint 10 rfl (by kernel_rfl) (by kernel_rfl) (ef_box rfl rfl) ?_ | refine d_finf 10 rfl (by kernel_rfl) (by kernel_rfl) (ef_box rfl rfl) ?_
     intro b33
     refine d_pu 11 rfl (pu_assign rfl) (by kernel_rfl) (by kernel_rfl) (by kernel_rfl) ?_
     refine d_sub _ (.cons (t := 2) rfl (.cons (t := 5) rfl (.cons (t := 6) rfl (.cons (t := 7) rfl .nil)))) ?_
     first | refine d_nilt (by kernel_rfl) ?_ | refine d_nilf (by kernel_rfl) ?_
     exact then_n ⟨b33, b27, _, _, ⟨rfl, rfl, rfl, rfl, trivial⟩, Split.ent' (by repeat (first | exact Split.nil | (apply Split.cons; (repeat (first | with_reducible exact Take.here | apply Take.there)))))⟩
  rintro env L ⟨b33, b27, vl, vm, hsub, hE⟩
  refine swp_sub _ hsub ?_
  refine swp_ent hE ?_
  clear hsub hE env L
  refine swp_seq ?_
  refine swp_seq ?_
  refine swp_region ?_
  refine s_pu (pu_move rfl) ?_
  refine s_pu (pu_move rfl) ?_
  refine swl_sub _ (.cons (t := 2) rfl (.cons (t := 5) rfl (.cons (t := 6) rfl (.cons (t := 7) rfl (.cons (t := 34) rfl (.cons (t := 35) rfl .nil)))))) ?_
  refine swl_nil ?_
  refine then_n ?_
  refine swp_block ?_
  refine swp_loop (ι := Nat) (fun i env L => ∃ (tv : Value) (T' : List (Value × List En)) (μ2 : PH), Sub env [(2, .pointer (some ⟨b2, 0, none⟩)), (5, .pointer (some ⟨p, 0, none⟩)), (6, .int .i64 (n : Nat)), (7, .pointer (some ⟨b33, 0, none⟩)), (34, .int .i64 (n : Nat)), (35, .int .i64 (i : Nat))] ∧ Ent L [blk b33 43 [.pointer (some ⟨p, 0, none⟩), tv, .int .i64 w.S.ha, .int .i64 w.S.pe, .int .i64 w.S.mo, .int .u32 (w.S.seed.toNat : Nat), .slice (some ⟨b27, 0, none⟩) n n, vl, vm], own 35 1 tv i (T'.flatMap gT), own 61 2 (.slice (some ⟨b27, 0, none⟩) n n) n ((List.replicate n ()).flatMap fun _ => [.int .i64 0, .string ⟨#[]⟩]), own 4 1 vl n ((List.replicate n ()).flatMap fun _ => [.bool false]), own 4 1 vm n ((List.replicate n ()).flatMap fun _ => [.bool false]), blk b2 29 w.cells, blk p 46 [v', vn, va], own 3 1 va n (askV n noAsk), ro μ2] ∧ Le μ1 μ2 ∧ T'.length = i ∧ i ≤ n ∧ (∀ t ∈ T', Row μ2 t.1 2 t.2.length (ens t.2)) ∧ T'.map (·.2) = (List.range i).map (ofT w.T)) (fun i => n - i) 0 ⟨.slice none 0 0, [], μ1, ⟨rfl, rfl, rfl, rfl, rfl, rfl, trivial⟩, own_nil_ent.trans (Split.ent' (K := [blk b33 43 [.pointer (some ⟨p, 0, none⟩), .slice none 0 0, .int .i64 w.S.ha, .int .i64 w.S.pe, .int .i64 w.S.mo, .int .u32 (w.S.seed.toNat : Nat), .slice (some ⟨b27, 0, none⟩) n n, vl, vm], own 35 1 (.slice none 0 0) 0 [], own 61 2 (.slice (some ⟨b27, 0, none⟩) n n) n ((List.replicate n ()).flatMap fun _ => [.int .i64 0, .string ⟨#[]⟩]), own 4 1 vl n ((List.replicate n ()).flatMap fun _ => [.bool false]), own 4 1 vm n ((List.replicate n ()).flatMap fun _ => [.bool false]), blk b2 29 w.cells, blk p 46 [v', vn, va], own 3 1 va n (askV n noAsk), ro μ1]) (by repeat (first | exact Split.nil | (apply Split.cons; (repeat (first | with_reducible exact Take.here | apply Take.there)))))), Le.refl _, rfl, Nat.zero_le _, (fun t ht => by cases ht), rfl⟩ ?_
  rintro i env L ⟨tv, T', μ2, hsub, hE, h2, hl, hi, hTr, hTm⟩
  refine swp_sub _ hsub ?_
  refine swp_ent hE ?_
  clear hsub hE env L
  have hT2 := hT1.le h2
  refine swp_seq ?_
  refine swp_region ?_
  refine s_pu (pu_lss rfl rfl) ?_
  refine swl_sub _ (.cons (t := 2) rfl (.cons (t := 5) rfl (.cons (t := 6) rfl (.cons (t := 7) rfl (.cons (t := 34) rfl (.cons (t := 35) rfl (.cons (t := 36) rfl .nil))))))) ?_
  refine swl_nil ?_
  refine then_n ?_
  refine swp_seq ?_
  refine swp_cond (b := _) rfl (fun h36 => ?_) (fun h36 => ?_)
  ·skip
   have h36' : i < n := by have := of_decide_eq_true h36; omega
   refine swp_skip ?_
   refine then_n ?_
   refine swp_seq ?_
   refine swp_block ?_
   refine swp_seq ?_
   refine swp_region ?_
   refine s_pu (pu_move rfl) ?_
   refine s_pu (pu_assign rfl) ?_
   refine swl_sub _ (.cons (t := 2) rfl (.cons (t := 5) rfl (.cons (t := 6) rfl (.cons (t := 7) rfl (.cons (t := 8) rfl (.cons (t := 34) rfl (.cons (t := 35) rfl .nil))))))) ?_
   refine swl_nil ?_
   refine then_n ?_
   refine swp_seq ?_
   refine swp_region ?_
   refine s_pu (pu_assign rfl) ?_
   refine swl_sub _ (.cons (t := 2) rfl (.cons (t := 5) rfl (.cons (t := 6) rfl (.cons (t := 7) rfl (.cons (t := 8) rfl (.cons (t := 9) rfl (.cons (t := 34) rfl (.cons (t := 35) rfl .nil)))))))) ?_
   refine swl_nil ?_
   refine then_n ?_
   refine swp_cut (fun env L => ∃ (A : Option Addr) (c : Nat) (μ3 : PH), Sub env [(2, .pointer (some ⟨b2, 0, none⟩)), (5, .pointer (some ⟨p, 0, none⟩)), (6, .int .i64 (n : Nat)), (7, .pointer (some ⟨b33, 0, none⟩)), (34, .int .i64 (n : Nat)), (35, .int .i64 (i : Nat)), (9, .slice A (ofT w.T i).length c)] ∧ Ent L [blk b33 43 [.pointer (some ⟨p, 0, none⟩), tv, .int .i64 w.S.ha, .int .i64 w.S.pe, .int .i64 w.S.mo, .int .u32 (w.S.seed.toNat : Nat), .slice (some ⟨b27, 0, none⟩) n n, vl, vm], own 35 1 tv i (T'.flatMap gT), own 61 2 (.slice (some ⟨b27, 0, none⟩) n n) n ((List.replicate n ()).flatMap fun _ => [.int .i64 0, .string ⟨#[]⟩]), own 4 1 vl n ((List.replicate n ()).flatMap fun _ => [.bool false]), own 4 1 vm n ((List.replicate n ()).flatMap fun _ => [.bool false]), blk b2 29 w.cells, blk p 46 [v', vn, va], own 3 1 va n (askV n noAsk), ro μ3] ∧ Le μ2 μ3 ∧ Row μ3 (.slice A (ofT w.T i).length c) 2 (ofT w.T i).length (ens (ofT w.T i))) ?_ ?_
   ·skip
    refine swp_seq ?_
    refine swp_region ?_
    first | refine s_pu (pu_fieldAddr0 rfl) ?_ | refine s_pu (pu_fieldAddr rfl) ?_
    refine s_rd (rd_load rfl rfl) ?_
    refine s_pu (pu_len_row hT2 rfl) ?_
    refine s_pu (pu_gtr rfl rfl) ?_
    refine swl_sub _ (.cons (t := 2) rfl (.cons (t := 5) rfl (.cons (t := 6) rfl (.cons (t := 7) rfl (.cons (t := 8) rfl (.cons (t := 9) rfl (.cons (t := 34) rfl (.cons (t := 35) rfl (.cons (t := 41) rfl .nil))))))))) ?_
    refine swl_nil ?_
    refine then_n ?_
    refine swp_cond (b := _) rfl (fun h41 => ?_) (fun h41 => ?_)
    ·skip
     have h41' : 0 < w.T.length := by have := of_decide_eq_true h41; omega
     have hmod : i % w.T.length < w.T.length := Nat.mod_lt _ h41'
     obtain ⟨tb, to, tc, htv, htc⟩ := trow hT2 hmod
     have htr := (h.hTr _ (List.getElem_mem hmod)).1.le (h1.trans h2)
     have hgs := good_spec μ2 (w.T[i % w.T.length]).1 (w.T[i % w.T.length]).2 htr
     have hoT : ofT w.T i = goodE (w.T[i % w.T.length]).2 := by unfold ofT; rw [if_neg (by omega), List.getElem?_eq_getElem hmod]; rfl
     rw [← hoT] at hgs
     refine swp_draw [1, 4, 8] _ [] (by simp only [List.append_nil]; exact Ent.refl _) (by kernel_rfl) ?_
     first | refine d_pu 0 rfl (pu_fieldAddr0 rfl) (by kernel_rfl) (by kernel_rfl) (by kernel_rfl) ?_ | refine d_pu 0 rfl (pu_fieldAddr rfl) (by kernel_rfl) (by kernel_rfl) (by kernel_rfl) ?_
     refine d_rd 1 rfl (rd_load rfl rfl) rfl (by kernel_rfl) (by kernel_rfl) (by kernel_rfl) ?_
     refine d_pu 2 rfl (pu_move rfl) (by kernel_rfl) (by kernel_rfl) (by kernel_rfl) ?_
     first | refine d_pu 3 rfl (pu_fieldAddr0 rfl) (by kernel_rfl) (by kernel_rfl) (by kernel_rfl) ?_ | refine d_pu 3 rfl (pu_fieldAddr rfl) (by kernel_rfl) (by kernel_rfl) (by kernel_rfl) ?_
     refine d_rd 4 rfl (rd_load rfl rfl) rfl (by kernel_rfl) (by kernel_rfl) (by kernel_rfl) ?_
     refine d_pu 5 rfl (pu_len_row hT2 rfl) (by kernel_rfl) (by kernel_rfl) (by kernel_rfl) ?_
     refine d_pu 6 rfl (pu_rem_as ((i % w.T.length : Nat) : Int) rfl rfl (by omega) (by omega) (by omega)) (by kernel_rfl) (by kernel_rfl) (by kernel_rfl) ?_
     refine d_pu 7 rfl (pu_indexAddr (to + (i % w.T.length) * 1) (congrArg some htv) rfl (by omega) (by omega) (by rw [Int.toNat_natCast])) (by kernel_rfl) (by kernel_rfl) (by kernel_rfl) ?_
     refine d_rd 8 rfl (rd_ro rfl htc) rfl (by kernel_rfl) (by kernel_rfl) (by kernel_rfl) ?_
     first | refine d_fint 9 rfl (by kernel_rfl) (by kernel_rfl) (ef_fn hgs rfl rfl (by repeat (first | exact Split.nil | (apply Split.cons; (repeat (first | with_reducible exact Take.here | apply Take.there)))))) ?_ | refine d_finf 9 rfl (by kernel_rfl) (by kernel_rfl) (ef_fn hgs rfl rfl (by repeat (first | exact Split.nil | (apply Split.cons; (repeat (first | with_reducible exact Take.here | apply Take.there)))))) ?_
     rintro v51 L1 ⟨μ3, h3, hr3, rfl⟩
     refine swd_app ?_
     obtain ⟨A3, c3, rfl⟩ := hr3.sl
     refine d_pu 10 rfl (pu_assign rfl) (by kernel_rfl) (by kernel_rfl) (by kernel_rfl) ?_
     refine d_sub _ (.cons (t := 2) rfl (.cons (t := 5) rfl (.cons (t := 6) rfl (.cons (t := 7) rfl (.cons (t := 9) rfl (.cons (t := 34) rfl (.cons (t := 35) rfl .nil))))))) ?_
     first | refine d_nilt (by kernel_rfl) ?_ | refine d_nilf (by kernel_rfl) ?_
     refine then_n ⟨A3, c3, μ3, ⟨rfl, rfl, rfl, rfl, rfl, rfl, rfl, trivial⟩, Split.ent' (by repeat (first | exact Split.nil | (apply Split.cons; (repeat (first | with_reducible exact Take.here | apply Take.there))))), h3, hr3⟩
    ·skip
     have h41' : w.T.length = 0 := by have := of_decide_eq_false h41; omega
     have hoT : ofT w.T i = [] := by unfold ofT; rw [if_pos h41']
     refine swp_skip ?_
     rw [hoT]
     exact then_n ⟨none, 0, μ2, ⟨rfl, rfl, rfl, rfl, rfl, rfl, rfl, trivial⟩, Split.ent' (by repeat (first | exact Split.nil | (apply Split.cons; (repeat (first | with_reducible exact Take.here | apply Take.there))))), Le.refl _, Row.nil _ _⟩
   rintro env L ⟨A3, c3, μ3, hsub, hE, h3, hr3⟩
   refine swp_sub _ hsub ?_
   refine swp_ent hE ?_
   clear hsub hE env L
   refine swp_region ?_
   refine s_pu (pu_move rfl) ?_
   refine s_pu (pu_move rfl) ?_
   first | refine s_pu (pu_nilCheck rfl) ?_ | refine s_pu (pu_nilCheck_fn rfl) ?_ | refine s_pu (pu_nilCheck_if rfl) ?_
   first | refine s_pu (pu_fieldAddr0 rfl) ?_ | refine s_pu (pu_fieldAddr rfl) ?_
   refine s_rd (rd_load rfl rfl) ?_
   refine s_pu (pu_move rfl) ?_
   refine s_ef (ef_bldS (qs := [(0, _)]) rfl rfl rfl) ?_
   intro b58
   refine s_ef (ef_append_lit (l := i) (m := 1) rfl rfl (by repeat (first | exact Split.nil | (apply Split.cons; (repeat (first | with_reducible exact Take.here | apply Take.there))))) (by simp only [maxLen]; omega) (by omega)) ?_
   rintro v59 hv59
   obtain ⟨g7, c7, rfl⟩ := hv59 (by decide)
   first | refine s_pu (pu_nilCheck rfl) ?_ | refine s_pu (pu_nilCheck_fn rfl) ?_ | refine s_pu (pu_nilCheck_if rfl) ?_
   first | refine s_pu (pu_fieldAddr0 rfl) ?_ | refine s_pu (pu_fieldAddr rfl) ?_
   refine s_ef0 (ef_store rfl rfl rfl) ?_
   refine swl_sub _ (.cons (t := 2) rfl (.cons (t := 5) rfl (.cons (t := 6) rfl (.cons (t := 7) rfl (.cons (t := 34) rfl (.cons (t := 35) rfl .nil)))))) ?_
   refine swl_nil ?_
   refine block_n ?_
   refine then_n ?_
   refine swp_region ?_
   refine s_pu (pu_add_as ((i + 1 : Nat) : Int) rfl rfl (by omega) (by omega) (by omega)) ?_
   refine s_pu (pu_move rfl) ?_
   refine swl_sub _ (.cons (t := 2) rfl (.cons (t := 5) rfl (.cons (t := 6) rfl (.cons (t := 7) rfl (.cons (t := 34) rfl (.cons (t := 35) rfl .nil)))))) ?_
   refine swl_nil ?_
   refine then_n ⟨i + 1, ⟨.slice (some ⟨g7, 0, none⟩) (i + 1) c7, T' ++ [(.slice A3 (ofT w.T i).length c3, ofT w.T i)], μ3, ⟨rfl, rfl, rfl, rfl, rfl, rfl, trivial⟩, ?_, h2.trans h3, by rw [List.length_append, hl]; rfl, h36', ?_, ?_⟩, by show n - (i + 1) < n - i; omega⟩
   ·have e1 : (T' ++ [(Value.slice A3 (ofT w.T i).length c3, ofT w.T i)]).flatMap gT = T'.flatMap gT ++ [Value.slice A3 (ofT w.T i).length c3] := by rw [List.flatMap_append]; rfl
    rw [e1]
    exact Split.ent' (by repeat (first | exact Split.nil | (apply Split.cons; (repeat (first | with_reducible exact Take.here | apply Take.there)))))
   ·intro t ht
    rcases List.mem_append.1 ht with ht | ht
    ·exact (hTr t ht).le h3
    ·rw [List.mem_singleton.1 ht]; exact hr3
   ·rw [List.map_append, hTm, List.range_succ, List.map_append]; rfl
  ·skip
   obtain rfl : n = i := by have := of_decide_eq_false h36; omega
   rw [fil_zero]
   have hTall : ∀ t ∈ T', t.2.length ≤ 100 ∧ GoodT t.2 ∧ U32s t.2 := fun t ht => by
    have hm : t.2 ∈ T'.map (·.2) := List.mem_map_of_mem ht
    rw [hTm] at hm
    obtain ⟨c, _, hc⟩ := List.mem_map.1 hm
    rw [← hc]
    exact ofT_ok (fun t ht => (h.hTr t ht).2) c
   refine swp_share_own (e := 35) (n := 1) (v := tv) (μ := μ2) (by repeat (first | exact Split.nil | (apply Split.cons; (repeat (first | with_reducible exact Take.here | apply Take.there))))) fun μ3 h3 hrT => ?_
   rw [← hl] at hrT
   have hG3 := hG1.le (h2.trans h3)
   have hTr3 : ∀ t ∈ T', Row μ3 t.1 2 t.2.length (ens t.2) ∧ t.2.length ≤ 100 ∧ GoodT t.2 ∧ U32s t.2 := fun t ht => ⟨(hTr t ht).le h3, hTall t ht⟩
   refine swp_exit ?_
   refine then_x ?_
   refine then_x ?_
   refine block_hit rfl ?_
   refine then_n ?_
   refine swp_seq ?_
   refine swp_seq ?_
   refine swp_region ?_
   refine s_pu (pu_move rfl) ?_
   refine s_pu (pu_move rfl) ?_
   refine swl_sub _ (.cons (t := 2) rfl (.cons (t := 5) rfl (.cons (t := 7) rfl (.cons (t := 63) rfl (.cons (t := 64) rfl .nil))))) ?_
   refine swl_nil ?_
   refine then_n ?_
   refine swp_block ?_
   refine swp_loop (ι := Nat) (fun i env L => ∃ (F : List Fil) (μ4 : PH), Sub env [(2, .pointer (some ⟨b2, 0, none⟩)), (5, .pointer (some ⟨p, 0, none⟩)), (7, .pointer (some ⟨b33, 0, none⟩)), (63, .int .i64 (n : Nat)), (64, .int .i64 (i : Nat))] ∧ Ent L [blk b33 43 [.pointer (some ⟨p, 0, none⟩), tv, .int .i64 w.S.ha, .int .i64 w.S.pe, .int .i64 w.S.mo, .int .u32 (w.S.seed.toNat : Nat), .slice (some ⟨b27, 0, none⟩) n n, vl, vm], own 61 2 (.slice (some ⟨b27, 0, none⟩) n n) n (F.flatMap encF), own 4 1 vl n ((List.replicate n ()).flatMap fun _ => [.bool false]), own 4 1 vm n ((List.replicate n ()).flatMap fun _ => [.bool false]), blk b2 29 w.cells, blk p 46 [v', vn, va], own 3 1 va n (askV n noAsk), ro μ4] ∧ Le μ3 μ4 ∧ F.length = n ∧ i ≤ n ∧ (∀ f ∈ F, f.2.length ≤ 1048576)) (fun i => n - i) 0 ⟨List.replicate n ((0, []) : Fil), μ3, ⟨rfl, rfl, rfl, rfl, rfl, trivial⟩, Split.ent' (by repeat (first | exact Split.nil | (apply Split.cons; (repeat (first | with_reducible exact Take.here | apply Take.there))))), Le.refl _, List.length_replicate, Nat.zero_le _, (fun f hf => by rw [(List.mem_replicate.1 hf).2]; exact Nat.zero_le _)⟩ ?_
   rintro i env L ⟨F, μ4, hsub, hE, h4, hFl, hi, hFs2⟩
   refine swp_sub _ hsub ?_
   refine swp_ent hE ?_
   clear hsub hE env L
   have hF4 := hF1.le (h2.trans (h3.trans h4))
   refine swp_seq ?_
   refine swp_region ?_
   refine s_pu (pu_lss rfl rfl) ?_
   refine swl_sub _ (.cons (t := 2) rfl (.cons (t := 5) rfl (.cons (t := 7) rfl (.cons (t := 63) rfl (.cons (t := 64) rfl (.cons (t := 65) rfl .nil)))))) ?_
   refine swl_nil ?_
   refine then_n ?_
   refine swp_seq ?_
   refine swp_cond (b := _) rfl (fun h65 => ?_) (fun h65 => ?_)
   ·skip
    have h65' : i < n := by have := of_decide_eq_true h65; omega
    refine swp_skip ?_
    refine then_n ?_
    refine swp_seq ?_
    refine swp_block ?_
    refine swp_seq ?_
    refine swp_region ?_
    refine s_pu (pu_move rfl) ?_
    refine s_pu (pu_assign rfl) ?_
    refine swl_sub _ (.cons (t := 2) rfl (.cons (t := 5) rfl (.cons (t := 7) rfl (.cons (t := 10) rfl (.cons (t := 63) rfl (.cons (t := 64) rfl .nil)))))) ?_
    refine swl_nil ?_
    refine then_n ?_
    refine swp_seq ?_
    refine swp_draw [1, 6, 9, 13] _ [] (by simp only [List.append_nil]; exact Ent.refl _) (by kernel_rfl) ?_
    first | refine d_pu 0 rfl (pu_fieldAddr0 rfl) (by kernel_rfl) (by kernel_rfl) (by kernel_rfl) ?_ | refine d_pu 0 rfl (pu_fieldAddr rfl) (by kernel_rfl) (by kernel_rfl) (by kernel_rfl) ?_
    refine d_rd 1 rfl (rd_load rfl rfl) rfl (by kernel_rfl) (by kernel_rfl) (by kernel_rfl) ?_
    refine d_pu 2 rfl (pu_len_row hF4 rfl) (by kernel_rfl) (by kernel_rfl) (by kernel_rfl) ?_
    refine d_pu 3 rfl (pu_gtr rfl rfl) (by kernel_rfl) (by kernel_rfl) (by kernel_rfl) ?_
    refine d_pu 4 rfl (pu_move rfl) (by kernel_rfl) (by kernel_rfl) (by kernel_rfl) ?_
    refine d_split 71 rfl (fun h71 => ?_) (fun h71 => ?_)
    ·skip
     have h71' : 0 < w.F.length := by have := of_decide_eq_true h71; omega
     have hmod : i % w.F.length < w.F.length := Nat.mod_lt _ h71'
     obtain ⟨fb, fo, fc, hfv, _, _, hfr⟩ := hF4.pos h71'
     have hfc : CellAt μ4 fb (fo + i % w.F.length) (.bool (w.F[i % w.F.length])) := hfr _ _ (by rw [List.getElem?_map, List.getElem?_eq_getElem hmod]; rfl)
     first | refine d_pu_on 5 rfl rfl rfl (pu_fieldAddr0 rfl) (by kernel_rfl) (by kernel_rfl) (by kernel_rfl) ?_ | refine d_pu_on 5 rfl rfl rfl (pu_fieldAddr rfl) (by kernel_rfl) (by kernel_rfl) (by kernel_rfl) ?_
     refine d_rd_on 6 rfl rfl rfl (rd_load rfl rfl) rfl (by kernel_rfl) (by kernel_rfl) (by kernel_rfl) ?_
     refine d_pu_on 7 rfl rfl rfl (pu_move rfl) (by kernel_rfl) (by kernel_rfl) (by kernel_rfl) ?_
     first | refine d_pu_on 8 rfl rfl rfl (pu_fieldAddr0 rfl) (by kernel_rfl) (by kernel_rfl) (by kernel_rfl) ?_ | refine d_pu_on 8 rfl rfl rfl (pu_fieldAddr rfl) (by kernel_rfl) (by kernel_rfl) (by kernel_rfl) ?_
     refine d_rd_on 9 rfl rfl rfl (rd_load rfl rfl) rfl (by kernel_rfl) (by kernel_rfl) (by kernel_rfl) ?_
     refine d_pu_on 10 rfl rfl rfl (pu_len_row hF4 rfl) (by kernel_rfl) (by kernel_rfl) (by kernel_rfl) ?_
     refine d_pu_on 11 rfl rfl rfl (pu_rem_as ((i % w.F.length : Nat) : Int) rfl rfl (by omega) (by omega) (by omega)) (by kernel_rfl) (by kernel_rfl) (by kernel_rfl) ?_
     refine d_pu_on 12 rfl rfl rfl (pu_indexAddr (fo + i % w.F.length) (congrArg some hfv) rfl (by omega) (by omega) (by rw [Int.toNat_natCast, Nat.mul_one])) (by kernel_rfl) (by kernel_rfl) (by kernel_rfl) ?_
     refine d_rd_on 13 rfl rfl rfl (rd_ro rfl hfc) rfl (by kernel_rfl) (by kernel_rfl) (by kernel_rfl) ?_
     first | refine d_pu 14 rfl (pu_pick_t rfl rfl) (by kernel_rfl) (by kernel_rfl) (by kernel_rfl) ?_ | refine d_pu 14 rfl (pu_pick_f rfl rfl) (by kernel_rfl) (by kernel_rfl) (by kernel_rfl) ?_
     refine d_sub _ (.cons (t := 2) rfl (.cons (t := 5) rfl (.cons (t := 7) rfl (.cons (t := 10) rfl (.cons (t := 63) rfl (.cons (t := 64) rfl (.cons (t := 81) rfl .nil))))))) ?_
     first | refine d_nilt (by kernel_rfl) ?_ | refine d_nilf (by kernel_rfl) ?_
     refine then_n ?_
     refine swp_cond (b := _) rfl (fun h81 => ?_) (fun h81 => ?_)
     ·skip
      have hiT : i < T'.length := by omega
      obtain ⟨tb, to, tc, htv, htc⟩ := trow (hrT.le h4) hiT
      have hti := hTr3 _ (List.getElem_mem hiT)
      have hwas := was_spec μ4 v' tv G T' i (hG3.le h4) (hrT.le h4) (fun t ht => ⟨(hTr3 t ht).1.le h4, (hTr3 t ht).2⟩) (by omega) hgood (by omega)
      refine swp_draw [3, 6, 10, 14, 20, 23] _ [] (by simp only [List.append_nil]; exact Ent.refl _) (by kernel_rfl) ?_
      refine d_pu 0 rfl (pu_move rfl) (by kernel_rfl) (by kernel_rfl) (by kernel_rfl) ?_
      first | refine d_pu 1 rfl (pu_nilCheck rfl) (by kernel_rfl) (by kernel_rfl) (by kernel_rfl) ?_ | refine d_pu 1 rfl (pu_nilCheck_fn rfl) (by kernel_rfl) (by kernel_rfl) (by kernel_rfl) ?_ | refine d_pu 1 rfl (pu_nilCheck_if rfl) (by kernel_rfl) (by kernel_rfl) (by kernel_rfl) ?_
      first | refine d_pu 2 rfl (pu_fieldAddr0 rfl) (by kernel_rfl) (by kernel_rfl) (by kernel_rfl) ?_ | refine d_pu 2 rfl (pu_fieldAddr rfl) (by kernel_rfl) (by kernel_rfl) (by kernel_rfl) ?_
      refine d_rd 3 rfl (rd_load rfl rfl) rfl (by kernel_rfl) (by kernel_rfl) (by kernel_rfl) ?_
      refine d_pu 4 rfl (pu_move rfl) (by kernel_rfl) (by kernel_rfl) (by kernel_rfl) ?_
      first | refine d_pu 5 rfl (pu_fieldAddr0 rfl) (by kernel_rfl) (by kernel_rfl) (by kernel_rfl) ?_ | refine d_pu 5 rfl (pu_fieldAddr rfl) (by kernel_rfl) (by kernel_rfl) (by kernel_rfl) ?_
      first | refine d_rd 6 rfl (rd_loadW rfl rfl) rfl (by kernel_rfl) (by kernel_rfl) (by kernel_rfl) ?_ | refine d_rd 6 rfl (rd_loadX rfl rfl rfl) rfl (by kernel_rfl) (by kernel_rfl) (by kernel_rfl) ?_
      refine d_pu 7 rfl (pu_move rfl) (by kernel_rfl) (by kernel_rfl) (by kernel_rfl) ?_
      first | refine d_pu 8 rfl (pu_nilCheck rfl) (by kernel_rfl) (by kernel_rfl) (by kernel_rfl) ?_ | refine d_pu 8 rfl (pu_nilCheck_fn rfl) (by kernel_rfl) (by kernel_rfl) (by kernel_rfl) ?_ | refine d_pu 8 rfl (pu_nilCheck_if rfl) (by kernel_rfl) (by kernel_rfl) (by kernel_rfl) ?_
      first | refine d_pu 9 rfl (pu_fieldAddr0 rfl) (by kernel_rfl) (by kernel_rfl) (by kernel_rfl) ?_ | refine d_pu 9 rfl (pu_fieldAddr rfl) (by kernel_rfl) (by kernel_rfl) (by kernel_rfl) ?_
      refine d_rd 10 rfl (rd_load rfl rfl) rfl (by kernel_rfl) (by kernel_rfl) (by kernel_rfl) ?_
      refine d_pu 11 rfl (pu_move rfl) (by kernel_rfl) (by kernel_rfl) (by kernel_rfl) ?_
      first | refine d_pu 12 rfl (pu_nilCheck rfl) (by kernel_rfl) (by kernel_rfl) (by kernel_rfl) ?_ | refine d_pu 12 rfl (pu_nilCheck_fn rfl) (by kernel_rfl) (by kernel_rfl) (by kernel_rfl) ?_ | refine d_pu 12 rfl (pu_nilCheck_if rfl) (by kernel_rfl) (by kernel_rfl) (by kernel_rfl) ?_
      first | refine d_pu 13 rfl (pu_fieldAddr0 rfl) (by kernel_rfl) (by kernel_rfl) (by kernel_rfl) ?_ | refine d_pu 13 rfl (pu_fieldAddr rfl) (by kernel_rfl) (by kernel_rfl) (by kernel_rfl) ?_
      refine d_rd 14 rfl (rd_load rfl rfl) rfl (by kernel_rfl) (by kernel_rfl) (by kernel_rfl) ?_
      refine d_pu 15 rfl (pu_move rfl) (by kernel_rfl) (by kernel_rfl) (by kernel_rfl) ?_
      refine d_pu 17 rfl (pu_move rfl) (by kernel_rfl) (by kernel_rfl) (by kernel_rfl) ?_
      first | refine d_pu 18 rfl (pu_nilCheck rfl) (by kernel_rfl) (by kernel_rfl) (by kernel_rfl) ?_ | refine d_pu 18 rfl (pu_nilCheck_fn rfl) (by kernel_rfl) (by kernel_rfl) (by kernel_rfl) ?_ | refine d_pu 18 rfl (pu_nilCheck_if rfl) (by kernel_rfl) (by kernel_rfl) (by kernel_rfl) ?_
      first | refine d_pu 19 rfl (pu_fieldAddr0 rfl) (by kernel_rfl) (by kernel_rfl) (by kernel_rfl) ?_ | refine d_pu 19 rfl (pu_fieldAddr rfl) (by kernel_rfl) (by kernel_rfl) (by kernel_rfl) ?_
      refine d_rd 20 rfl (rd_load rfl rfl) rfl (by kernel_rfl) (by kernel_rfl) (by kernel_rfl) ?_
      refine d_pu 21 rfl (pu_move rfl) (by kernel_rfl) (by kernel_rfl) (by kernel_rfl) ?_
      refine d_pu 22 rfl (pu_indexAddr (to + i * 1) (congrArg some htv) rfl (by omega) (by omega) (by rw [Int.toNat_natCast])) (by kernel_rfl) (by kernel_rfl) (by kernel_rfl) ?_
      refine d_rd 23 rfl (rd_ro rfl htc) rfl (by kernel_rfl) (by kernel_rfl) (by kernel_rfl) ?_
      refine d_eft 16 rfl (by kernel_rfl) (ef_fn hwas rfl rfl (by repeat (first | exact Split.nil | (apply Split.cons; (repeat (first | with_reducible exact Take.here | apply Take.there)))))) ?_
      rintro v99 L1 ⟨t, ht1, ht2, ht3, rfl⟩
      refine ⟨_, ent_appC (Split.ent (by repeat (first | exact Split.nil | (apply Split.cons; (repeat (first | with_reducible exact Take.here | apply Take.there)))))), ?_⟩
      refine d_eft 24 rfl (by kernel_rfl) (ef_fn (sof2_spec μ4 w.S v99 _ t _ ht1 (hti.1.le h4) ⟨ht2, hti.2.1⟩ ht3 hti.2.2.1) rfl rfl (by repeat (first | exact Split.nil | (apply Split.cons; (repeat (first | with_reducible exact Take.here | apply Take.there)))))) ?_
      rintro v107 L1 ⟨f, e, rfl, hfl, rfl⟩
      refine ⟨_, ent_appC (Split.ent (by repeat (first | exact Split.nil | (apply Split.cons; (repeat (first | with_reducible exact Take.here | apply Take.there)))))), ?_⟩
      refine d_pu 25 rfl (pu_move rfl) (by kernel_rfl) (by kernel_rfl) (by kernel_rfl) ?_
      first | refine d_pu 26 rfl (pu_extractL rfl) (by kernel_rfl) (by kernel_rfl) (by kernel_rfl) ?_ | refine d_pu 26 rfl (pu_extract rfl rfl) (by kernel_rfl) (by kernel_rfl) (by kernel_rfl) ?_
      first | refine d_pu 27 rfl (pu_extractL rfl) (by kernel_rfl) (by kernel_rfl) (by kernel_rfl) ?_ | refine d_pu 27 rfl (pu_extract rfl rfl) (by kernel_rfl) (by kernel_rfl) (by kernel_rfl) ?_
      refine d_pu 28 rfl (pu_indexAddr (0 + i * 2) rfl rfl (by omega) (by omega) (by rw [Int.toNat_natCast])) (by kernel_rfl) (by kernel_rfl) (by kernel_rfl) ?_
      first | refine d_fin0t 29 rfl (by kernel_rfl) (by kernel_rfl) (ef_store_ownA rfl rfl (by repeat (first | exact Split.nil | (apply Split.cons; (repeat (first | with_reducible exact Take.here | apply Take.there))))) (by show 0 + i * 2 + 2 ≤ _; rw [flat_length (f := encF) (k := 2) (fun _ => rfl)]; omega) rfl rfl) ?_ | refine d_fin0f 29 rfl (by kernel_rfl) (by kernel_rfl) (ef_store_ownA rfl rfl (by repeat (first | exact Split.nil | (apply Split.cons; (repeat (first | with_reducible exact Take.here | apply Take.there))))) (by show 0 + i * 2 + 2 ≤ _; rw [flat_length (f := encF) (k := 2) (fun _ => rfl)]; omega) rfl rfl) ?_
      refine d_sub _ (.cons (t := 2) rfl (.cons (t := 5) rfl (.cons (t := 7) rfl (.cons (t := 63) rfl (.cons (t := 64) rfl .nil))))) ?_
      first | refine d_nilt (by kernel_rfl) ?_ | refine d_nilf (by kernel_rfl) ?_
      refine block_n ?_
      refine then_n ?_
      refine swp_region ?_
      refine s_pu (pu_add_as ((i + 1 : Nat) : Int) rfl rfl (by omega) (by omega) (by omega)) ?_
      refine s_pu (pu_move rfl) ?_
      refine swl_sub _ (.cons (t := 2) rfl (.cons (t := 5) rfl (.cons (t := 7) rfl (.cons (t := 63) rfl (.cons (t := 64) rfl .nil))))) ?_
      refine swl_nil ?_
      refine then_n ⟨i + 1, ⟨F.set i f, μ4, ⟨rfl, rfl, rfl, rfl, rfl, trivial⟩, ?_, h4, by rw [List.length_set, hFl], h65', ?_⟩, by show n - (i + 1) < n - i; omega⟩
      ·rw [Nat.zero_add, flat_over2 (f := encF) (n := 2) (fun _ => rfl) (by omega)]
       exact Split.ent' (by repeat (first | exact Split.nil | (apply Split.cons; (repeat (first | with_reducible exact Take.here | apply Take.there)))))
      ·intro g hg
       rcases List.mem_or_eq_of_mem_set hg with hg | rfl
       ·exact hFs2 g hg
       ·exact hfl
     ·skip
      refine swp_skip ?_
      refine block_n ?_
      refine then_n ?_
      refine swp_region ?_
      refine s_pu (pu_add_as ((i + 1 : Nat) : Int) rfl rfl (by omega) (by omega) (by omega)) ?_
      refine s_pu (pu_move rfl) ?_
      refine swl_sub _ (.cons (t := 2) rfl (.cons (t := 5) rfl (.cons (t := 7) rfl (.cons (t := 63) rfl (.cons (t := 64) rfl .nil))))) ?_
      refine swl_nil ?_
      exact then_n ⟨i + 1, ⟨F, μ4, ⟨rfl, rfl, rfl, rfl, rfl, trivial⟩, Split.ent' (by repeat (first | exact Split.nil | (apply Split.cons; (repeat (first | with_reducible exact Take.here | apply Take.there))))), h4, hFl, h65', hFs2⟩, by show n - (i + 1) < n - i; omega⟩
    ·skip
     refine d_off 5 rfl rfl rfl rfl (by kernel_rfl) (by kernel_rfl) (by kernel_rfl) ?_
     refine d_off 6 rfl rfl rfl rfl (by kernel_rfl) (by kernel_rfl) (by kernel_rfl) ?_
     refine d_off 7 rfl rfl rfl rfl (by kernel_rfl) (by kernel_rfl) (by kernel_rfl) ?_
     refine d_off 8 rfl rfl rfl rfl (by kernel_rfl) (by kernel_rfl) (by kernel_rfl) ?_
     refine d_off 9 rfl rfl rfl rfl (by kernel_rfl) (by kernel_rfl) (by kernel_rfl) ?_
     refine d_off 10 rfl rfl rfl rfl (by kernel_rfl) (by kernel_rfl) (by kernel_rfl) ?_
     refine d_off 11 rfl rfl rfl rfl (by kernel_rfl) (by kernel_rfl) (by kernel_rfl) ?_
     refine d_off 12 rfl rfl rfl rfl (by kernel_rfl) (by kernel_rfl) (by kernel_rfl) ?_
     refine d_off 13 rfl rfl rfl rfl (by kernel_rfl) (by kernel_rfl) (by kernel_rfl) ?_
     first | refine d_pu 14 rfl (pu_pick_t rfl rfl) (by kernel_rfl) (by kernel_rfl) (by kernel_rfl) ?_ | refine d_pu 14 rfl (pu_pick_f rfl rfl) (by kernel_rfl) (by kernel_rfl) (by kernel_rfl) ?_
     refine d_sub _ (.cons (t := 2) rfl (.cons (t := 5) rfl (.cons (t := 7) rfl (.cons (t := 10) rfl (.cons (t := 63) rfl (.cons (t := 64) rfl (.cons (t := 81) rfl .nil))))))) ?_
     first | refine d_nilt (by kernel_rfl) ?_ | refine d_nilf (by kernel_rfl) ?_
     refine then_n ?_
     refine swp_cond (b := _) rfl (fun h81 => by cases h81) (fun h81 => ?_)
     refine swp_skip ?_
     refine block_n ?_
     refine then_n ?_
     refine swp_region ?_
     refine s_pu (pu_add_as ((i + 1 : Nat) : Int) rfl rfl (by omega) (by omega) (by omega)) ?_
     refine s_pu (pu_move rfl) ?_
     refine swl_sub _ (.cons (t := 2) rfl (.cons (t := 5) rfl (.cons (t := 7) rfl (.cons (t := 63) rfl (.cons (t := 64) rfl .nil))))) ?_
     refine swl_nil ?_
     exact then_n ⟨i + 1, ⟨F, μ4, ⟨rfl, rfl, rfl, rfl, rfl, trivial⟩, Split.ent' (by repeat (first | exact Split.nil | (apply Split.cons; (repeat (first | with_reducible exact Take.here | apply Take.there))))), h4, hFl, h65', hFs2⟩, by show n - (i + 1) < n - i; omega⟩
   ·skip
    rw [bcn_zero]
    refine swp_share_own (e := 61) (n := 2) (v := .slice (some ⟨b27, 0, none⟩) n n) (μ := μ4) (by repeat (first | exact Split.nil | (apply Split.cons; (repeat (first | with_reducible exact Take.here | apply Take.there))))) fun μ5 h5 hrF => ?_
    refine swp_exit ?_
    refine then_x ?_
    refine then_x ?_
    refine block_hit rfl ?_
    refine then_n ?_
    refine swp_seq ?_
    refine swp_region ?_
    refine s_pu (pu_move rfl) ?_
    refine s_pu (pu_assign rfl) ?_
    refine swl_sub _ (.cons (t := 4) rfl .nil) ?_
    refine swl_nil ?_
    refine then_n ?_
    refine swp_ret ?_
    refine done_retE [HW.A ⟨b33, p, v', vn, tv, .slice (some ⟨b27, 0, none⟩) n n, w.S, G, T', F⟩ st00, ro μ5] (.tmp rfl .nil) ⟨μ5, h1.trans (h2.trans (h3.trans (h4.trans h5))), .inr ⟨hck, ⟨b33, p, v', vn, tv, .slice (some ⟨b27, 0, none⟩) n n, w.S, G, T', F⟩, rfl, ⟨hG3.le (h4.trans h5), hgood, hGS.hn, hGS.hr, hrT.le (h4.trans h5), fun t ht => ⟨(hTr3 t ht).1.le (h4.trans h5), (hTr3 t ht).2⟩, by show T'.length = G.length; omega, ?_, by show F.length = G.length; omega, hFs2⟩, rfl, hGn, ?_, rfl⟩⟩ ?_
    ·show Row μ5 _ 2 F.length _
     rw [hFl]; exact hrF
    ·show T'.map (·.2) = (List.range G.length).map (ofT w.T)
     rw [hTm, hn]
    ·refine (Split.ent' (K := [blk p 46 [v', vn, va], own 3 1 va n (askV n noAsk), blk b33 43 [.pointer (some ⟨p, 0, none⟩), tv, .int .i64 w.S.ha, .int .i64 w.S.pe, .int .i64 w.S.mo, .int .u32 (w.S.seed.toNat : Nat), .slice (some ⟨b27, 0, none⟩) n n, vl, vm], own 4 1 vl n (bcn n fun _ => false), own 4 1 vm n (bcn n fun _ => false), ro μ5]) (by repeat (first | exact Split.nil | (apply Split.cons; (repeat (first | with_reducible exact Take.here | apply Take.there)))))).trans (gA_close.trans ?_)
     refine (Split.ent' (K := [blk b33 43 [.pointer (some ⟨p, 0, none⟩), tv, .int .i64 w.S.ha, .int .i64 w.S.pe, .int .i64 w.S.mo, .int .u32 (w.S.seed.toNat : Nat), .slice (some ⟨b27, 0, none⟩) n n, vl, vm], gA p v' vn n noAsk, own 4 1 vl n (bcn n fun _ => false), own 4 1 vm n (bcn n fun _ => false), ro μ5]) (by repeat (first | exact Split.nil | (apply Split.cons; (repeat (first | with_reducible exact Take.here | apply Take.there)))))).trans ?_
     subst hn
     exact HW.close (W := ⟨b33, p, v', vn, tv, .slice (some ⟨b27, 0, none⟩) G.length G.length, w.S, G, T', F⟩) (s := st00)
theorem of_spec (w : Wld) (μ : PH) (h : w.Ok μ) (mo : Nat) (hmo : mo ≤ 10000) :
    Spec Tryz.prog 5 [.agg w.cells.toArray, .int .i64 (mo : Nat)] [ro μ] (fun r L => ∃ μ', Le μ μ' ∧
      ((¬ chkFrom 0 (nums (w.G.take (min w.G.length mo))) = 0 ∧ r = .pointer none ∧ L = [ro μ']) ∨
       ∃ W : HW, r = .pointer (some ⟨W.p, 0, none⟩) ∧ W.Ok μ' ∧ W.G = w.G.take (min w.G.length mo) ∧ W.n = min w.G.length mo ∧ W.T.map (·.2) = (List.range W.n).map (ofT w.T) ∧ L = [W.A st00, ro μ'])) :=
  (of_specC w μ h mo hmo).mono fun _ _ ⟨μ', h1, h2⟩ => ⟨μ', h1, h2.imp id And.right⟩
end SX
namespace SX
open Go Go.Proofs
/-- the virtual ancestor, of graph and trees alone -/
def virtG (g : List (List Int)) (ts : List (List En)) (a b limit : Int) : List En × Bool × Int × Int :=
  if askedV g.length a b ≠ 0 then ([], false, 0, askedV g.length a b) else
  match vall (fun x y => sidesA g x [y]) (fun c => (ts[c.toNat]?).getD []) VM [] (min (max limit 0) 4096).toNat [a] b with
  | (none, _) => ([], false, 0, 12)
  | (some (t, ok), left) => (t, ok, (((min (max limit 0) 4096).toNat - left : Nat) : Int), 0)
theorem vt_map (W : HW) : VT W = fun c => ((W.T.map (·.2))[c.toNat]?).getD [] := by
  funext c
  unfold VT treeOf
  rw [List.getElem?_map]
  cases W.T[c.toNat]? <;> rfl
theorem virt_of {W : HW} {g : List (List Int)} {ts : List (List En)} (hg : nums W.G = g) (ht : W.T.map (·.2) = ts) (a b limit : Int) : virtV W a b limit = virtG g ts a b limit := by
  subst hg ht
  unfold virtV virtG VS
  rw [vt_map, List.length_map]
  rfl
abbrev xG : List (List Int) := [[], [0], [0], [1, 2], [2, 1]]
abbrev xp1 : List En := [(⟨#[112]⟩, 1)]
abbrev xp2 : List En := [(⟨#[112]⟩, 2)]
abbrev xpq : List En := [(⟨#[112]⟩, 1), (⟨#[113]⟩, 3)]
abbrev xT : List (List En) := [xp1, xp2, xpq, xp1, xp2]
theorem x_good : chkFrom 0 xG = 0 ∧ goodE xp1 = xp1 ∧ goodE xp2 = xp2 ∧ goodE xpq = xpq := by decide +kernel
theorem uni_lit {xs ys : List ByteArray} (hp : ys.Pairwise fun a b => strLt a b = true) (h1 : xs.all (fun q => ys.any fun p => decide (q = p)) = true) (h2 : ys.all (fun q => xs.any fun p => decide (q = p)) = true) : uniS xs = ys := rise_ext (uniS_rises _) hp fun q => by
  have key : ∀ {us ws : List ByteArray}, us.all (fun q => ws.any fun p => decide (q = p)) = true → q ∈ us → q ∈ ws := fun {us ws} h hq => by
    obtain ⟨p, hp, he⟩ := List.any_eq_true.1 (List.all_eq_true.1 h q hq)
    rw [of_decide_eq_true he]; exact hp
  rw [uniS_mem]
  exact ⟨key h1, key h2⟩
theorem rises_one (p : ByteArray) (b : Int) : Rises [(p, b)] := List.pairwise_singleton _ _
theorem x_vm : VM xp1 xp2 xpq = [(⟨#[112]⟩, 2), (⟨#[113]⟩, 3)] := by
  have e : pathsE xp1 xp2 xpq = [⟨#[112]⟩, ⟨#[113]⟩] := uni_lit (by decide +kernel) (by decide +kernel) (by decide +kernel)
  unfold VM
  rw [rowsB_L (rises_one _ _) (rises_one _ _) (show Rises xpq from by unfold Rises; decide +kernel), e]
  decide +kernel
theorem x_vall : vall (fun x y => sidesA xG x [y]) (fun c => (xT[c.toNat]?).getD []) VM [] 9 [3] 4 = (some (VM xp1 xp2 xpq, true), 7) := by
  kernel_rfl
theorem x_vall1 : (vall (fun x y => sidesA xG x [y]) (fun c => (xT[c.toNat]?).getD []) VM [] 1 [3] 4).1 = none := by
  kernel_rfl
theorem x_virt : virtG xG xT 3 4 9 = ([(⟨#[112]⟩, 2), (⟨#[113]⟩, 3)], true, 2, 0) := by
  unfold virtG
  rw [if_neg (by decide), show (min (max (9 : Int) 0) 4096).toNat = 9 from rfl, x_vall, x_vm]
  rfl
theorem x_virt1 : virtG xG xT 3 4 1 = ([], false, 0, 12) := by
  unfold virtG
  have h := x_vall1
  rw [if_neg (by decide), show (min (max (1 : Int) 0) 4096).toNat = 1 from rfl]
  generalize vall (fun x y => sidesA xG x [y]) (fun c => (xT[c.toNat]?).getD []) VM [] 1 [3] 4 = q at h
  obtain ⟨q1, q2⟩ := q
  dsimp only at h
  subst h; rfl
end SX
namespace SX
open Go Go.Proofs
set_option maxHeartbeats 4000000 in
theorem crossed_spec (μ : PH) : Spec Tryz.prog 13 [] [ro μ] (fun r L => ∃ (W : HW) (μ' : PH), Le μ μ' ∧ r = .pointer (some ⟨W.p, 0, none⟩) ∧ W.Ok μ' ∧ nums W.G = xG ∧ W.T.map (·.2) = xT ∧ W.n = 5 ∧ L = [W.A st00, ro μ']) := by
 refine Spec.of 24 Tryz.func13 rfl rfl rfl ?_
 refine swp_seq ?_
 refine swp_region ?_
 refine s_pu (pu_assign rfl) ?_
 refine swl_sub _ .nil ?_
 refine swl_nil ?_
 refine then_n ?_
 refine swp_seq ?_
 refine swp_region ?_
 refine s_pu (pu_bld (qs := [(0, _), (1, _)]) rfl) ?_
 refine s_ef (ef_bldS (qs := [(0, _)]) rfl rfl rfl) ?_
 intro b5
 refine s_pu (pu_bld (qs := [(0, _), (1, _)]) rfl) ?_
 refine s_ef (ef_bldS (qs := [(0, _)]) rfl rfl rfl) ?_
 intro b7
 refine s_pu (pu_bld (qs := [(0, _), (1, _)]) rfl) ?_
 refine s_pu (pu_bld (qs := [(0, _), (1, _)]) rfl) ?_
 refine s_ef (ef_bldS (qs := [(0, _), (1, _)]) rfl rfl rfl) ?_
 intro b10
 refine s_pu (pu_assign rfl) ?_
 refine s_pu (pu_assign rfl) ?_
 refine s_pu (pu_assign rfl) ?_
 refine swl_sub _ (.cons (t := 1) rfl (.cons (t := 2) rfl (.cons (t := 3) rfl .nil))) ?_
 refine swl_nil ?_
 refine then_n ?_
 refine swp_seq ?_
 refine swp_region ?_
 refine s_ef (ef_bldS (qs := [(0, _)]) rfl rfl rfl) ?_
 intro b11
 refine s_ef (ef_bldS (qs := [(0, _)]) rfl rfl rfl) ?_
 intro b12
 refine s_ef (ef_bldS (qs := [(0, _), (1, _)]) rfl rfl rfl) ?_
 intro b13
 refine s_ef (ef_bldS (qs := [(0, _), (1, _)]) rfl rfl rfl) ?_
 intro b14
 refine s_ef (ef_bldS (qs := [(0, _), (1, _), (2, _), (3, _), (4, _)]) rfl rfl rfl) ?_
 intro b15
 refine s_pu (pu_move rfl) ?_
 refine s_pu (pu_move rfl) ?_
 refine s_pu (pu_move rfl) ?_
 refine s_pu (pu_move rfl) ?_
 refine s_pu (pu_move rfl) ?_
 refine s_ef (ef_bldS (qs := [(0, _), (1, _), (2, _), (3, _), (4, _)]) rfl rfl rfl) ?_
 intro b21
 refine s_pu (pu_bld (qs := [(0, _), (1, _)]) rfl) ?_
 refine swl_share (b := b5) (μ := μ) (by repeat (first | exact Split.nil | (apply Split.cons; (repeat (first | with_reducible exact Take.here | apply Take.there))))) fun μ1 h1 k5 => ?_
 refine swl_share (b := b7) (μ := μ1) (by repeat (first | exact Split.nil | (apply Split.cons; (repeat (first | with_reducible exact Take.here | apply Take.there))))) fun μ2 h2 k7 => ?_
 refine swl_share (b := b10) (μ := μ2) (by repeat (first | exact Split.nil | (apply Split.cons; (repeat (first | with_reducible exact Take.here | apply Take.there))))) fun μ3 h3 k10 => ?_
 refine swl_share (b := b11) (μ := μ3) (by repeat (first | exact Split.nil | (apply Split.cons; (repeat (first | with_reducible exact Take.here | apply Take.there))))) fun μ4 h4 k11 => ?_
 refine swl_share (b := b12) (μ := μ4) (by repeat (first | exact Split.nil | (apply Split.cons; (repeat (first | with_reducible exact Take.here | apply Take.there))))) fun μ5 h5 k12 => ?_
 refine swl_share (b := b13) (μ := μ5) (by repeat (first | exact Split.nil | (apply Split.cons; (repeat (first | with_reducible exact Take.here | apply Take.there))))) fun μ6 h6 k13 => ?_
 refine swl_share (b := b14) (μ := μ6) (by repeat (first | exact Split.nil | (apply Split.cons; (repeat (first | with_reducible exact Take.here | apply Take.there))))) fun μ7 h7 k14 => ?_
 refine swl_share (b := b15) (μ := μ7) (by repeat (first | exact Split.nil | (apply Split.cons; (repeat (first | with_reducible exact Take.here | apply Take.there))))) fun μ8 h8 k15 => ?_
 refine swl_share (b := b21) (μ := μ8) (by repeat (first | exact Split.nil | (apply Split.cons; (repeat (first | with_reducible exact Take.here | apply Take.there))))) fun μ9 h9 k21 => ?_
 have l8 := h9
 have l7 := h8.trans l8
 have l6 := h7.trans l7
 have l5 := h6.trans l6
 have l4 := h5.trans l5
 have l3 := h4.trans l4
 have l2 := h3.trans l3
 have l1 := h2.trans l2
 have l0 := h1.trans l1
 have p1 : Row μ9 (.slice (some ⟨b5, 0, none⟩) 1 1) 2 xp1.length (ens xp1) := (row_of_blk k5 rfl (by decide)).le l1
 have p2 : Row μ9 (.slice (some ⟨b7, 0, none⟩) 1 1) 2 xp2.length (ens xp2) := (row_of_blk k7 rfl (by decide)).le l2
 have pq : Row μ9 (.slice (some ⟨b10, 0, none⟩) 2 2) 2 xpq.length (ens xpq) := (row_of_blk k10 rfl (by decide)).le l3
 have r1 : Row μ9 (.slice (some ⟨b11, 0, none⟩) 1 1) 1 1 ([0].flatMap (icsk .i64)) := (row_of_blk (n := 1) (l := 1) (cs := [0].flatMap (icsk .i64)) k11 (by rfl) (by decide)).le l4
 have r2 : Row μ9 (.slice (some ⟨b12, 0, none⟩) 1 1) 1 1 ([0].flatMap (icsk .i64)) := (row_of_blk (n := 1) (l := 1) (cs := [0].flatMap (icsk .i64)) k12 (by rfl) (by decide)).le l5
 have r3 : Row μ9 (.slice (some ⟨b13, 0, none⟩) 2 2) 1 2 ([1, 2].flatMap (icsk .i64)) := (row_of_blk (n := 1) (l := 2) (cs := [1, 2].flatMap (icsk .i64)) k13 (by rfl) (by decide)).le l6
 have r4 : Row μ9 (.slice (some ⟨b14, 0, none⟩) 2 2) 1 2 ([2, 1].flatMap (icsk .i64)) := (row_of_blk (n := 1) (l := 2) (cs := [2, 1].flatMap (icsk .i64)) k14 (by rfl) (by decide)).le l7
 have hG : Graph μ9 (.slice (some ⟨b15, 0, none⟩) 5 5) [(.slice none 0 0, []), (.slice (some ⟨b11, 0, none⟩) 1 1, [0]), (.slice (some ⟨b12, 0, none⟩) 1 1, [0]), (.slice (some ⟨b13, 0, none⟩) 2 2, [1, 2]), (.slice (some ⟨b14, 0, none⟩) 2 2, [2, 1])] := by
  refine ⟨(row_of_blk k15 (by rfl) (by decide)).le l8, fun x hx => ?_⟩
  rcases List.mem_cons.1 hx with rfl | hx
  ·exact Row.nil _ _
  rcases List.mem_cons.1 hx with rfl | hx
  ·exact r1
  rcases List.mem_cons.1 hx with rfl | hx
  ·exact r2
  rcases List.mem_cons.1 hx with rfl | hx
  ·exact r3
  obtain rfl := List.mem_singleton.1 hx
  exact r4
 have u1 : U32s xp1 := fun e he => by rw [List.mem_singleton.1 he]; unfold U32; dsimp only; omega
 have u2 : U32s xp2 := fun e he => by rw [List.mem_singleton.1 he]; unfold U32; dsimp only; omega
 have uq : U32s xpq := fun e he => by
  rcases List.mem_cons.1 he with rfl | he
  ·unfold U32; dsimp only; omega
  ·rw [List.mem_singleton.1 he]; unfold U32; dsimp only; omega
 obtain ⟨w, hw, hwn, hwt, hwG, hwc⟩ : ∃ w : Wld, w.Ok μ9 ∧ nums w.G = xG ∧ (List.range 5).map (ofT w.T) = xT ∧ w.G.length = 5 ∧ w.cells = [.slice (some ⟨b15, 0, none⟩) 5 5, .slice (some ⟨b21, 0, none⟩) 5 5, .int .i64 0, .int .i64 0, .int .i64 0, .int .u32 0, .slice none 0 0] := by
  refine ⟨⟨.slice (some ⟨b15, 0, none⟩) 5 5, .slice (some ⟨b21, 0, none⟩) 5 5, .slice none 0 0, ⟨0, 0, 0, 0#32⟩, _, [(.slice (some ⟨b5, 0, none⟩) 1 1, xp1), (.slice (some ⟨b7, 0, none⟩) 1 1, xp2), (.slice (some ⟨b10, 0, none⟩) 2 2, xpq), (.slice (some ⟨b5, 0, none⟩) 1 1, xp1), (.slice (some ⟨b7, 0, none⟩) 1 1, xp2)], []⟩, ⟨hG, row_of_blk k21 (by rfl) (by decide), fun t ht => ?_, Row.nil _ _⟩, rfl, ?_, rfl, rfl⟩
  ·rcases List.mem_cons.1 ht with rfl | ht
   ·exact ⟨p1, u1⟩
   rcases List.mem_cons.1 ht with rfl | ht
   ·exact ⟨p2, u2⟩
   rcases List.mem_cons.1 ht with rfl | ht
   ·exact ⟨pq, uq⟩
   rcases List.mem_cons.1 ht with rfl | ht
   ·exact ⟨p1, u1⟩
   obtain rfl := List.mem_singleton.1 ht
   exact ⟨p2, u2⟩
  ·show [goodE xp1, goodE xp2, goodE xpq, goodE xp1, goodE xp2] = xT
   rw [x_good.2.1, x_good.2.2.1, x_good.2.2.2]
 refine s_ef (ef_fn (of_spec w μ9 hw 9 (by decide)) rfl (by rw [hwc]; rfl) (by repeat (first | exact Split.nil | (apply Split.cons; (repeat (first | with_reducible exact Take.here | apply Take.there)))))) ?_
 rintro v23 L1 ⟨μa, ha, hp⟩
 obtain ⟨W, rfl, hWok, hWG, hWn, hWT, rfl⟩ : ∃ W : HW, v23 = .pointer (some ⟨W.p, 0, none⟩) ∧ W.Ok μa ∧ W.G = w.G.take (min w.G.length 9) ∧ W.n = min w.G.length 9 ∧ W.T.map (·.2) = (List.range W.n).map (ofT w.T) ∧ L1 = [W.A st00, ro μa] := by
  rcases hp with ⟨h, _⟩ | h
  ·rw [show min w.G.length 9 = w.G.length by omega, List.take_length, hwn] at h; exact absurd x_good.1 h
  ·exact h
 have hWn5 : W.n = 5 := by rw [hWn, hwG]; rfl
 have hWx : nums W.G = xG := by rw [hWG, show min w.G.length 9 = w.G.length by omega, List.take_length, hwn]
 rw [hWn5, hwt] at hWT
 refine swl_app ?_
 refine s_pu (pu_assign rfl) ?_
 refine swl_sub _ (.cons (t := 0) rfl .nil) ?_
 refine swl_nil ?_
 refine then_n ?_
 refine swp_ret ?_
 exact done_ret [W.A st00, ro μa] (.tmp rfl .nil) ⟨W, μa, l0.trans ha, rfl, hWok, hWx, hWT, hWn5, rfl⟩ (by repeat (first | exact Split.nil | (apply Split.cons; (repeat (first | with_reducible exact Take.here | apply Take.there)))))
end SX
namespace SX
open Go Go.Proofs
theorem askB0 : AskB 0 st00 := fun _ => Nat.le_refl _
set_option maxHeartbeats 4000000 in
theorem crosses_spec (μ : PH) (hT : RowAt μ 1 0 tabV) : Spec Tryz.prog 4 [] [ro μ] (fun r L => r = .bool true ∧ ∃ μ', Le μ μ' ∧ L = [ro μ']) := by
 refine Spec.of 45 Tryz.func4 rfl rfl rfl ?_
 refine swp_seq ?_
 refine swp_region ?_
 refine s_pu (pu_assign rfl) ?_
 refine swl_sub _ .nil ?_
 refine swl_nil ?_
 refine then_n ?_
 refine swp_seq ?_
 refine swp_region ?_
 refine s_ef (ef_fn (crossed_spec μ) rfl rfl (by repeat (first | exact Split.nil | (apply Split.cons; (repeat (first | with_reducible exact Take.here | apply Take.there)))))) ?_
 rintro v10 L1 ⟨W, μ1, h1, rfl, hW, hg, ht, hn, rfl⟩
 refine swl_app ?_
 refine s_pu (pu_iface rfl) ?_
 refine s_ef (ef_fn (virtual_spec W μ1 hW (by omega) μ1 (Le.refl _) (hT.le h1) st00 0 askB0 (by omega) 3 4 9) rfl rfl (by repeat (first | exact Split.nil | (apply Split.cons; (repeat (first | with_reducible exact Take.here | apply Take.there)))))) ?_
 rintro v12 L1 ⟨tv, s2, μ2, h2, _, _, rfl, rfl⟩
 rw [virt_of hg ht, x_virt]
 refine swl_app ?_
 refine swl_share_own (v := tv) (μ := μ2) (by repeat (first | exact Split.nil | (apply Split.cons; (repeat (first | with_reducible exact Take.here | apply Take.there))))) fun μ3 h3 rt => ?_
 refine s_pu (pu_move rfl) ?_
 first | refine s_pu (pu_extractL rfl) ?_ | refine s_pu (pu_extract rfl rfl) ?_
 first | refine s_pu (pu_extractL rfl) ?_ | refine s_pu (pu_extract rfl rfl) ?_
 first | refine s_pu (pu_extractL rfl) ?_ | refine s_pu (pu_extract rfl rfl) ?_
 first | refine s_pu (pu_extractL rfl) ?_ | refine s_pu (pu_extract rfl rfl) ?_
 refine s_pu (pu_assign rfl) ?_
 refine s_pu (pu_assign rfl) ?_
 refine s_pu (pu_assign rfl) ?_
 refine s_pu (pu_assign rfl) ?_
 refine swl_sub _ (.cons (t := 1) rfl (.cons (t := 2) rfl (.cons (t := 3) rfl (.cons (t := 4) rfl .nil)))) ?_
 refine swl_nil ?_
 refine then_n ?_
 refine swp_seq ?_
 refine swp_region ?_
 refine s_ef (ef_fn (crossed_spec μ3) rfl rfl (by repeat (first | exact Split.nil | (apply Split.cons; (repeat (first | with_reducible exact Take.here | apply Take.there)))))) ?_
 rintro v18 L1 ⟨W', μ4, h4, rfl, hW', hg', ht', hn', rfl⟩
 refine swl_app ?_
 refine s_pu (pu_iface rfl) ?_
 refine s_ef (ef_fn (virtual_spec W' μ4 hW' (by omega) μ4 (Le.refl _) (hT.le (h1.trans (h2.trans (h3.trans h4)))) st00 0 askB0 (by omega) 3 4 1) rfl rfl (by repeat (first | exact Split.nil | (apply Split.cons; (repeat (first | with_reducible exact Take.here | apply Take.there)))))) ?_
 rintro v20 L1 ⟨tv2, s5, μ5, h5, _, _, rfl, rfl⟩
 rw [virt_of hg' ht', x_virt1]
 refine swl_app ?_
 refine s_pu (pu_move rfl) ?_
 first | refine s_pu (pu_extractL rfl) ?_ | refine s_pu (pu_extract rfl rfl) ?_
 first | refine s_pu (pu_extractL rfl) ?_ | refine s_pu (pu_extract rfl rfl) ?_
 first | refine s_pu (pu_extractL rfl) ?_ | refine s_pu (pu_extract rfl rfl) ?_
 first | refine s_pu (pu_extractL rfl) ?_ | refine s_pu (pu_extract rfl rfl) ?_
 refine s_pu (pu_assign rfl) ?_
 refine s_pu (pu_assign rfl) ?_
 refine s_pu (pu_assign rfl) ?_
 refine s_pu (pu_assign rfl) ?_
 refine swl_sub _ (.cons (t := 1) rfl (.cons (t := 2) rfl (.cons (t := 3) rfl (.cons (t := 4) rfl (.cons (t := 8) rfl .nil))))) ?_
 refine swl_nil ?_
 refine then_n ?_
 refine swp_seq ?_
 refine swp_region ?_
 refine s_pu (pu_move rfl) ?_
 refine s_pu (pu_move rfl) ?_
 refine s_on rfl rfl ?_
 refine s_pu (pu_move rfl) ?_
 refine s_on rfl rfl ?_
 refine s_pu (pu_eql rfl rfl) ?_
 first | refine s_pu (pu_pick_t rfl rfl) ?_ | refine s_pu (pu_pick_f rfl rfl) ?_
 refine s_pu (pu_move rfl) ?_
 refine s_on rfl rfl ?_
 refine s_pu (pu_move rfl) ?_
 refine s_on rfl rfl ?_
 refine s_pu (pu_eql rfl rfl) ?_
 first | refine s_pu (pu_pick_t rfl rfl) ?_ | refine s_pu (pu_pick_f rfl rfl) ?_
 refine s_pu (pu_move rfl) ?_
 refine s_on rfl rfl ?_
 refine s_pu (pu_move rfl) ?_
 refine s_on rfl rfl ?_
 refine s_pu (pu_eql rfl rfl) ?_
 first | refine s_pu (pu_pick_t rfl rfl) ?_ | refine s_pu (pu_pick_f rfl rfl) ?_
 refine s_pu (pu_move rfl) ?_
 refine s_on rfl rfl ?_
 refine s_pu (pu_move rfl) ?_
 refine s_on rfl rfl ?_
 refine s_pu (pu_bld (qs := [(0, _), (1, _)]) rfl) ?_
 refine s_on rfl rfl ?_
 refine s_pu (pu_bld (qs := [(0, _), (1, _)]) rfl) ?_
 refine s_on rfl rfl ?_
 refine s_ef (ef_bldS (qs := [(0, _), (1, _)]) rfl rfl rfl) ?_
 intro b42
 refine s_on rfl rfl ?_
 refine s_ef (ef_fn (same_lit μ5 tv b42 [(⟨#[112]⟩, 2), (⟨#[113]⟩, 3)] [(⟨#[112]⟩, 2), (⟨#[113]⟩, 3)] (rt.le (h4.trans h5)) (by decide) (cs := [.string ⟨#[112]⟩, .int .u32 2, .string ⟨#[113]⟩, .int .u32 3]) rfl) rfl rfl (by repeat (first | exact Split.nil | (apply Split.cons; (repeat (first | with_reducible exact Take.here | apply Take.there)))))) ?_
 rintro v43 L1 ⟨rfl, rfl⟩
 refine swl_app ?_
 first | refine s_pu (pu_pick_t rfl rfl) ?_ | refine s_pu (pu_pick_f rfl rfl) ?_
 refine s_pu (pu_assign rfl) ?_
 refine swl_sub _ (.cons (t := 0) rfl .nil) ?_
 refine swl_nil ?_
 refine then_n ?_
 refine swp_ret ?_
 refine done_retE [ro μ5] (.tmp rfl .nil) ⟨?_, μ5, h1.trans (h2.trans (h3.trans (h4.trans h5))), rfl⟩ (Split.ent' (by repeat (first | exact Split.nil | (apply Split.cons; (repeat (first | with_reducible exact Take.here | apply Take.there))))))
 show Value.bool (decide _) = _
 simp
end SX
namespace SX
open Go Go.Proofs
/-- a source, or none -/
def OfIs (w : Wld) (mo : Nat) (μ' : PH) (o : Option Addr) (A : Assn) : Prop :=
  (o = none ∧ ¬ chkFrom 0 (nums (w.G.take (min w.G.length mo))) = 0) ∨
  ∃ W : HW, o = some ⟨W.p, 0, none⟩ ∧ W.Ok μ' ∧ W.G = w.G.take (min w.G.length mo) ∧ W.n = min w.G.length mo ∧ W.T.map (·.2) = (List.range W.n).map (ofT w.T) ∧ A = W.A st00
end SX
namespace SX
open Go Go.Proofs
theorem held_spec (limit : Int) (L0 : List Assn) : Spec Tryz.prog 22 [.int .i64 limit] L0 (fun r L => r = .int .i64 (min (max limit 0) 4096) ∧ L = L0) := by
 refine Spec.of 6 Tryz.func22 rfl rfl rfl ?_
 refine swp_seq ?_
 refine swp_region ?_
 refine s_pu (pu_assign rfl) ?_
 refine swl_sub _ (.cons (t := 0) rfl .nil) ?_
 refine swl_nil ?_
 refine then_n ?_
 refine swp_seq ?_
 refine swp_region ?_
 refine s_pu (pu_move rfl) ?_
 refine s_pu (pu_max2 rfl rfl) ?_
 refine s_pu (pu_min2 rfl rfl) ?_
 refine s_pu (pu_assign rfl) ?_
 refine swl_sub _ (.cons (t := 2) rfl .nil) ?_
 refine swl_nil ?_
 refine then_n ?_
 refine swp_ret ?_
 exact done_retE L0 (.tmp rfl .nil) ⟨rfl, rfl⟩ (Ent.refl _)
theorem HW.at_tree {W : HW} {μ : PH} (h : W.Ok μ) {c : Int} (hc : 0 ≤ c ∧ c < (W.n : Int)) : ∃ b off cap u, W.vT = .slice (some ⟨b, off, none⟩) W.T.length cap ∧ CellAt μ b (off + c.toNat * 1) u ∧ c < (W.T.length : Int) ∧ Row μ u 2 (VT W c).length (ens (VT W c)) ∧ TOk W.U (VT W c) := by
  obtain ⟨b, off, cap, u, h1, h2, h3, _⟩ := tree_row h (c := c.toNat) (by omega)
  exact ⟨b, off, cap, u, h1, h2, by have h9 : W.n = W.G.length := rfl; have h8 := h.hTn; omega, h3, vt_ok h (c := c.toNat) (by omega)⟩
/-- what comes of a question of the document's model -/
def RVOut (W : HW) (m : Nat) (xv : Value) (x : List Int) (R : Option (List En × Bool) × Nat) (steps left : Nat) (μ : PH) (r : Value) (L : List Assn) : Prop :=
  ∃ μ', Le μ μ' ∧ ((R.1 = none ∧ r = .tuple #[.slice none 0 0, .bool false, .bool false] ∧ ∃ a b : Value, L = [own 3 1 xv x.length (ivs x), blk m 81 [W.vg, W.vT, a, b], ro μ']) ∨
    ∃ (t : List En) (ok : Bool) (l : Nat) (tv : Value), R = (some (t, ok), l) ∧ l ≤ left ∧ r = .tuple #[tv, .bool ok, .bool true] ∧ Row μ' tv 2 t.length (ens t) ∧ TOk W.U t ∧ L = [own 3 1 xv x.length (ivs x), blk m 81 [W.vg, W.vT, .int .i64 (l : Nat), .int .i64 ((steps + left - l : Nat) : Int)], ro μ'])
set_option maxHeartbeats 4000000 in
theorem rv_spec (W : HW) (hn : W.n ≤ 10000) (m : Nat) : ∀ (left : Nat) (μ : PH) (_ : W.Ok μ) (steps : Nat) (_ : steps + left ≤ 4096) (xv : Value) (x : List Int) (y : Int) (_ : x.length ≤ 100000),
  Spec Tryz.prog 23 [.pointer (some ⟨m, 0, none⟩), xv, .int .i64 y] [own 3 1 xv x.length (ivs x), blk m 81 [W.vg, W.vT, .int .i64 (left : Nat), .int .i64 (steps : Nat)], ro μ] (RVOut W m xv x (vall (VS W) (VT W) VM [] left x y) steps left μ) := by
 intro left
 refine Nat.strongRecOn left fun left ih => ?_
 intro μ hW steps hst xv x y hxl
 have hgl : (nums W.G).length = W.n := List.length_map _
 refine Spec.of 106 Tryz.func23 rfl rfl rfl ?_
 refine swp_seq ?_
 refine swp_region ?_
 refine s_pu (pu_assign rfl) ?_
 refine s_pu (pu_assign rfl) ?_
 refine s_pu (pu_assign rfl) ?_
 refine swl_sub _ (.cons (t := 0) rfl (.cons (t := 1) rfl (.cons (t := 2) rfl .nil))) ?_
 refine swl_nil ?_
 refine then_n ?_
 refine swp_seq ?_
 refine swp_seq ?_
 refine swp_region ?_
 refine s_pu (pu_move rfl) ?_
 first | refine s_pu (pu_nilCheck rfl) ?_ | refine s_pu (pu_nilCheck_fn rfl) ?_ | refine s_pu (pu_nilCheck_if rfl) ?_
 first | refine s_pu (pu_fieldAddr0 rfl) ?_ | refine s_pu (pu_fieldAddr rfl) ?_
 refine s_rd (rd_load rfl rfl) ?_
 refine s_pu (pu_eql rfl rfl) ?_
 refine swl_sub _ (.cons (t := 0) rfl (.cons (t := 1) rfl (.cons (t := 2) rfl (.cons (t := 21) rfl .nil)))) ?_
 refine swl_nil ?_
 refine then_n ?_
 refine swp_cond (b := _) rfl (fun h21 => ?_) (fun h21 => ?_)
 ·skip
  refine swp_seq ?_
  refine swp_region ?_
  refine s_pu (pu_assign rfl) ?_
  refine s_pu (pu_assign rfl) ?_
  refine s_pu (pu_assign rfl) ?_
  refine swl_sub _ (.cons (t := 6) rfl (.cons (t := 7) rfl (.cons (t := 8) rfl .nil))) ?_
  refine swl_nil ?_
  refine then_n ?_
  refine swp_ret ?_
  refine then_r ?_
  have h0 : left = 0 := by have := of_decide_eq_true h21; omega
  refine done_ret [own 3 1 xv x.length (ivs x), blk m 81 [W.vg, W.vT, .int .i64 (left : Nat), .int .i64 (steps : Nat)], ro μ] (.tmp rfl (.tmp rfl (.tmp rfl .nil))) ⟨μ, Le.refl _, .inl ⟨by rw [vall_eq, if_pos h0], rfl, _, _, rfl⟩⟩ (by repeat (first | exact Split.nil | (apply Split.cons; (repeat (first | with_reducible exact Take.here | apply Take.there)))))
 ·skip
  have h0 : left ≠ 0 := by have := of_decide_eq_false h21; omega
  have hv0 := vall_eq (VS W) (VT W) VM [] left x y
  rw [if_neg h0] at hv0
  refine swp_skip ?_
  refine then_n ?_
  refine swp_seq ?_
  refine swp_region ?_
  refine s_pu (pu_move rfl) ?_
  first | refine s_pu (pu_nilCheck rfl) ?_ | refine s_pu (pu_nilCheck_fn rfl) ?_ | refine s_pu (pu_nilCheck_if rfl) ?_
  first | refine s_pu (pu_fieldAddr0 rfl) ?_ | refine s_pu (pu_fieldAddr rfl) ?_
  refine s_rd (rd_load rfl rfl) ?_
  refine s_pu (pu_sub_as ((left - 1 : Nat) : Int) rfl rfl (by omega) (by omega) (by omega)) ?_
  first | refine s_pu (pu_nilCheck rfl) ?_ | refine s_pu (pu_nilCheck_fn rfl) ?_ | refine s_pu (pu_nilCheck_if rfl) ?_
  first | refine s_pu (pu_fieldAddr0 rfl) ?_ | refine s_pu (pu_fieldAddr rfl) ?_
  refine s_ef0 (ef_store rfl rfl rfl) ?_
  refine swl_sub _ (.cons (t := 0) rfl (.cons (t := 1) rfl (.cons (t := 2) rfl .nil))) ?_
  refine swl_nil ?_
  refine then_n ?_
  refine swp_seq ?_
  refine swp_region ?_
  refine s_pu (pu_move rfl) ?_
  first | refine s_pu (pu_nilCheck rfl) ?_ | refine s_pu (pu_nilCheck_fn rfl) ?_ | refine s_pu (pu_nilCheck_if rfl) ?_
  first | refine s_pu (pu_fieldAddr0 rfl) ?_ | refine s_pu (pu_fieldAddr rfl) ?_
  refine s_rd (rd_load rfl rfl) ?_
  refine s_pu (pu_add_as ((steps + 1 : Nat) : Int) rfl rfl (by omega) (by omega) (by omega)) ?_
  first | refine s_pu (pu_nilCheck rfl) ?_ | refine s_pu (pu_nilCheck_fn rfl) ?_ | refine s_pu (pu_nilCheck_if rfl) ?_
  first | refine s_pu (pu_fieldAddr0 rfl) ?_ | refine s_pu (pu_fieldAddr rfl) ?_
  refine s_ef0 (ef_store rfl rfl rfl) ?_
  refine swl_sub _ (.cons (t := 0) rfl (.cons (t := 1) rfl (.cons (t := 2) rfl .nil))) ?_
  refine swl_nil ?_
  refine then_n ?_
  refine swp_seq ?_
  refine swp_region ?_
  refine s_pu (pu_move rfl) ?_
  first | refine s_pu (pu_nilCheck rfl) ?_ | refine s_pu (pu_nilCheck_fn rfl) ?_ | refine s_pu (pu_nilCheck_if rfl) ?_
  first | refine s_pu (pu_fieldAddr0 rfl) ?_ | refine s_pu (pu_fieldAddr rfl) ?_
  refine s_rd (rd_load rfl rfl) ?_
  refine s_pu (pu_move rfl) ?_
  refine s_pu (pu_move rfl) ?_
  refine s_ef (ef_bldS (qs := [(0, _)]) rfl rfl rfl) ?_
  intro b43
  refine swl_share (b := b43) (μ := μ) (by repeat (first | exact Split.nil | (apply Split.cons; (repeat (first | with_reducible exact Take.here | apply Take.there))))) fun μ1 h1 k43 => ?_
  have r43 : Row μ1 (.slice (some ⟨b43, 0, none⟩) 1 1) 1 1 (ivs [y]) := row_of_blk (n := 1) (l := 1) (cs := [y].flatMap (icsk .i64)) k43 (by rfl) (by decide)
  refine swl_lend_own (v := xv) (μ := μ1) (by repeat (first | exact Split.nil | (apply Split.cons; (repeat (first | with_reducible exact Take.here | apply Take.there))))) fun μ2 h2 rx hback => ?_
  refine s_ef (ef_fn (rsides_spec μ2 W.vg xv (.slice (some ⟨b43, 0, none⟩) 1 1) W.G x [y] (hW.hG.le (h1.trans h2)) (by have := hW.hn; omega) hW.hg rx (r43.le h2)) rfl rfl (by repeat (first | exact Split.nil | (apply Split.cons; (repeat (first | with_reducible exact Take.here | apply Take.there)))))) ?_
  rintro v44 L1 ⟨lv, rfl, rfl⟩
  refine swl_app ?_
  obtain ⟨μ3, h3, hb⟩ := hback μ2 (Le.refl _)
  refine swl_ent (Split.ent' (K := [ro μ2, own 3 1 lv (sidesA (nums W.G) x [y]).length (ivs (sidesA (nums W.G) x [y])), blk m 81 [W.vg, W.vT, .int .i64 ((left - 1 : Nat) : Int), .int .i64 ((steps + 1 : Nat) : Int)]]) (by repeat (first | exact Split.nil | (apply Split.cons; (repeat (first | with_reducible exact Take.here | apply Take.there)))))) ?_
  refine swl_ent (hb _) ?_
  have hin : ∀ c ∈ sidesA (nums W.G) x [y], 0 ≤ c ∧ c < (W.n : Int) := fun c hc => by rw [← hgl]; exact sidesA_in hc
  have hll : (sidesA (nums W.G) x [y]).length ≤ W.n := by rw [← hgl]; exact sidesA_le _ _ _
  rw [show VS W x y = sidesA (nums W.G) x [y] from rfl] at hv0
  generalize sidesA (nums W.G) x [y] = ls at *
  refine swl_share_own (v := lv) (μ := μ3) (by repeat (first | exact Split.nil | (apply Split.cons; (repeat (first | with_reducible exact Take.here | apply Take.there))))) fun μ4 h4 rl => ?_
  have l4 : Le μ μ4 := h1.trans (h3.trans h4)
  have hW4 := hW.le l4
  refine s_pu (pu_move rfl) ?_
  first | refine s_pu (pu_extractL rfl) ?_ | refine s_pu (pu_extract rfl rfl) ?_
  first | refine s_pu (pu_extractL rfl) ?_ | refine s_pu (pu_extract rfl rfl) ?_
  refine s_pu (pu_assign rfl) ?_
  refine s_pu (pu_assign rfl) ?_
  refine swl_sub _ (.cons (t := 0) rfl (.cons (t := 9) rfl .nil)) ?_
  refine swl_nil ?_
  refine then_n ?_
  refine swp_seq ?_
  refine swp_seq ?_
  refine swp_region ?_
  refine s_pu (pu_move rfl) ?_
  refine s_pu (pu_len_row rl rfl) ?_
  refine s_pu (pu_eql rfl rfl) ?_
  refine swl_sub _ (.cons (t := 0) rfl (.cons (t := 9) rfl (.cons (t := 49) rfl .nil))) ?_
  refine swl_nil ?_
  refine then_n ?_
  refine swp_cond (b := _) rfl (fun h49 => ?_) (fun h49 => ?_)
  ·skip
   obtain rfl : ls = [] := List.eq_nil_of_length_eq_zero (by have := of_decide_eq_true h49; omega)
   refine swp_seq ?_
   refine swp_region ?_
   refine s_pu (pu_assign rfl) ?_
   refine s_pu (pu_assign rfl) ?_
   refine s_pu (pu_assign rfl) ?_
   refine swl_sub _ (.cons (t := 6) rfl (.cons (t := 7) rfl (.cons (t := 8) rfl .nil))) ?_
   refine swl_nil ?_
   refine then_n ?_
   refine swp_ret ?_
   refine then_r ?_
   refine done_ret [own 3 1 xv x.length (ivs x), blk m 81 [W.vg, W.vT, .int .i64 ((left - 1 : Nat) : Int), .int .i64 ((steps + 1 : Nat) : Int)], ro μ4] (.tmp rfl (.tmp rfl (.tmp rfl .nil))) ⟨μ4, l4, .inr ⟨[], false, left - 1, _, hv0, by omega, rfl, Row.nil _ _, TOk.nil _, ?_⟩⟩ (by repeat (first | exact Split.nil | (apply Split.cons; (repeat (first | with_reducible exact Take.here | apply Take.there)))))
   rw [show steps + left - (left - 1) = steps + 1 by omega]
  ·skip
   obtain ⟨b, l', rfl⟩ : ∃ b l', ls = b :: l' := by
    cases ls with
    | nil => cases h49
    | cons b l' => exact ⟨b, l', rfl⟩
   obtain ⟨pb, po, pc, hpv, hpc⟩ := rl.at_ (i := 0) rfl
   obtain ⟨tb, to, tc, u, hTv, hTc, hTl, hTr, hTO⟩ := HW.at_tree hW4 (hin b List.mem_cons_self)
   have hb0 := hin b List.mem_cons_self
   dsimp only at hv0
   generalize hR : vloop (VT W) VM (vall (VS W) (VT W) VM []) l' [b] (VT W b) (left - 1) = R at hv0
   refine swp_skip ?_
   refine then_n ?_
   refine swp_seq ?_
   refine swp_region ?_
   refine s_pu (pu_move rfl) ?_
   refine s_pu (pu_indexAddr (po + 0 * 1) (congrArg some hpv) rfl (by omega) (by simp only [List.length_cons]; omega) rfl) ?_
   refine s_rd (rd_ro rfl hpc) ?_
   refine s_ef (ef_bldS (qs := [(0, _)]) rfl rfl rfl) ?_
   intro b53
   refine s_pu (pu_assign rfl) ?_
   refine swl_sub _ (.cons (t := 0) rfl (.cons (t := 9) rfl (.cons (t := 11) rfl .nil))) ?_
   refine swl_nil ?_
   refine then_n ?_
   refine swp_seq ?_
   refine swp_draw [3, 6, 8] _ [] (by simp only [List.append_nil]; exact Ent.refl _) (by kernel_rfl) ?_
   refine d_pu 0 rfl (pu_move rfl) (by kernel_rfl) (by kernel_rfl) (by kernel_rfl) ?_
   first | refine d_pu 1 rfl (pu_nilCheck rfl) (by kernel_rfl) (by kernel_rfl) (by kernel_rfl) ?_ | refine d_pu 1 rfl (pu_nilCheck_fn rfl) (by kernel_rfl) (by kernel_rfl) (by kernel_rfl) ?_ | refine d_pu 1 rfl (pu_nilCheck_if rfl) (by kernel_rfl) (by kernel_rfl) (by kernel_rfl) ?_
   first | refine d_pu 2 rfl (pu_fieldAddr0 rfl) (by kernel_rfl) (by kernel_rfl) (by kernel_rfl) ?_ | refine d_pu 2 rfl (pu_fieldAddr rfl) (by kernel_rfl) (by kernel_rfl) (by kernel_rfl) ?_
   refine d_rd 3 rfl (rd_load rfl rfl) rfl (by kernel_rfl) (by kernel_rfl) (by kernel_rfl) ?_
   refine d_pu 4 rfl (pu_move rfl) (by kernel_rfl) (by kernel_rfl) (by kernel_rfl) ?_
   refine d_pu 5 rfl (pu_indexAddr (po + 0 * 1) (congrArg some hpv) rfl (by omega) (by simp only [List.length_cons]; omega) rfl) (by kernel_rfl) (by kernel_rfl) (by kernel_rfl) ?_
   refine d_rd 6 rfl (rd_ro rfl hpc) rfl (by kernel_rfl) (by kernel_rfl) (by kernel_rfl) ?_
   refine d_pu 7 rfl (pu_indexAddr (to + b.toNat * 1) (congrArg some hTv) rfl (by omega) (by omega) rfl) (by kernel_rfl) (by kernel_rfl) (by kernel_rfl) ?_
   refine d_rd 8 rfl (rd_ro rfl hTc) rfl (by kernel_rfl) (by kernel_rfl) (by kernel_rfl) ?_
   refine d_pu 9 rfl (pu_assign rfl) (by kernel_rfl) (by kernel_rfl) (by kernel_rfl) ?_
   refine d_sub _ (.cons (t := 0) rfl (.cons (t := 9) rfl (.cons (t := 11) rfl (.cons (t := 12) rfl .nil)))) ?_
   first | refine d_nilt (by kernel_rfl) ?_ | refine d_nilf (by kernel_rfl) ?_
   refine then_n ?_
   refine swp_seq ?_
   refine swp_seq ?_
   refine swp_region ?_
   refine s_pu (pu_assign rfl) ?_
   refine swl_sub _ (.cons (t := 0) rfl (.cons (t := 9) rfl (.cons (t := 11) rfl (.cons (t := 12) rfl (.cons (t := 13) rfl .nil))))) ?_
   refine swl_nil ?_
   refine then_n ?_
   refine swp_block ?_
   refine swp_ent (L' := [own 3 1 (.slice (some ⟨b53, 0, none⟩) 1 1) 1 (ivs [b]), own 3 1 xv x.length (ivs x), blk m 81 [W.vg, W.vT, .int .i64 ((left - 1 : Nat) : Int), .int .i64 ((steps + 1 : Nat) : Int)], ro μ4]) ((Split.ent' (K := [blk b53 3 [.int .i64 b], own 3 1 xv x.length (ivs x), blk m 81 [W.vg, W.vT, .int .i64 ((left - 1 : Nat) : Int), .int .i64 ((steps + 1 : Nat) : Int)], ro μ4]) (by repeat (first | exact Split.nil | (apply Split.cons; (repeat (first | with_reducible exact Take.here | apply Take.there)))))).trans (show Ent (blk b53 3 (ivs [b] ++ []) :: _) _ from own_close rfl rfl (Nat.le_refl _) (by decide))) ?_
   refine swp_loop (ι := Nat) (fun i env L => ∃ (nv tv : Value) (t : List En) (cur : Nat) (μ5 : PH), Sub env [(0, .pointer (some ⟨m, 0, none⟩)), (9, lv), (11, nv), (12, tv), (13, .int .i64 (i : Nat))] ∧ L = [own 3 1 nv i (ivs ((b :: l').take i)), own 3 1 xv x.length (ivs x), blk m 81 [W.vg, W.vT, .int .i64 (cur : Nat), .int .i64 ((steps + left - cur : Nat) : Int)], ro μ5] ∧ Le μ4 μ5 ∧ cur < left ∧ Row μ5 tv 2 t.length (ens t) ∧ TOk W.U t ∧ 1 ≤ i ∧ i ≤ (b :: l').length ∧ vloop (VT W) VM (vall (VS W) (VT W) VM []) ((b :: l').drop i) ((b :: l').take i) t cur = R) (fun i => (b :: l').length - i) 1
    ⟨.slice (some ⟨b53, 0, none⟩) 1 1, u, VT W b, left - 1, μ4, ⟨rfl, rfl, rfl, rfl, rfl, trivial⟩, by rw [show steps + left - (left - 1) = steps + 1 by omega]; rfl, Le.refl _, by omega, hTr, hTO, Nat.le_refl _, by simp only [List.length_cons]; omega, hR⟩ ?_
   rintro i env L ⟨nv, tv, t, cur, μ5, hsub, rfl, h5, hcur, rt, ht, hi1, hi, hinv⟩
   refine swp_sub _ hsub ?_
   clear hsub env
   refine swp_seq ?_
   refine swp_seq ?_
   refine swp_region ?_
   refine s_pu (pu_move rfl) ?_
   refine s_pu (pu_move rfl) ?_
   refine s_pu (pu_len_row (rl.le h5) rfl) ?_
   refine s_pu (pu_lss rfl rfl) ?_
   refine swl_sub _ (.cons (t := 0) rfl (.cons (t := 9) rfl (.cons (t := 11) rfl (.cons (t := 12) rfl (.cons (t := 13) rfl (.cons (t := 66) rfl .nil)))))) ?_
   refine swl_nil ?_
   refine then_n ?_
   refine swp_cond (b := _) rfl (fun h66 => ?_) (fun h66 => ?_)
   ·skip
    have h66' : i < (b :: l').length := by have := of_decide_eq_true h66; omega
    obtain ⟨c, hc⟩ : ∃ c, (b :: l')[i]? = some c := ⟨_, List.getElem?_eq_getElem h66'⟩
    obtain ⟨pb, po, pc, hpv, hpc⟩ := (rl.le h5).at_ hc
    have hcr := hin c (List.mem_of_getElem? hc)
    have hdr : (b :: l').drop i = c :: (b :: l').drop (i + 1) := by rw [List.drop_eq_getElem_cons h66']; congr 1; rw [List.getElem?_eq_getElem h66'] at hc; exact Option.some.inj hc
    have htk : (b :: l').take (i + 1) = (b :: l').take i ++ [c] := by rw [List.take_add_one, hc]; rfl
    have htl : ((b :: l').take i).length = i := List.length_take_of_le hi
    rw [hdr, vloop] at hinv
    refine swp_skip ?_
    refine then_n ?_
    refine swp_seq ?_
    refine swp_block ?_
    refine swp_seq ?_
    refine swp_region ?_
    refine s_pu (pu_move rfl) ?_
    refine s_pu (pu_move rfl) ?_
    refine s_pu (pu_move rfl) ?_
    refine s_pu (pu_move rfl) ?_
    refine s_pu (pu_indexAddr (po + i * 1) (congrArg some hpv) rfl (by omega) (by omega) (by rw [Int.toNat_natCast])) ?_
    refine s_rd (rd_ro rfl hpc) ?_
    have hspec := ih cur hcur μ5 (hW4.le h5) (steps + left - cur) (by omega) nv ((b :: l').take i) c (by rw [htl]; have := hW4.hn; omega)
    rw [htl] at hspec
    refine s_ef (ef_fn hspec rfl rfl (by repeat (first | exact Split.nil | (apply Split.cons; (repeat (first | with_reducible exact Take.here | apply Take.there)))))) ?_
    rintro v76 L1 ⟨μ6, h6, hp⟩
    have hp2 : ∃ (o1 : Value) (o2 o3 : Bool) (a b2 : Value), v76 = .tuple #[o1, .bool o2, .bool o3] ∧ L1 = [own 3 1 nv ((b :: l').take i).length (ivs ((b :: l').take i)), blk m 81 [W.vg, W.vT, a, b2], ro μ6] ∧ ((o3 = false ∧ (vall (VS W) (VT W) VM [] cur ((b :: l').take i) c).1 = none) ∨ (o3 = true ∧ ∃ (t2 : List En) (l2 : Nat), vall (VS W) (VT W) VM [] cur ((b :: l').take i) c = (some (t2, o2), l2) ∧ l2 ≤ cur ∧ Row μ6 o1 2 t2.length (ens t2) ∧ TOk W.U t2 ∧ a = .int .i64 (l2 : Nat) ∧ b2 = .int .i64 ((steps + left - cur + cur - l2 : Nat) : Int))) := by
     rcases hp with ⟨q1, q2, a, b2, q3⟩ | ⟨t2, ok2, l2, tv2, q1, q2, q3, q4, q5, q6⟩
     ·exact ⟨_, false, false, a, b2, q2, q3, .inl ⟨rfl, q1⟩⟩
     ·exact ⟨tv2, ok2, true, _, _, q3, q6, .inr ⟨rfl, t2, l2, q1, q2, q4, q5, rfl, rfl⟩⟩
    clear hp
    obtain ⟨o1, o2, o3, a, b2, rfl, rfl, hp⟩ := hp2
    rw [htl]
    refine swl_app ?_
    refine s_pu (pu_move rfl) ?_
    first | refine s_pu (pu_extractL rfl) ?_ | refine s_pu (pu_extract rfl rfl) ?_
    first | refine s_pu (pu_extractL rfl) ?_ | refine s_pu (pu_extract rfl rfl) ?_
    first | refine s_pu (pu_extractL rfl) ?_ | refine s_pu (pu_extract rfl rfl) ?_
    refine s_pu (pu_assign rfl) ?_
    refine s_pu (pu_assign rfl) ?_
    refine s_pu (pu_assign rfl) ?_
    refine swl_sub _ (.cons (t := 0) rfl (.cons (t := 9) rfl (.cons (t := 11) rfl (.cons (t := 12) rfl (.cons (t := 13) rfl (.cons (t := 14) rfl (.cons (t := 16) rfl .nil))))))) ?_
    refine swl_nil ?_
    refine then_n ?_
    refine swp_seq ?_
    refine swp_seq ?_
    refine swp_region ?_
    refine s_pu (pu_move rfl) ?_
    refine s_pu (pu_not rfl) ?_
    refine swl_sub _ (.cons (t := 0) rfl (.cons (t := 9) rfl (.cons (t := 11) rfl (.cons (t := 12) rfl (.cons (t := 13) rfl (.cons (t := 14) rfl (.cons (t := 81) rfl .nil))))))) ?_
    refine swl_nil ?_
    refine then_n ?_
    refine swp_cond (b := _) rfl (fun h81 => ?_) (fun h81 => ?_)
    ·skip
     have hp' : (vall (VS W) (VT W) VM [] cur ((b :: l').take i) c).1 = none := by
      rcases hp with ⟨_, q⟩ | ⟨rfl, _⟩
      ·exact q
      ·cases h81
     refine swp_seq ?_
     refine swp_region ?_
     refine s_pu (pu_assign rfl) ?_
     refine s_pu (pu_assign rfl) ?_
     refine s_pu (pu_assign rfl) ?_
     refine swl_sub _ (.cons (t := 6) rfl (.cons (t := 7) rfl (.cons (t := 8) rfl .nil))) ?_
     refine swl_nil ?_
     refine then_n ?_
     refine swp_ret ?_
     refine then_r ?_
     refine block_r ?_
     refine then_r ?_
     refine then_r ?_
     refine block_r ?_
     refine then_r ?_
     refine done_ret [own 3 1 xv x.length (ivs x), blk m 81 [W.vg, W.vT, a, b2], ro μ6] (.tmp rfl (.tmp rfl (.tmp rfl .nil))) ⟨μ6, l4.trans (h5.trans h6), .inl ⟨?_, rfl, _, _, rfl⟩⟩ (by repeat (first | exact Split.nil | (apply Split.cons; (repeat (first | with_reducible exact Take.here | apply Take.there)))))
     rw [hv0]
     generalize vall (VS W) (VT W) VM [] cur ((b :: l').take i) c = q at hinv hp'
     obtain ⟨q1, q2⟩ := q
     dsimp only at hp'
     subst hp'
     dsimp only at hinv
     rw [← hinv]
    ·skip
     obtain ⟨t2, l2, q1, q2, q3, q4, rfl, rfl⟩ : ∃ (t2 : List En) (l2 : Nat), vall (VS W) (VT W) VM [] cur ((b :: l').take i) c = (some (t2, o2), l2) ∧ l2 ≤ cur ∧ Row μ6 o1 2 t2.length (ens t2) ∧ TOk W.U t2 ∧ a = .int .i64 (l2 : Nat) ∧ b2 = .int .i64 ((steps + left - cur + cur - l2 : Nat) : Int) := by
      rcases hp with ⟨rfl, _⟩ | ⟨_, q⟩
      ·cases h81
      ·exact q
     clear hp
     rw [q1] at hinv
     dsimp only at hinv
     rw [← htk] at hinv
     have hW6 := hW4.le (h5.trans h6)
     obtain ⟨tb2, to2, tc2, u2, hTv2, hTc2, hTl2, hTr2, hTO2⟩ := HW.at_tree hW6 hcr
     have hU := HW.U_len hW hn
     refine swp_skip ?_
     refine then_n ?_
     refine swp_seq ?_
     refine swp_draw [5, 9, 11] ([blk m 81 [W.vg, W.vT, .int .i64 (l2 : Nat), .int .i64 ((steps + left - cur + cur - l2 : Nat) : Int)], ro μ6]) ([own 3 1 nv i (ivs ((b :: l').take i)), own 3 1 xv x.length (ivs x)]) (Split.ent (by repeat (first | exact Split.nil | (apply Split.cons; (repeat (first | with_reducible exact Take.here | apply Take.there)))))) (by kernel_rfl) ?_
     refine d_pu 0 rfl (pu_move rfl) (by kernel_rfl) (by kernel_rfl) (by kernel_rfl) ?_
     refine d_pu 1 rfl (pu_move rfl) (by kernel_rfl) (by kernel_rfl) (by kernel_rfl) ?_
     refine d_pu 2 rfl (pu_move rfl) (by kernel_rfl) (by kernel_rfl) (by kernel_rfl) ?_
     first | refine d_pu 3 rfl (pu_nilCheck rfl) (by kernel_rfl) (by kernel_rfl) (by kernel_rfl) ?_ | refine d_pu 3 rfl (pu_nilCheck_fn rfl) (by kernel_rfl) (by kernel_rfl) (by kernel_rfl) ?_ | refine d_pu 3 rfl (pu_nilCheck_if rfl) (by kernel_rfl) (by kernel_rfl) (by kernel_rfl) ?_
     first | refine d_pu 4 rfl (pu_fieldAddr0 rfl) (by kernel_rfl) (by kernel_rfl) (by kernel_rfl) ?_ | refine d_pu 4 rfl (pu_fieldAddr rfl) (by kernel_rfl) (by kernel_rfl) (by kernel_rfl) ?_
     refine d_rd 5 rfl (rd_load rfl rfl) rfl (by kernel_rfl) (by kernel_rfl) (by kernel_rfl) ?_
     refine d_pu 6 rfl (pu_move rfl) (by kernel_rfl) (by kernel_rfl) (by kernel_rfl) ?_
     refine d_pu 7 rfl (pu_move rfl) (by kernel_rfl) (by kernel_rfl) (by kernel_rfl) ?_
     refine d_pu 8 rfl (pu_indexAddr (po + i * 1) (congrArg some hpv) rfl (by omega) (by omega) (by rw [Int.toNat_natCast])) (by kernel_rfl) (by kernel_rfl) (by kernel_rfl) ?_
     refine d_rd 9 rfl (rd_ro rfl (hpc.le h6)) rfl (by kernel_rfl) (by kernel_rfl) (by kernel_rfl) ?_
     refine d_pu 10 rfl (pu_indexAddr (to2 + c.toNat * 1) (congrArg some hTv2) rfl (by omega) (by omega) rfl) (by kernel_rfl) (by kernel_rfl) (by kernel_rfl) ?_
     refine d_rd 11 rfl (rd_ro rfl hTc2) rfl (by kernel_rfl) (by kernel_rfl) (by kernel_rfl) ?_
     first | refine d_fint 12 rfl (by kernel_rfl) (by kernel_rfl) (ef_fn (rthree_spec μ6 o1 tv u2 t2 t (VT W c) q3 (rt.le h6) hTr2 ⟨by have := q4.len; omega, by have := ht.len; omega, by have := hTO2.len; omega⟩ ⟨q4.u32, ht.u32, hTO2.u32⟩) rfl rfl (by repeat (first | exact Split.nil | (apply Split.cons; (repeat (first | with_reducible exact Take.here | apply Take.there)))))) ?_ | refine d_finf 12 rfl (by kernel_rfl) (by kernel_rfl) (ef_fn (rthree_spec μ6 o1 tv u2 t2 t (VT W c) q3 (rt.le h6) hTr2 ⟨by have := q4.len; omega, by have := ht.len; omega, by have := hTO2.len; omega⟩ ⟨q4.u32, ht.u32, hTO2.u32⟩) rfl rfl (by repeat (first | exact Split.nil | (apply Split.cons; (repeat (first | with_reducible exact Take.here | apply Take.there)))))) ?_
     rintro v95 L1 ⟨v8, v9, rs, hrs, rfl, rfl⟩
     refine swd_app ?_
     have hVM : outR rs = VM t2 t (VT W c) := by rw [hrs, rows_same q4.good.1 ht.good.1 hTO2.good.1 (Nat.le_refl _)]; rfl
     rw [hVM]
     clear hrs hVM
     refine d_pu 13 rfl (pu_move rfl) (by kernel_rfl) (by kernel_rfl) (by kernel_rfl) ?_
     first | refine d_pu 14 rfl (pu_extractL rfl) (by kernel_rfl) (by kernel_rfl) (by kernel_rfl) ?_ | refine d_pu 14 rfl (pu_extract rfl rfl) (by kernel_rfl) (by kernel_rfl) (by kernel_rfl) ?_
     first | refine d_pu 15 rfl (pu_extractL rfl) (by kernel_rfl) (by kernel_rfl) (by kernel_rfl) ?_ | refine d_pu 15 rfl (pu_extract rfl rfl) (by kernel_rfl) (by kernel_rfl) (by kernel_rfl) ?_
     refine d_pu 16 rfl (pu_assign rfl) (by kernel_rfl) (by kernel_rfl) (by kernel_rfl) ?_
     refine d_sub _ (.cons (t := 0) rfl (.cons (t := 9) rfl (.cons (t := 11) rfl (.cons (t := 12) rfl (.cons (t := 13) rfl .nil))))) ?_
     first | refine d_nilt (by kernel_rfl) ?_ | refine d_nilf (by kernel_rfl) ?_
     refine then_n ?_
     refine swp_share_own (e := 49) (n := 2) (v := v8) (μ := μ6) (by repeat (first | exact Split.nil | (apply Split.cons; (repeat (first | with_reducible exact Take.here | apply Take.there))))) fun μ7 h7 rt7 => ?_
     refine swp_region ?_
     refine s_pu (pu_move rfl) ?_
     refine s_pu (pu_move rfl) ?_
     refine s_pu (pu_move rfl) ?_
     refine s_pu (pu_indexAddr (po + i * 1) (congrArg some hpv) rfl (by omega) (by omega) (by rw [Int.toNat_natCast])) ?_
     refine s_rd (rd_ro rfl (hpc.le (h6.trans h7))) ?_
     refine s_ef (ef_bldS (qs := [(0, _)]) rfl rfl rfl) ?_
     intro b103
     refine s_ef (ef_append_lit (l := i) (m := 1) rfl rfl (by repeat (first | exact Split.nil | (apply Split.cons; (repeat (first | with_reducible exact Take.here | apply Take.there))))) (by simp only [maxLen]; have := hW4.hn; omega) (by omega)) ?_
     rintro v' hv'
     skip
     refine s_pu (pu_assign rfl) ?_
     refine swl_sub _ (.cons (t := 0) rfl (.cons (t := 9) rfl (.cons (t := 11) rfl (.cons (t := 12) rfl (.cons (t := 13) rfl .nil))))) ?_
     refine swl_nil ?_
     refine block_n ?_
     refine then_n ?_
     refine swp_region ?_
     refine swl_ent (Split.ent' (K := [own 3 1 v' (i + 1) (ivs ((b :: l').take i) ++ [.int .i64 c]), own 3 1 xv x.length (ivs x), blk m 81 [W.vg, W.vT, .int .i64 (l2 : Nat), .int .i64 ((steps + left - cur + cur - l2 : Nat) : Int)], ro μ7]) (by repeat (first | exact Split.nil | (apply Split.cons; (repeat (first | with_reducible exact Take.here | apply Take.there)))))) ?_
     refine s_pu (pu_move rfl) ?_
     refine s_pu (pu_add_as ((i + 1 : Nat) : Int) rfl rfl (by omega) (by omega) (by omega)) ?_
     refine s_pu (pu_assign rfl) ?_
     refine swl_sub _ (.cons (t := 0) rfl (.cons (t := 9) rfl (.cons (t := 11) rfl (.cons (t := 12) rfl (.cons (t := 13) rfl .nil))))) ?_
     refine swl_nil ?_
     refine then_n ⟨i + 1, ⟨_, _, VM t2 t (VT W c), l2, μ7, ⟨rfl, rfl, rfl, rfl, rfl, trivial⟩, ?_, h5.trans (h6.trans h7), by omega, rt7, q4.merge ht hTO2, by omega, by omega, hinv⟩, by show (b :: l').length - (i + 1) < (b :: l').length - i; omega⟩
     rw [htk, show steps + left - cur + cur - l2 = steps + left - l2 by omega, show ivs ((b :: l').take i ++ [c]) = ivs ((b :: l').take i) ++ [.int .i64 c] from List.flatMap_append]
   ·skip
    have h66' := of_decide_eq_false h66
    obtain rfl : i = (b :: l').length := by omega
    rw [List.drop_length, vloop] at hinv
    refine swp_exit ?_
    refine then_x ?_
    refine then_x ?_
    refine block_hit rfl ?_
    refine then_n ?_
    refine swp_seq ?_
    refine swp_region ?_
    refine s_pu (pu_move rfl) ?_
    refine s_pu (pu_assign rfl) ?_
    refine s_pu (pu_assign rfl) ?_
    refine s_pu (pu_assign rfl) ?_
    refine swl_sub _ (.cons (t := 6) rfl (.cons (t := 7) rfl (.cons (t := 8) rfl .nil))) ?_
    refine swl_nil ?_
    refine then_n ?_
    refine swp_ret ?_
    refine done_ret [own 3 1 xv x.length (ivs x), blk m 81 [W.vg, W.vT, .int .i64 (cur : Nat), .int .i64 ((steps + left - cur : Nat) : Int)], ro μ5] (.tmp rfl (.tmp rfl (.tmp rfl .nil))) ⟨μ5, l4.trans h5, .inr ⟨t, true, cur, _, ?_, by omega, rfl, rt, ht, rfl⟩⟩ (by repeat (first | exact Split.nil | (apply Split.cons; (repeat (first | with_reducible exact Take.here | apply Take.there)))))
    rw [hv0, ← hinv]
set_option maxHeartbeats 4000000 in
theorem rvirt_spec (W : HW) (μ : PH) (hW : W.Ok μ) (hn : W.n ≤ 10000) (a b limit : Int) :
  Spec Tryz.prog 7 [W.vg, W.vT, .int .i64 a, .int .i64 b, .int .i64 limit] [ro μ] (fun r L => ∃ tv μ', Le μ μ' ∧ r = .tuple #[tv, .bool (virtV W a b limit).2.1, .int .i64 (virtV W a b limit).2.2.1, .int .i64 (virtV W a b limit).2.2.2] ∧ Row μ' tv 2 (virtV W a b limit).1.length (ens (virtV W a b limit).1) ∧ TOk W.U (virtV W a b limit).1 ∧ L = [ro μ']) := by
 obtain ⟨lim, hlim⟩ : ∃ k : Nat, min (max limit 0) 4096 = (k : Int) := ⟨(min (max limit 0) 4096).toNat, by omega⟩
 have hl4 : lim ≤ 4096 := by omega
 have hlt : (min (max limit 0) 4096).toNat = lim := by omega
 have hask : (askedV W.n a b ≠ 0) ↔ unkB W.n [a, b] = true := by
  unfold askedV unkB
  have := hW.hn
  have h9 : W.n = W.G.length := rfl
  constructor
  ·intro h
   split at h
   ·simp [inR]; omega
   ·exact absurd rfl h
  ·intro h
   rw [if_pos (by simp [inR] at h; omega)]; decide
 refine Spec.of 46 Tryz.func7 rfl rfl rfl ?_
 refine swp_seq ?_
 refine swp_region ?_
 refine s_pu (pu_assign rfl) ?_
 refine s_pu (pu_assign rfl) ?_
 refine s_pu (pu_assign rfl) ?_
 refine s_pu (pu_assign rfl) ?_
 refine swl_sub _ (.cons (t := 0) rfl (.cons (t := 1) rfl (.cons (t := 2) rfl (.cons (t := 3) rfl (.cons (t := 4) rfl .nil))))) ?_
 refine swl_nil ?_
 refine then_n ?_
 refine swp_seq ?_
 refine swp_seq ?_
 refine swp_region ?_
 refine s_pu (pu_move rfl) ?_
 refine s_pu (pu_move rfl) ?_
 refine s_pu (pu_move rfl) ?_
 refine s_ef (ef_bldS (qs := [(0, _), (1, _)]) rfl rfl rfl) ?_
 intro b21
 refine swl_share (b := b21) (μ := μ) (by repeat (first | exact Split.nil | (apply Split.cons; (repeat (first | with_reducible exact Take.here | apply Take.there))))) fun μ1 h1 k21 => ?_
 have r21 : Row μ1 (.slice (some ⟨b21, 0, none⟩) 2 2) 1 2 (ivs [a, b]) := row_of_blk (n := 1) (l := 2) (cs := [a, b].flatMap (icsk .i64)) k21 (by rfl) (by decide)
 refine s_ef (ef_fn (unknown_spec W.vg _ W.n [a, b] [ro μ1] hW.hG.1.sl (Ints.row r21)) rfl rfl (by repeat (first | exact Split.nil | (apply Split.cons; (repeat (first | with_reducible exact Take.here | apply Take.there)))))) ?_
 rintro v22 L1 ⟨rfl, rfl⟩
 refine swl_app ?_
 refine swl_sub _ (.cons (t := 0) rfl (.cons (t := 1) rfl (.cons (t := 2) rfl (.cons (t := 3) rfl (.cons (t := 4) rfl (.cons (t := 22) rfl .nil)))))) ?_
 refine swl_nil ?_
 refine then_n ?_
 refine swp_cond (b := _) rfl (fun h22 => ?_) (fun h22 => ?_)
 ·skip
  refine swp_seq ?_
  refine swp_region ?_
  refine s_pu (pu_assign rfl) ?_
  refine s_pu (pu_assign rfl) ?_
  refine s_pu (pu_assign rfl) ?_
  refine s_pu (pu_assign rfl) ?_
  refine swl_sub _ (.cons (t := 10) rfl (.cons (t := 11) rfl (.cons (t := 12) rfl (.cons (t := 13) rfl .nil)))) ?_
  refine swl_nil ?_
  refine then_n ?_
  refine swp_ret ?_
  refine then_r ?_
  have e : virtV W a b limit = ([], false, 0, 9) := by
   have h := hask.2 h22
   unfold virtV
   rw [if_pos h]
   unfold askedV at h ⊢
   split
   ·rfl
   ·rename_i k; rw [if_neg k] at h; exact absurd rfl h
  rw [e]
  exact done_ret [ro μ1] (.tmp rfl (.tmp rfl (.tmp rfl (.tmp rfl .nil)))) ⟨_, μ1, h1, rfl, Row.nil _ _, TOk.nil _, rfl⟩ (by repeat (first | exact Split.nil | (apply Split.cons; (repeat (first | with_reducible exact Take.here | apply Take.there)))))
 ·skip
  have h0 : ¬ askedV W.n a b ≠ 0 := fun h => by rw [hask.1 h] at h22; cases h22
  have hV : virtV W a b limit = match vall (VS W) (VT W) VM [] lim [a] b with | (none, _) => ([], false, 0, 12) | (some (t, ok), left) => (t, ok, ((lim - left : Nat) : Int), 0) := by
   unfold virtV; rw [if_neg h0, hlt]
   generalize vall (VS W) (VT W) VM [] lim [a] b = q
   obtain ⟨q1, q2⟩ := q
   cases q1 <;> rfl
  obtain ⟨Ag, cg, hvG⟩ := hW.hG.1.sl
  obtain ⟨At, ct, hvT⟩ := hW.hT.sl
  refine swp_skip ?_
  refine then_n ?_
  refine swp_seq ?_
  rw [hvG, hvT]
  refine swp_region ?_
  refine s_pu (pu_move rfl) ?_
  refine s_pu (pu_move rfl) ?_
  refine s_pu (pu_move rfl) ?_
  refine s_ef (ef_fn (held_spec limit []) rfl rfl (by repeat (first | exact Split.nil | (apply Split.cons; (repeat (first | with_reducible exact Take.here | apply Take.there)))))) ?_
  rintro v26 L1 ⟨rfl, rfl⟩
  refine swl_app ?_
  rw [hlim]
  refine s_pu (pu_bld (qs := [(0, _), (1, _), (2, _)]) rfl) ?_
  refine s_ef (ef_box rfl rfl) ?_
  intro b28
  rw [← hvG, ← hvT]
  refine s_pu (pu_assign rfl) ?_
  refine swl_sub _ (.cons (t := 2) rfl (.cons (t := 3) rfl (.cons (t := 14) rfl .nil))) ?_
  refine swl_nil ?_
  refine then_n ?_
  refine swp_seq ?_
  refine swp_region ?_
  refine s_pu (pu_move rfl) ?_
  refine s_pu (pu_move rfl) ?_
  refine s_ef (ef_bldS (qs := [(0, _)]) rfl rfl rfl) ?_
  intro b32
  refine s_pu (pu_move rfl) ?_
  refine swl_ent (L' := [own 3 1 (.slice (some ⟨b32, 0, none⟩) 1 1) [a].length (ivs [a]), blk b28 81 [W.vg, W.vT, .int .i64 (lim : Nat), .int .i64 ((0 : Nat) : Int)], ro μ1]) ((Split.ent' (K := [blk b32 3 [.int .i64 a], blk b28 81 [W.vg, W.vT, .int .i64 (lim : Nat), .int .i64 0], ro μ1]) (by repeat (first | exact Split.nil | (apply Split.cons; (repeat (first | with_reducible exact Take.here | apply Take.there)))))).trans (show Ent (blk b32 3 (ivs [a] ++ []) :: _) _ from own_close rfl rfl (Nat.le_refl _) (by decide))) ?_
  refine s_ef (ef_fn (rv_spec W hn b28 lim μ1 (hW.le h1) 0 (by omega) _ [a] b (by simp)) rfl rfl (by repeat (first | exact Split.nil | (apply Split.cons; (repeat (first | with_reducible exact Take.here | apply Take.there)))))) ?_
  rintro v34 L1 ⟨μ2, h2, hp⟩
  have hp2 : ∃ (o1 : Value) (o2 o3 : Bool) (x1 x2 : Value), v34 = .tuple #[o1, .bool o2, .bool o3] ∧ L1 = [own 3 1 (.slice (some ⟨b32, 0, none⟩) 1 1) [a].length (ivs [a]), blk b28 81 [W.vg, W.vT, x1, x2], ro μ2] ∧ ((o3 = false ∧ (vall (VS W) (VT W) VM [] lim [a] b).1 = none) ∨ (o3 = true ∧ ∃ (t2 : List En) (l2 : Nat), vall (VS W) (VT W) VM [] lim [a] b = (some (t2, o2), l2) ∧ Row μ2 o1 2 t2.length (ens t2) ∧ TOk W.U t2 ∧ x2 = .int .i64 ((lim - l2 : Nat) : Int))) := by
   rcases hp with ⟨q1, q2, x1, x2, q3⟩ | ⟨t2, ok2, l2, tv2, q1, _, q3, q4, q5, q6⟩
   ·exact ⟨_, false, false, x1, x2, q2, q3, .inl ⟨rfl, q1⟩⟩
   ·exact ⟨tv2, ok2, true, _, _, q3, q6, .inr ⟨rfl, t2, l2, q1, q4, q5, by rw [Nat.zero_add]⟩⟩
  clear hp
  obtain ⟨o1, o2, o3, x1, x2, rfl, rfl, hp⟩ := hp2
  refine swl_app ?_
  refine s_pu (pu_move rfl) ?_
  first | refine s_pu (pu_extractL rfl) ?_ | refine s_pu (pu_extract rfl rfl) ?_
  first | refine s_pu (pu_extractL rfl) ?_ | refine s_pu (pu_extract rfl rfl) ?_
  first | refine s_pu (pu_extractL rfl) ?_ | refine s_pu (pu_extract rfl rfl) ?_
  refine s_pu (pu_assign rfl) ?_
  refine s_pu (pu_assign rfl) ?_
  refine s_pu (pu_assign rfl) ?_
  refine swl_sub _ (.cons (t := 14) rfl (.cons (t := 15) rfl (.cons (t := 16) rfl (.cons (t := 17) rfl .nil)))) ?_
  refine swl_nil ?_
  refine then_n ?_
  refine swp_seq ?_
  refine swp_seq ?_
  refine swp_region ?_
  refine s_pu (pu_move rfl) ?_
  refine s_pu (pu_not rfl) ?_
  refine swl_sub _ (.cons (t := 14) rfl (.cons (t := 15) rfl (.cons (t := 16) rfl (.cons (t := 39) rfl .nil)))) ?_
  refine swl_nil ?_
  refine then_n ?_
  refine swp_cond (b := _) rfl (fun h39 => ?_) (fun h39 => ?_)
  ·skip
   refine swp_seq ?_
   refine swp_region ?_
   refine s_pu (pu_assign rfl) ?_
   refine s_pu (pu_assign rfl) ?_
   refine s_pu (pu_assign rfl) ?_
   refine s_pu (pu_assign rfl) ?_
   refine swl_sub _ (.cons (t := 10) rfl (.cons (t := 11) rfl (.cons (t := 12) rfl (.cons (t := 13) rfl .nil)))) ?_
   refine swl_nil ?_
   refine then_n ?_
   refine swp_ret ?_
   refine then_r ?_
   have hp' : (vall (VS W) (VT W) VM [] lim [a] b).1 = none := by
    rcases hp with ⟨_, q⟩ | ⟨rfl, _⟩
    ·exact q
    ·cases h39
   have e : virtV W a b limit = ([], false, 0, 12) := by
    rw [hV]
    generalize vall (VS W) (VT W) VM [] lim [a] b = q at hp'
    obtain ⟨q1, q2⟩ := q
    dsimp only at hp'
    subst hp'; rfl
   rw [e]
   exact done_ret [ro μ2] (.tmp rfl (.tmp rfl (.tmp rfl (.tmp rfl .nil)))) ⟨_, μ2, h1.trans h2, rfl, Row.nil _ _, TOk.nil _, rfl⟩ (by repeat (first | exact Split.nil | (apply Split.cons; (repeat (first | with_reducible exact Take.here | apply Take.there)))))
  ·skip
   obtain ⟨t2, l2, q1, q3, q4, rfl⟩ : ∃ (t2 : List En) (l2 : Nat), vall (VS W) (VT W) VM [] lim [a] b = (some (t2, o2), l2) ∧ Row μ2 o1 2 t2.length (ens t2) ∧ TOk W.U t2 ∧ x2 = .int .i64 ((lim - l2 : Nat) : Int) := by
    rcases hp with ⟨rfl, _⟩ | ⟨_, q⟩
    ·cases h39
    ·exact q
   clear hp
   have e : virtV W a b limit = (t2, o2, ((lim - l2 : Nat) : Int), 0) := by rw [hV, q1]
   rw [e]
   refine swp_skip ?_
   refine then_n ?_
   refine swp_seq ?_
   refine swp_draw [5] _ [] (by simp only [List.append_nil]; exact Ent.refl _) (by kernel_rfl) ?_
   refine d_pu 0 rfl (pu_move rfl) (by kernel_rfl) (by kernel_rfl) (by kernel_rfl) ?_
   refine d_pu 1 rfl (pu_move rfl) (by kernel_rfl) (by kernel_rfl) (by kernel_rfl) ?_
   refine d_pu 2 rfl (pu_move rfl) (by kernel_rfl) (by kernel_rfl) (by kernel_rfl) ?_
   first | refine d_pu 3 rfl (pu_nilCheck rfl) (by kernel_rfl) (by kernel_rfl) (by kernel_rfl) ?_ | refine d_pu 3 rfl (pu_nilCheck_fn rfl) (by kernel_rfl) (by kernel_rfl) (by kernel_rfl) ?_ | refine d_pu 3 rfl (pu_nilCheck_if rfl) (by kernel_rfl) (by kernel_rfl) (by kernel_rfl) ?_
   first | refine d_pu 4 rfl (pu_fieldAddr0 rfl) (by kernel_rfl) (by kernel_rfl) (by kernel_rfl) ?_ | refine d_pu 4 rfl (pu_fieldAddr rfl) (by kernel_rfl) (by kernel_rfl) (by kernel_rfl) ?_
   refine d_rd 5 rfl (rd_load rfl rfl) rfl (by kernel_rfl) (by kernel_rfl) (by kernel_rfl) ?_
   refine d_pu 6 rfl (pu_assign rfl) (by kernel_rfl) (by kernel_rfl) (by kernel_rfl) ?_
   refine d_pu 7 rfl (pu_assign rfl) (by kernel_rfl) (by kernel_rfl) (by kernel_rfl) ?_
   refine d_pu 8 rfl (pu_assign rfl) (by kernel_rfl) (by kernel_rfl) (by kernel_rfl) ?_
   refine d_pu 9 rfl (pu_assign rfl) (by kernel_rfl) (by kernel_rfl) (by kernel_rfl) ?_
   refine d_sub _ (.cons (t := 10) rfl (.cons (t := 11) rfl (.cons (t := 12) rfl (.cons (t := 13) rfl .nil)))) ?_
   first | refine d_nilt (by kernel_rfl) ?_ | refine d_nilf (by kernel_rfl) ?_
   refine then_n ?_
   refine swp_ret ?_
   exact done_ret [ro μ2] (.tmp rfl (.tmp rfl (.tmp rfl (.tmp rfl .nil)))) ⟨_, μ2, h1.trans h2, rfl, q3, q4, rfl⟩ (by repeat (first | exact Split.nil | (apply Split.cons; (repeat (first | with_reducible exact Take.here | apply Take.there)))))
set_option maxHeartbeats 4000000 in
theorem rvmerge_spec (W : HW) (μ : PH) (hW : W.Ok μ) (hn : W.n ≤ 10000) (a b limit : Int) :
  Spec Tryz.prog 10 [W.vg, W.vT, .int .i64 a, .int .i64 b, .int .i64 limit] [ro μ] (fun r L => ∃ tv cv μ', Le μ μ' ∧ r = .tuple #[tv, cv, .int .i64 (mergeV W a b limit).2.2.1, .int .i64 (mergeV W a b limit).2.2.2] ∧ Row μ' tv 2 (mergeV W a b limit).1.length (ens (mergeV W a b limit).1) ∧ Row μ' cv 4 (mergeV W a b limit).2.1.length (cfs (mergeV W a b limit).2.1) ∧ L = [ro μ']) := by
 refine Spec.of 50 Tryz.func10 rfl rfl rfl ?_
 refine swp_seq ?_
 refine swp_region ?_
 refine s_pu (pu_assign rfl) ?_
 refine s_pu (pu_assign rfl) ?_
 refine s_pu (pu_assign rfl) ?_
 refine s_pu (pu_assign rfl) ?_
 refine swl_sub _ (.cons (t := 0) rfl (.cons (t := 1) rfl (.cons (t := 2) rfl (.cons (t := 3) rfl (.cons (t := 4) rfl .nil))))) ?_
 refine swl_nil ?_
 refine then_n ?_
 refine swp_seq ?_
 refine swp_region ?_
 refine s_pu (pu_move rfl) ?_
 refine s_pu (pu_move rfl) ?_
 refine s_pu (pu_move rfl) ?_
 refine s_pu (pu_move rfl) ?_
 refine s_pu (pu_move rfl) ?_
 refine s_ef (ef_fn (rvirt_spec W μ hW hn a b limit) rfl rfl (by repeat (first | exact Split.nil | (apply Split.cons; (repeat (first | with_reducible exact Take.here | apply Take.there)))))) ?_
 rintro v26 L1 ⟨tv, μ1, h1, rfl, rt, ht, rfl⟩
 refine swl_app ?_
 refine s_pu (pu_move rfl) ?_
 first | refine s_pu (pu_extractL rfl) ?_ | refine s_pu (pu_extract rfl rfl) ?_
 first | refine s_pu (pu_extractL rfl) ?_ | refine s_pu (pu_extract rfl rfl) ?_
 first | refine s_pu (pu_extractL rfl) ?_ | refine s_pu (pu_extract rfl rfl) ?_
 first | refine s_pu (pu_extractL rfl) ?_ | refine s_pu (pu_extract rfl rfl) ?_
 refine s_pu (pu_assign rfl) ?_
 refine s_pu (pu_assign rfl) ?_
 refine s_pu (pu_assign rfl) ?_
 refine s_pu (pu_assign rfl) ?_
 refine swl_sub _ (.cons (t := 1) rfl (.cons (t := 2) rfl (.cons (t := 3) rfl (.cons (t := 14) rfl (.cons (t := 16) rfl (.cons (t := 17) rfl .nil)))))) ?_
 refine swl_nil ?_
 refine then_n ?_
 refine swp_seq ?_
 refine swp_seq ?_
 refine swp_region ?_
 refine s_pu (pu_move rfl) ?_
 refine s_pu (pu_neq rfl rfl) ?_
 refine swl_sub _ (.cons (t := 1) rfl (.cons (t := 2) rfl (.cons (t := 3) rfl (.cons (t := 14) rfl (.cons (t := 16) rfl (.cons (t := 17) rfl (.cons (t := 32) rfl .nil))))))) ?_
 refine swl_nil ?_
 refine then_n ?_
 refine swp_cond (b := _) rfl (fun h32 => ?_) (fun h32 => ?_)
 ·skip
  refine swp_seq ?_
  refine swp_region ?_
  refine s_pu (pu_move rfl) ?_
  refine s_pu (pu_assign rfl) ?_
  refine s_pu (pu_assign rfl) ?_
  refine s_pu (pu_assign rfl) ?_
  refine s_pu (pu_assign rfl) ?_
  refine swl_sub _ (.cons (t := 10) rfl (.cons (t := 11) rfl (.cons (t := 12) rfl (.cons (t := 13) rfl .nil)))) ?_
  refine swl_nil ?_
  refine then_n ?_
  refine swp_ret ?_
  refine then_r ?_
  have h32' : (virtV W a b limit).2.2.2 ≠ 0 := fun e1 => by rw [e1] at h32; exact absurd h32 (by decide)
  have e : mergeV W a b limit = ([], [], 0, (virtV W a b limit).2.2.2) := by unfold mergeV; rw [if_pos h32']
  rw [e]
  exact done_ret [ro μ1] (.tmp rfl (.tmp rfl (.tmp rfl (.tmp rfl .nil)))) ⟨_, _, μ1, h1, rfl, Row.nil _ _, Row.nil _ _, rfl⟩ (by repeat (first | exact Split.nil | (apply Split.cons; (repeat (first | with_reducible exact Take.here | apply Take.there)))))
 ·skip
  have h32' : (virtV W a b limit).2.2.2 = 0 := by
   by_cases e1 : (virtV W a b limit).2.2.2 = 0
   ·exact e1
   ·rw [decide_eq_false e1] at h32; cases h32
  obtain ⟨i, j, rfl, rfl, hi, hj⟩ := virtV_in h32' hn
  have hW1 := hW.le h1
  obtain ⟨tb, to, tc, u, hTv, hTc, hTl, hTr, hTO⟩ := HW.at_tree hW1 (c := (i : Int)) (by omega)
  obtain ⟨tb2, to2, tc2, u2, hTv2, hTc2, hTl2, hTr2, hTO2⟩ := HW.at_tree hW1 (c := (j : Int)) (by omega)
  have hU := HW.U_len hW hn
  refine swp_skip ?_
  refine then_n ?_
  refine swp_seq ?_
  refine swp_draw [4, 8] _ [] (by simp only [List.append_nil]; exact Ent.refl _) (by kernel_rfl) ?_
  refine d_pu 0 rfl (pu_move rfl) (by kernel_rfl) (by kernel_rfl) (by kernel_rfl) ?_
  refine d_pu 1 rfl (pu_move rfl) (by kernel_rfl) (by kernel_rfl) (by kernel_rfl) ?_
  refine d_pu 2 rfl (pu_move rfl) (by kernel_rfl) (by kernel_rfl) (by kernel_rfl) ?_
  refine d_pu 3 rfl (pu_indexAddr (to + (i : Int).toNat * 1) (congrArg some hTv) rfl (by omega) (by omega) rfl) (by kernel_rfl) (by kernel_rfl) (by kernel_rfl) ?_
  refine d_rd 4 rfl (rd_ro rfl hTc) rfl (by kernel_rfl) (by kernel_rfl) (by kernel_rfl) ?_
  refine d_pu 5 rfl (pu_move rfl) (by kernel_rfl) (by kernel_rfl) (by kernel_rfl) ?_
  refine d_pu 6 rfl (pu_move rfl) (by kernel_rfl) (by kernel_rfl) (by kernel_rfl) ?_
  refine d_pu 7 rfl (pu_indexAddr (to2 + (j : Int).toNat * 1) (congrArg some hTv2) rfl (by omega) (by omega) rfl) (by kernel_rfl) (by kernel_rfl) (by kernel_rfl) ?_
  refine d_rd 8 rfl (rd_ro rfl hTc2) rfl (by kernel_rfl) (by kernel_rfl) (by kernel_rfl) ?_
  first | refine d_fint 9 rfl (by kernel_rfl) (by kernel_rfl) (ef_fn (rthree_spec μ1 tv u u2 (virtV W i j limit).1 (VT W i) (VT W j) rt hTr hTr2 ⟨by have := ht.len; omega, by have := hTO.len; omega, by have := hTO2.len; omega⟩ ⟨ht.u32, hTO.u32, hTO2.u32⟩) rfl rfl (by repeat (first | exact Split.nil | (apply Split.cons; (repeat (first | with_reducible exact Take.here | apply Take.there)))))) ?_ | refine d_finf 9 rfl (by kernel_rfl) (by kernel_rfl) (ef_fn (rthree_spec μ1 tv u u2 (virtV W i j limit).1 (VT W i) (VT W j) rt hTr hTr2 ⟨by have := ht.len; omega, by have := hTO.len; omega, by have := hTO2.len; omega⟩ ⟨ht.u32, hTO.u32, hTO2.u32⟩) rfl rfl (by repeat (first | exact Split.nil | (apply Split.cons; (repeat (first | with_reducible exact Take.here | apply Take.there)))))) ?_
  rintro v44 L1 ⟨v8, v9, rs, hrs, rfl, rfl⟩
  refine swd_app ?_
  have hrs2 : rs = rowsB (virtV W i j limit).1 (VT W i) (VT W j) := by rw [hrs, rows_same ht.good.1 hTO.good.1 hTO2.good.1 (Nat.le_refl _)]
  clear hrs
  subst hrs2
  have hm : mergeV W i j limit = (VM (virtV W i j limit).1 (VT W i) (VT W j), cfR (rowsB (virtV W i j limit).1 (VT W i) (VT W j)), (virtV W i j limit).2.2.1, 0) := by unfold mergeV; rw [if_neg (not_not_intro h32')]
  rw [hm]
  refine d_pu 10 rfl (pu_move rfl) (by kernel_rfl) (by kernel_rfl) (by kernel_rfl) ?_
  first | refine d_pu 11 rfl (pu_extractL rfl) (by kernel_rfl) (by kernel_rfl) (by kernel_rfl) ?_ | refine d_pu 11 rfl (pu_extract rfl rfl) (by kernel_rfl) (by kernel_rfl) (by kernel_rfl) ?_
  first | refine d_pu 12 rfl (pu_extractL rfl) (by kernel_rfl) (by kernel_rfl) (by kernel_rfl) ?_ | refine d_pu 12 rfl (pu_extract rfl rfl) (by kernel_rfl) (by kernel_rfl) (by kernel_rfl) ?_
  refine d_pu 13 rfl (pu_assign rfl) (by kernel_rfl) (by kernel_rfl) (by kernel_rfl) ?_
  refine d_pu 14 rfl (pu_assign rfl) (by kernel_rfl) (by kernel_rfl) (by kernel_rfl) ?_
  refine d_sub _ (.cons (t := 16) rfl (.cons (t := 18) rfl (.cons (t := 19) rfl .nil))) ?_
  first | refine d_nilt (by kernel_rfl) ?_ | refine d_nilf (by kernel_rfl) ?_
  refine then_n ?_
  refine swp_seq ?_
  refine swp_share_own (e := 49) (n := 2) (v := v8) (μ := μ1) (by repeat (first | exact Split.nil | (apply Split.cons; (repeat (first | with_reducible exact Take.here | apply Take.there))))) fun μ2 h2 r8 => ?_
  refine swp_share_own (e := 88) (n := 4) (v := v9) (μ := μ2) (by repeat (first | exact Split.nil | (apply Split.cons; (repeat (first | with_reducible exact Take.here | apply Take.there))))) fun μ3 h3 r9 => ?_
  refine swp_region ?_
  refine s_pu (pu_move rfl) ?_
  refine s_pu (pu_move rfl) ?_
  refine s_pu (pu_move rfl) ?_
  refine s_pu (pu_assign rfl) ?_
  refine s_pu (pu_assign rfl) ?_
  refine s_pu (pu_assign rfl) ?_
  refine s_pu (pu_assign rfl) ?_
  refine swl_sub _ (.cons (t := 10) rfl (.cons (t := 11) rfl (.cons (t := 12) rfl (.cons (t := 13) rfl .nil)))) ?_
  refine swl_nil ?_
  refine then_n ?_
  refine swp_ret ?_
  exact done_ret [ro μ3] (.tmp rfl (.tmp rfl (.tmp rfl (.tmp rfl .nil)))) ⟨_, _, μ3, h1.trans (h2.trans h3), rfl, r8.le h3, r9, rfl⟩ (by repeat (first | exact Split.nil | (apply Split.cons; (repeat (first | with_reducible exact Take.here | apply Take.there)))))
end SX
namespace SX
open Go Go.Proofs

theorem samegraph_spec (μ : PH) (u v : Value) (G G' : List (Value × List Int)) (hG : Graph μ u G) (hG' : Graph μ v G') : Spec Tryz.prog 12 [u, v] [ro μ] (fun r L => r = .bool (decide (nums G = nums G')) ∧ L = [ro μ]) := by
 have hs1 := hG.1.small
 have hs2 := hG'.1.small
 obtain ⟨A, ca, hv⟩ := hG.1.sl
 subst hv
 obtain ⟨B, cb, hv⟩ := hG'.1.sl
 subst hv
 refine Spec.of 27 Tryz.func12 rfl rfl rfl ?_
 refine swp_seq ?_
 refine swp_region ?_
 refine s_pu (pu_assign rfl) ?_
 refine swl_sub _ (.cons (t := 0) rfl (.cons (t := 1) rfl .nil)) ?_
 refine swl_nil ?_
 refine then_n ?_
 refine swp_seq ?_
 refine swp_seq ?_
 refine swp_region ?_
 refine s_pu (pu_move rfl) ?_
 refine s_pu (pu_len rfl) ?_
 refine s_pu (pu_move rfl) ?_
 refine s_pu (pu_len rfl) ?_
 refine s_pu (pu_neq rfl rfl) ?_
 refine swl_sub _ (.cons (t := 0) rfl (.cons (t := 1) rfl (.cons (t := 10) rfl .nil))) ?_
 refine swl_nil ?_
 refine then_n ?_
 refine swp_cond (b := _) rfl (fun h10 => ?_) (fun h10 => ?_)
 ·skip
  refine swp_seq ?_
  refine swp_region ?_
  refine s_pu (pu_assign rfl) ?_
  refine swl_sub _ (.cons (t := 4) rfl .nil) ?_
  refine swl_nil ?_
  refine then_n ?_
  refine swp_ret ?_
  refine then_r ?_
  simp only [Bool.not_eq_true', decide_eq_false_iff_not] at h10
  exact done_ret [ro μ] (.tmp rfl .nil) ⟨by rw [decide_eq_false (fun e => h10 (by have := congrArg List.length e; rw [List.length_map, List.length_map] at this; rw [this]))]; rfl, rfl⟩ (by repeat (first | exact Split.nil | (apply Split.cons; (repeat (first | with_reducible exact Take.here | apply Take.there)))))
 ·skip
  refine swp_skip ?_
  refine then_n ?_
  refine swp_seq ?_
  refine swp_seq ?_
  refine swp_region ?_
  refine s_pu (pu_assign rfl) ?_
  refine swl_sub _ (.cons (t := 0) rfl (.cons (t := 1) rfl (.cons (t := 5) rfl .nil))) ?_
  refine swl_nil ?_
  refine then_n ?_
  refine swp_block ?_
  have hlen : G.length = G'.length := by
   simp only [Bool.not_eq_false', decide_eq_true_eq] at h10; omega
  refine swp_sub _ (.cons (t := 0) rfl (.cons (t := 1) rfl (.cons (t := 5) rfl .nil))) ?_
  refine swp_loop (ι := Nat) (fun i env L => env = [(0, .slice A G.length ca), (1, .slice B G'.length cb), (5, .int .i64 (i : Nat))] ∧ L = [ro μ] ∧ i ≤ G.length ∧ ∀ j, j < i → (nums G)[j]? = (nums G')[j]?) (fun i => G.length - i) 0 ⟨rfl, rfl, Nat.zero_le _, fun j h => by omega⟩ ?_
  rintro i env L ⟨rfl, rfl, hi, hlo⟩
  refine swp_seq ?_
  refine swp_seq ?_
  refine swp_region ?_
  refine s_pu (pu_move rfl) ?_
  refine s_pu (pu_move rfl) ?_
  refine s_pu (pu_len rfl) ?_
  refine s_pu (pu_lss rfl rfl) ?_
  refine swl_sub _ (.cons (t := 0) rfl (.cons (t := 1) rfl (.cons (t := 5) rfl (.cons (t := 14) rfl .nil)))) ?_
  refine swl_nil ?_
  refine then_n ?_
  refine swp_cond (b := _) rfl (fun h14 => ?_) (fun h14 => ?_)
  ·skip
   have h14' : i < G.length := by have := of_decide_eq_true h14; omega
   obtain ⟨x, hx⟩ : ∃ x, G[i]? = some x := ⟨_, List.getElem?_eq_getElem h14'⟩
   obtain ⟨y, hy⟩ : ∃ y, G'[i]? = some y := ⟨_, List.getElem?_eq_getElem (by omega)⟩
   obtain ⟨ab, ao, cap1, hv1, _, _, hr1⟩ := hG.1.pos (by omega)
   obtain ⟨bb, bo, cap2, hv2, _, _, hr2⟩ := hG'.1.pos (by omega)
   injection hv1 with e1 _ _
   injection hv2 with e2 _ _
   subst e1 e2
   have hxr := hG.2 _ (List.mem_of_getElem? hx)
   have hyr := hG'.2 _ (List.mem_of_getElem? hy)
   have hnx : (nums G)[i]? = some x.2 := by rw [List.getElem?_map, hx]; rfl
   have hny : (nums G')[i]? = some y.2 := by rw [List.getElem?_map, hy]; rfl
   refine swp_skip ?_
   refine then_n ?_
   refine swp_seq ?_
   refine swp_block ?_
   refine swp_seq ?_
   refine swp_draw [3, 7] _ [] (by simp only [List.append_nil]; exact Ent.refl _) (by kernel_rfl) ?_
   refine d_pu 0 rfl (pu_move rfl) (by kernel_rfl) (by kernel_rfl) (by kernel_rfl) ?_
   refine d_pu 1 rfl (pu_move rfl) (by kernel_rfl) (by kernel_rfl) (by kernel_rfl) ?_
   refine d_pu 2 rfl (pu_indexAddr (ao + i * 1) rfl rfl (by omega) (by omega) (by rw [Int.toNat_natCast])) (by kernel_rfl) (by kernel_rfl) (by kernel_rfl) ?_
   refine d_rd 3 rfl (rd_ro rfl (hr1.elem gcs_len hx).cell) rfl (by kernel_rfl) (by kernel_rfl) (by kernel_rfl) ?_
   refine d_pu 4 rfl (pu_move rfl) (by kernel_rfl) (by kernel_rfl) (by kernel_rfl) ?_
   refine d_pu 5 rfl (pu_move rfl) (by kernel_rfl) (by kernel_rfl) (by kernel_rfl) ?_
   refine d_pu 6 rfl (pu_indexAddr (bo + i * 1) rfl rfl (by omega) (by omega) (by rw [Int.toNat_natCast])) (by kernel_rfl) (by kernel_rfl) (by kernel_rfl) ?_
   refine d_rd 7 rfl (rd_ro rfl (hr2.elem gcs_len hy).cell) rfl (by kernel_rfl) (by kernel_rfl) (by kernel_rfl) ?_
   first | refine d_fint 8 rfl (by kernel_rfl) (by kernel_rfl) (ef_fn (samelist_i x.1 y.1 x.2 y.2 [ro μ] (Ints.row hxr) (Ints.row hyr)) rfl rfl (by repeat (first | exact Split.nil | (apply Split.cons; (repeat (first | with_reducible exact Take.here | apply Take.there)))))) ?_ | refine d_finf 8 rfl (by kernel_rfl) (by kernel_rfl) (ef_fn (samelist_i x.1 y.1 x.2 y.2 [ro μ] (Ints.row hxr) (Ints.row hyr)) rfl rfl (by repeat (first | exact Split.nil | (apply Split.cons; (repeat (first | with_reducible exact Take.here | apply Take.there)))))) ?_
   rintro v1 L1 ⟨rfl, rfl⟩
   refine swd_app ?_
   refine d_pu 9 rfl (pu_not rfl) (by kernel_rfl) (by kernel_rfl) (by kernel_rfl) ?_
   refine d_sub _ (.cons (t := 0) rfl (.cons (t := 1) rfl (.cons (t := 5) rfl (.cons (t := 26) rfl .nil)))) ?_
   first | refine d_nilt (by kernel_rfl) ?_ | refine d_nilf (by kernel_rfl) ?_
   refine then_n ?_
   refine swp_cond (b := _) rfl (fun h26 => ?_) (fun h26 => ?_)
   ·skip
    refine swp_seq ?_
    refine swp_region ?_
    refine s_pu (pu_assign rfl) ?_
    refine swl_sub _ (.cons (t := 4) rfl .nil) ?_
    refine swl_nil ?_
    refine then_n ?_
    refine swp_ret ?_
    refine block_r ?_
    refine then_r ?_
    refine then_r ?_
    refine block_r ?_
    refine then_r ?_
    have h26' : ¬ x.2 = y.2 := by simpa using h26
    exact done_ret [ro μ] (.tmp rfl .nil) ⟨by rw [decide_eq_false (fun e => h26' (by rw [e, hny] at hnx; exact (Option.some.inj hnx).symm))]; rfl, rfl⟩ (by repeat (first | exact Split.nil | (apply Split.cons; (repeat (first | with_reducible exact Take.here | apply Take.there)))))
   ·skip
    refine swp_skip ?_
    refine block_n ?_
    refine then_n ?_
    refine swp_region ?_
    refine s_pu (pu_move rfl) ?_
    refine s_pu (pu_add_as ((i + 1 : Nat) : Int) rfl rfl (by omega) (by omega) (by omega)) ?_
    refine s_pu (pu_assign rfl) ?_
    refine swl_sub _ (.cons (t := 0) rfl (.cons (t := 1) rfl (.cons (t := 5) rfl .nil))) ?_
    refine swl_nil ?_
    have h26' : x.2 = y.2 := by simpa using h26
    exact then_n ⟨i + 1, ⟨rfl, rfl, h14', fun j hj => by
     by_cases e : j = i
     ·subst e; rw [hnx, hny, h26']
     ·exact hlo j (by omega)⟩, by omega⟩
  ·skip
   have h14' := of_decide_eq_false h14
   obtain rfl : i = G.length := by omega
   refine swp_exit ?_
   refine then_x ?_
   refine then_x ?_
   refine block_hit rfl ?_
   refine then_n ?_
   refine swp_seq ?_
   refine swp_region ?_
   refine s_pu (pu_assign rfl) ?_
   refine swl_sub _ (.cons (t := 4) rfl .nil) ?_
   refine swl_nil ?_
   refine then_n ?_
   refine swp_ret ?_
   exact done_ret [ro μ] (.tmp rfl .nil) ⟨by rw [decide_eq_true (List.ext_getElem? fun j => by
    by_cases hj : j < G.length
    ·exact hlo j hj
    ·rw [List.getElem?_eq_none (by rw [List.length_map]; omega), List.getElem?_eq_none (by rw [List.length_map]; omega)])]; rfl, rfl⟩ (by repeat (first | exact Split.nil | (apply Split.cons; (repeat (first | with_reducible exact Take.here | apply Take.there)))))
end SX
namespace SX
open Go Go.Proofs
theorem rd_hwP {t : TypeId} [ht : TOne Tryz.prog t] {env : Env} {L L' : List Assn} {W : HW} {s : HSt} {x : Operand} {i : Nat} {v : Value} (hx : evalE env x = some (.pointer (some ⟨W.p, i, none⟩))) (hL : Take (W.A s) L L') (hv : ∀ vl vm, (W.cells vl vm)[i]? = some v) : Rd Tryz.prog env L (.load t x) v := fun ρ hρ d ty p f g E w hh => by
  obtain ⟨y, hy⟩ := H.ex (hh.ent (Ent.perm hL.perm))
  exact rd_load (L := blk W.p 43 (W.cells y.1 y.2) :: _) hx (hv y.1 y.2) ρ hρ d ty p f g E w hy
theorem rd_hwG {t : TypeId} [ht : TOne Tryz.prog t] {env : Env} {L L' : List Assn} {W : HW} {s : HSt} {x : Operand} (hx : evalE env x = some (.pointer (some ⟨W.pg, 0, none⟩))) (hL : Take (W.A s) L L') : Rd Tryz.prog env L (.load t x) W.vg := fun ρ hρ d ty p f g E w hh => by
  obtain ⟨y, hy⟩ := H.ex (hh.ent (Ent.perm hL.perm))
  obtain ⟨z, hz⟩ := H.ex ((show H E w (blk W.p 43 (W.cells y.1 y.2) :: gA W.pg W.vg W.vn W.n s.ask :: _) from hy).ent Ent.drop)
  exact rd_load (L := blk W.pg 46 [W.vg, W.vn, z] :: _) hx rfl ρ hρ d ty p f g E w hz
/-- a source, or none, by the world alone -/
theorem of3_spec (w : Wld) (μ : PH) (h : w.Ok μ) (mo : Nat) (hmo : mo ≤ 10000) :
    Spec Tryz.prog 5 [.agg w.cells.toArray, .int .i64 (mo : Nat)] [ro μ] (fun r L => ∃ μ' o A, Le μ μ' ∧ r = .pointer o ∧ L = [A, ro μ'] ∧ OfIs w mo μ' o A ∧ (o.isNone = false → chkFrom 0 (nums (w.G.take (min w.G.length mo))) = 0)) :=
  Spec.ent3 (of_specC w μ h mo hmo) fun r L ⟨μ', h1, hp⟩ => by
    rcases hp with ⟨k1, rfl, rfl⟩ | ⟨kc, W, rfl, k1, k2, k3, k4, rfl⟩
    · exact ⟨_, star_close (K := []) (L := [ro μ']), μ', none, star [], h1, rfl, rfl, .inl ⟨rfl, k1⟩, fun h => by cases h⟩
    · exact ⟨_, Ent.refl _, μ', _, _, h1, rfl, rfl, .inr ⟨W, rfl, k1, k2, k3, k4, rfl⟩, fun _ => kc⟩
abbrev spoilE : En := (⟨#[115, 112, 111, 105, 108, 116]⟩, 0)
set_option maxHeartbeats 8000000 in
theorem tells_spec (w : Wld) (μ : PH) (h : w.Ok μ) (hT : RowAt μ 1 0 tabV) (a b lim0 : Int) : Spec Tryz.prog 3 [.agg w.cells.toArray, .agg #[.int .i64 a, .int .i64 b, .int .i64 lim0]] [ro μ] (LawOk μ) := by
 refine Spec.of 214 Tryz.func3 rfl rfl rfl ?_
 refine swp_seq ?_
 refine swp_region ?_
 refine s_ef (ef_box rfl rfl) ?_
 intro b2
 refine s_ef (ef_box rfl rfl) ?_
 intro b3
 refine s_pu (pu_assign rfl) ?_
 refine swl_sub _ (.cons (t := 2) rfl (.cons (t := 3) rfl .nil)) ?_
 refine swl_nil ?_
 refine then_n ?_
 refine swp_seq ?_
 refine swp_seq ?_
 refine swp_region ?_
 refine s_ef (ef_fn (crosses_spec μ hT) rfl rfl (by repeat (first | exact Split.nil | (apply Split.cons; (repeat (first | with_reducible exact Take.here | apply Take.there)))))) ?_
 rintro v25 L1 ⟨rfl, μ1, h1, rfl⟩
 refine swl_app ?_
 refine s_pu (pu_not rfl) ?_
 refine swl_sub _ (.cons (t := 2) rfl (.cons (t := 3) rfl (.cons (t := 26) rfl .nil))) ?_
 refine swl_nil ?_
 refine then_n ?_
 refine swp_cond (b := _) rfl (fun h26 => by cases h26) (fun h26 => ?_)
 refine swp_skip ?_
 refine then_n ?_
 refine swp_seq ?_
 refine swp_region ?_
 first | refine s_rd (rd_loadW rfl rfl) ?_ | refine s_rd (rd_loadX rfl rfl rfl) ?_
 refine s_ef (ef_fn (of3_spec w μ1 (h.le h1) 40 (by decide)) rfl rfl (by repeat (first | exact Split.nil | (apply Split.cons; (repeat (first | with_reducible exact Take.here | apply Take.there)))))) ?_
 rintro v28 L1 ⟨μ2, o, A, h2, rfl, rfl, hof, hck⟩
 refine swl_app ?_
 refine s_pu (pu_assign rfl) ?_
 refine swl_sub _ (.cons (t := 2) rfl (.cons (t := 3) rfl (.cons (t := 5) rfl .nil))) ?_
 refine swl_nil ?_
 refine then_n ?_
 refine swp_seq ?_
 refine swp_seq ?_
 refine swp_region ?_
 refine s_pu (pu_move rfl) ?_
 refine s_pu (pu_ptr_eq_nil rfl rfl) ?_
 refine swl_sub _ (.cons (t := 2) rfl (.cons (t := 3) rfl (.cons (t := 5) rfl (.cons (t := 30) rfl .nil)))) ?_
 refine swl_nil ?_
 refine then_n ?_
 refine swp_cond (b := _) rfl (fun h30 => ?_) (fun h30 => ?_)
 ·skip
  refine swp_seq ?_
  refine swp_region ?_
  refine s_pu (pu_assign rfl) ?_
  refine swl_sub _ (.cons (t := 4) rfl .nil) ?_
  refine swl_nil ?_
  refine then_n ?_
  refine swp_ret ?_
  refine then_r ?_
  exact done_ret [ro μ2] (.tmp rfl .nil) ⟨rfl, μ2, [], h1.trans h2, rfl⟩ (by repeat (first | exact Split.nil | (apply Split.cons; (repeat (first | with_reducible exact Take.here | apply Take.there)))))
 ·skip
  have hck0 := hck h30
  obtain ⟨W, rfl, hW, hWn, hWG, _, _, rfl⟩ : ∃ W : HW, o = some ⟨W.p, 0, none⟩ ∧ W.Ok μ2 ∧ W.n ≤ 40 ∧ W.G = w.G.take (min w.G.length 40) ∧ True ∧ True ∧ A = W.A st00 := by
   rcases hof with ⟨rfl, _⟩ | ⟨W, q1, q2, q3, q4, q5, q6⟩
   ·cases h30
   ·exact ⟨W, q1, q2, by omega, q3, trivial, trivial, q6⟩
  clear hof hck
  have hn10 : W.n ≤ 10000 := by omega
  have hl12 := h1.trans h2
  refine swp_skip ?_
  refine then_n ?_
  refine swp_cut (fun env L => ∃ lim : Int, Sub env [(2, .pointer (some ⟨b2, 0, none⟩)), (3, .pointer (some ⟨b3, 0, none⟩)), (5, .pointer (some ⟨W.p, 0, none⟩))] ∧ Ent L [blk b3 31 [.int .i64 a, .int .i64 b, .int .i64 lim], blk b2 29 w.cells, W.A st00, ro μ2]) ?_ ?_
  ·skip
   refine swp_seq ?_
   refine swp_region ?_
   first | refine s_pu (pu_fieldAddr0 rfl) ?_ | refine s_pu (pu_fieldAddr rfl) ?_
   refine s_rd (rd_load rfl rfl) ?_
   refine s_pu (pu_gtr rfl rfl) ?_
   refine s_pu (pu_move rfl) ?_
   refine s_split 34 rfl (fun h34 => ?_) (fun h34 => ?_)
   ·skip
    refine s_on rfl rfl ?_
    first | refine s_pu (pu_fieldAddr0 rfl) ?_ | refine s_pu (pu_fieldAddr rfl) ?_
    refine s_on rfl rfl ?_
    refine s_rd (rd_load rfl rfl) ?_
    refine s_on rfl rfl ?_
    refine s_pu (pu_rem_in rfl rfl (by have := of_decide_eq_true h34; omega) (by omega)) ?_
    refine s_on rfl rfl ?_
    refine s_pu (pu_neq rfl rfl) ?_
    first | refine s_pu (pu_pick_t rfl rfl) ?_ | refine s_pu (pu_pick_f rfl rfl) ?_
    refine swl_sub _ (.cons (t := 2) rfl (.cons (t := 3) rfl (.cons (t := 5) rfl (.cons (t := 39) rfl .nil)))) ?_
    refine swl_nil ?_
    refine then_n ?_
    refine swp_cond (b := _) rfl (fun h39 => ?_) (fun h39 => ?_)
    ·skip
     refine swp_region ?_
     first | refine s_pu (pu_fieldAddr0 rfl) ?_ | refine s_pu (pu_fieldAddr rfl) ?_
     refine s_ef0 (ef_store rfl rfl rfl) ?_
     refine swl_sub _ (.cons (t := 2) rfl (.cons (t := 3) rfl (.cons (t := 5) rfl .nil))) ?_
     refine swl_nil ?_
     exact then_n ⟨_, ⟨rfl, rfl, rfl, trivial⟩, Split.ent' (by repeat (first | exact Split.nil | (apply Split.cons; (repeat (first | with_reducible exact Take.here | apply Take.there)))))⟩
    ·skip
     refine swp_skip ?_
     exact then_n ⟨_, ⟨rfl, rfl, rfl, trivial⟩, Split.ent' (by repeat (first | exact Split.nil | (apply Split.cons; (repeat (first | with_reducible exact Take.here | apply Take.there)))))⟩
   ·skip
    refine s_off rfl rfl rfl ?_
    refine s_off rfl rfl rfl ?_
    refine s_off rfl rfl rfl ?_
    refine s_off rfl rfl rfl ?_
    first | refine s_pu (pu_pick_t rfl rfl) ?_ | refine s_pu (pu_pick_f rfl rfl) ?_
    refine swl_sub _ (.cons (t := 2) rfl (.cons (t := 3) rfl (.cons (t := 5) rfl (.cons (t := 39) rfl .nil)))) ?_
    refine swl_nil ?_
    refine then_n ?_
    refine swp_cond (b := _) rfl (fun h39 => by cases h39) (fun h39 => ?_)
    refine swp_skip ?_
    exact then_n ⟨_, ⟨rfl, rfl, rfl, trivial⟩, Split.ent' (by repeat (first | exact Split.nil | (apply Split.cons; (repeat (first | with_reducible exact Take.here | apply Take.there)))))⟩
  rintro env L ⟨lim, hsub, hE⟩
  refine swp_sub _ hsub ?_
  refine swp_ent hE ?_
  clear hsub hE env L
  refine swp_seq ?_
  refine swp_region ?_
  refine s_pu (pu_move rfl) ?_
  refine s_pu (pu_iface rfl) ?_
  first | refine s_pu (pu_fieldAddr0 rfl) ?_ | refine s_pu (pu_fieldAddr rfl) ?_
  refine s_rd (rd_load rfl rfl) ?_
  first | refine s_pu (pu_fieldAddr0 rfl) ?_ | refine s_pu (pu_fieldAddr rfl) ?_
  refine s_rd (rd_load rfl rfl) ?_
  first | refine s_pu (pu_fieldAddr0 rfl) ?_ | refine s_pu (pu_fieldAddr rfl) ?_
  refine s_rd (rd_load rfl rfl) ?_
  refine s_ef (ef_fn (virtual_spec W μ2 hW hn10 μ2 (Le.refl _) (hT.le hl12) st00 0 askB0 (by omega) a b lim) rfl rfl (by repeat (first | exact Split.nil | (apply Split.cons; (repeat (first | with_reducible exact Take.here | apply Take.there)))))) ?_
  rintro v50 L1 ⟨tv, s3, μ3, h3, hs3, hTO, rfl, rfl⟩
  refine swl_app ?_
  refine s_pu (pu_move rfl) ?_
  first | refine s_pu (pu_extractL rfl) ?_ | refine s_pu (pu_extract rfl rfl) ?_
  first | refine s_pu (pu_extractL rfl) ?_ | refine s_pu (pu_extract rfl rfl) ?_
  first | refine s_pu (pu_extractL rfl) ?_ | refine s_pu (pu_extract rfl rfl) ?_
  first | refine s_pu (pu_extractL rfl) ?_ | refine s_pu (pu_extract rfl rfl) ?_
  refine s_pu (pu_assign rfl) ?_
  refine s_pu (pu_assign rfl) ?_
  refine s_pu (pu_assign rfl) ?_
  refine s_pu (pu_assign rfl) ?_
  refine swl_sub _ (.cons (t := 2) rfl (.cons (t := 3) rfl (.cons (t := 5) rfl (.cons (t := 6) rfl (.cons (t := 7) rfl (.cons (t := 8) rfl (.cons (t := 9) rfl .nil))))))) ?_
  refine swl_nil ?_
  refine then_n ?_
  refine swp_seq ?_
  refine swp_draw [3, 6, 10, 12, 14, 16] _ [] (by simp only [List.append_nil]; exact Ent.refl _) (by kernel_rfl) ?_
  refine d_pu 0 rfl (pu_move rfl) (by kernel_rfl) (by kernel_rfl) (by kernel_rfl) ?_
  first | refine d_pu 1 rfl (pu_nilCheck rfl) (by kernel_rfl) (by kernel_rfl) (by kernel_rfl) ?_ | refine d_pu 1 rfl (pu_nilCheck_fn rfl) (by kernel_rfl) (by kernel_rfl) (by kernel_rfl) ?_ | refine d_pu 1 rfl (pu_nilCheck_if rfl) (by kernel_rfl) (by kernel_rfl) (by kernel_rfl) ?_
  first | refine d_pu 2 rfl (pu_fieldAddr0 rfl) (by kernel_rfl) (by kernel_rfl) (by kernel_rfl) ?_ | refine d_pu 2 rfl (pu_fieldAddr rfl) (by kernel_rfl) (by kernel_rfl) (by kernel_rfl) ?_
  refine d_rd 3 rfl (rd_hwP rfl (by repeat (first | with_reducible exact Take.here | apply Take.there)) (fun _ _ => rfl)) rfl (by kernel_rfl) (by kernel_rfl) (by kernel_rfl) ?_
  first | refine d_pu 4 rfl (pu_nilCheck rfl) (by kernel_rfl) (by kernel_rfl) (by kernel_rfl) ?_ | refine d_pu 4 rfl (pu_nilCheck_fn rfl) (by kernel_rfl) (by kernel_rfl) (by kernel_rfl) ?_ | refine d_pu 4 rfl (pu_nilCheck_if rfl) (by kernel_rfl) (by kernel_rfl) (by kernel_rfl) ?_
  first | refine d_pu 5 rfl (pu_fieldAddr0 rfl) (by kernel_rfl) (by kernel_rfl) (by kernel_rfl) ?_ | refine d_pu 5 rfl (pu_fieldAddr rfl) (by kernel_rfl) (by kernel_rfl) (by kernel_rfl) ?_
  refine d_rd 6 rfl (rd_hwG rfl (by repeat (first | with_reducible exact Take.here | apply Take.there))) rfl (by kernel_rfl) (by kernel_rfl) (by kernel_rfl) ?_
  refine d_pu 7 rfl (pu_move rfl) (by kernel_rfl) (by kernel_rfl) (by kernel_rfl) ?_
  first | refine d_pu 8 rfl (pu_nilCheck rfl) (by kernel_rfl) (by kernel_rfl) (by kernel_rfl) ?_ | refine d_pu 8 rfl (pu_nilCheck_fn rfl) (by kernel_rfl) (by kernel_rfl) (by kernel_rfl) ?_ | refine d_pu 8 rfl (pu_nilCheck_if rfl) (by kernel_rfl) (by kernel_rfl) (by kernel_rfl) ?_
  first | refine d_pu 9 rfl (pu_fieldAddr0 rfl) (by kernel_rfl) (by kernel_rfl) (by kernel_rfl) ?_ | refine d_pu 9 rfl (pu_fieldAddr rfl) (by kernel_rfl) (by kernel_rfl) (by kernel_rfl) ?_
  refine d_rd 10 rfl (rd_hwP rfl (by repeat (first | with_reducible exact Take.here | apply Take.there)) (fun _ _ => rfl)) rfl (by kernel_rfl) (by kernel_rfl) (by kernel_rfl) ?_
  first | refine d_pu 11 rfl (pu_fieldAddr0 rfl) (by kernel_rfl) (by kernel_rfl) (by kernel_rfl) ?_ | refine d_pu 11 rfl (pu_fieldAddr rfl) (by kernel_rfl) (by kernel_rfl) (by kernel_rfl) ?_
  refine d_rd 12 rfl (rd_load rfl rfl) rfl (by kernel_rfl) (by kernel_rfl) (by kernel_rfl) ?_
  first | refine d_pu 13 rfl (pu_fieldAddr0 rfl) (by kernel_rfl) (by kernel_rfl) (by kernel_rfl) ?_ | refine d_pu 13 rfl (pu_fieldAddr rfl) (by kernel_rfl) (by kernel_rfl) (by kernel_rfl) ?_
  refine d_rd 14 rfl (rd_load rfl rfl) rfl (by kernel_rfl) (by kernel_rfl) (by kernel_rfl) ?_
  first | refine d_pu 15 rfl (pu_fieldAddr0 rfl) (by kernel_rfl) (by kernel_rfl) (by kernel_rfl) ?_ | refine d_pu 15 rfl (pu_fieldAddr rfl) (by kernel_rfl) (by kernel_rfl) (by kernel_rfl) ?_
  refine d_rd 16 rfl (rd_load rfl rfl) rfl (by kernel_rfl) (by kernel_rfl) (by kernel_rfl) ?_
  first | refine d_fint 17 rfl (by kernel_rfl) (by kernel_rfl) (ef_fn (rvirt_spec W μ3 (hW.le h3) hn10 a b lim) rfl rfl (by repeat (first | exact Split.nil | (apply Split.cons; (repeat (first | with_reducible exact Take.here | apply Take.there)))))) ?_ | refine d_finf 17 rfl (by kernel_rfl) (by kernel_rfl) (ef_fn (rvirt_spec W μ3 (hW.le h3) hn10 a b lim) rfl rfl (by repeat (first | exact Split.nil | (apply Split.cons; (repeat (first | with_reducible exact Take.here | apply Take.there)))))) ?_
  rintro v73 L1 ⟨uv, μ4, h4, rfl, ru, _, rfl⟩
  refine swd_app ?_
  refine d_pu 18 rfl (pu_move rfl) (by kernel_rfl) (by kernel_rfl) (by kernel_rfl) ?_
  first | refine d_pu 19 rfl (pu_extractL rfl) (by kernel_rfl) (by kernel_rfl) (by kernel_rfl) ?_ | refine d_pu 19 rfl (pu_extract rfl rfl) (by kernel_rfl) (by kernel_rfl) (by kernel_rfl) ?_
  first | refine d_pu 20 rfl (pu_extractL rfl) (by kernel_rfl) (by kernel_rfl) (by kernel_rfl) ?_ | refine d_pu 20 rfl (pu_extract rfl rfl) (by kernel_rfl) (by kernel_rfl) (by kernel_rfl) ?_
  first | refine d_pu 21 rfl (pu_extractL rfl) (by kernel_rfl) (by kernel_rfl) (by kernel_rfl) ?_ | refine d_pu 21 rfl (pu_extract rfl rfl) (by kernel_rfl) (by kernel_rfl) (by kernel_rfl) ?_
  first | refine d_pu 22 rfl (pu_extractL rfl) (by kernel_rfl) (by kernel_rfl) (by kernel_rfl) ?_ | refine d_pu 22 rfl (pu_extract rfl rfl) (by kernel_rfl) (by kernel_rfl) (by kernel_rfl) ?_
  refine d_pu 23 rfl (pu_assign rfl) (by kernel_rfl) (by kernel_rfl) (by kernel_rfl) ?_
  refine d_pu 24 rfl (pu_assign rfl) (by kernel_rfl) (by kernel_rfl) (by kernel_rfl) ?_
  refine d_pu 25 rfl (pu_assign rfl) (by kernel_rfl) (by kernel_rfl) (by kernel_rfl) ?_
  refine d_pu 26 rfl (pu_assign rfl) (by kernel_rfl) (by kernel_rfl) (by kernel_rfl) ?_
  refine d_sub _ (.cons (t := 2) rfl (.cons (t := 3) rfl (.cons (t := 5) rfl (.cons (t := 6) rfl (.cons (t := 7) rfl (.cons (t := 8) rfl (.cons (t := 9) rfl (.cons (t := 10) rfl (.cons (t := 11) rfl (.cons (t := 12) rfl (.cons (t := 13) rfl .nil))))))))))) ?_
  first | refine d_nilt (by kernel_rfl) ?_ | refine d_nilf (by kernel_rfl) ?_
  refine then_n ?_
  refine swp_seq ?_
  refine swp_seq ?_
  have hU := HW.U_len hW hn10
  have hTl := hTO.len
  generalize hV : virtV W a b lim = V at *
  refine swp_region ?_
  refine s_pu (pu_move rfl) ?_
  refine s_pu (pu_move rfl) ?_
  refine swl_lend_own (v := tv) (μ := μ4) (by repeat (first | exact Split.nil | (apply Split.cons; (repeat (first | with_reducible exact Take.here | apply Take.there))))) fun μ5 h5 rt hback => ?_
  refine s_ef (ef_fn (same_spec μ5 tv uv V.1 V.1 rt (ru.le h5)) rfl rfl (by repeat (first | exact Split.nil | (apply Split.cons; (repeat (first | with_reducible exact Take.here | apply Take.there)))))) ?_
  rintro v80 L1 ⟨rfl, rfl⟩
  refine swl_app ?_
  obtain ⟨μ6, h6, hb⟩ := hback μ5 (Le.refl _)
  refine swl_ent (Split.ent' (K := [ro μ5, W.A s3, blk b3 31 [.int .i64 a, .int .i64 b, .int .i64 lim], blk b2 29 w.cells]) (by repeat (first | exact Split.nil | (apply Split.cons; (repeat (first | with_reducible exact Take.here | apply Take.there)))))) ?_
  refine swl_ent (hb _) ?_
  refine s_pu (pu_not rfl) ?_
  refine s_pu (pu_move rfl) ?_
  refine s_split 82 rfl (fun h82 => by simp at h82) (fun h82 => ?_)
  refine s_on rfl rfl ?_
  refine s_pu (pu_move rfl) ?_
  refine s_on rfl rfl ?_
  refine s_pu (pu_move rfl) ?_
  refine s_on rfl rfl ?_
  refine s_pu (pu_bool_ne rfl rfl) ?_
  first | refine s_pu (pu_pick_t rfl rfl) ?_ | refine s_pu (pu_pick_f rfl rfl) ?_
  refine s_pu (pu_move rfl) ?_
  refine s_split 87 rfl (fun h87 => by simp at h87) (fun h87 => ?_)
  refine s_on rfl rfl ?_
  refine s_pu (pu_move rfl) ?_
  refine s_on rfl rfl ?_
  refine s_pu (pu_move rfl) ?_
  refine s_on rfl rfl ?_
  refine s_pu (pu_neq rfl rfl) ?_
  first | refine s_pu (pu_pick_t rfl rfl) ?_ | refine s_pu (pu_pick_f rfl rfl) ?_
  refine s_pu (pu_move rfl) ?_
  refine s_split 92 rfl (fun h92 => by simp at h92) (fun h92 => ?_)
  refine s_on rfl rfl ?_
  refine s_pu (pu_move rfl) ?_
  refine s_on rfl rfl ?_
  refine s_pu (pu_move rfl) ?_
  refine s_on rfl rfl ?_
  refine s_pu (pu_neq rfl rfl) ?_
  first | refine s_pu (pu_pick_t rfl rfl) ?_ | refine s_pu (pu_pick_f rfl rfl) ?_
  refine swl_sub _ (.cons (t := 2) rfl (.cons (t := 3) rfl (.cons (t := 5) rfl (.cons (t := 6) rfl (.cons (t := 96) rfl .nil))))) ?_
  refine swl_nil ?_
  refine then_n ?_
  refine swp_cond (b := _) rfl (fun h96 => by simp at h96) (fun h96 => ?_)
  refine swp_skip ?_
  refine then_n ?_
  refine swp_seq ?_
  refine swp_seq ?_
  refine swp_fact (fun m h => own_cap2 h) fun ⟨At, ct, htv, hc1, hc2, hc3, hc4⟩ => ?_
  subst htv
  refine swp_region ?_
  refine s_pu (pu_move rfl) ?_
  refine s_pu (pu_len rfl) ?_
  refine s_pu (pu_move rfl) ?_
  refine swl_sub _ (.cons (t := 2) rfl (.cons (t := 3) rfl (.cons (t := 5) rfl (.cons (t := 6) rfl (.cons (t := 98) rfl (.cons (t := 99) rfl .nil)))))) ?_
  refine swl_nil ?_
  refine then_n ?_
  refine swp_block ?_
  refine swp_loop (ι := Nat) (fun i env L => ∃ ts : List En, Sub env [(2, .pointer (some ⟨b2, 0, none⟩)), (3, .pointer (some ⟨b3, 0, none⟩)), (5, .pointer (some ⟨W.p, 0, none⟩)), (6, .slice At V.1.length ct), (98, .int .i64 (V.1.length : Nat)), (99, .int .i64 (i : Nat))] ∧ L = [own 49 2 (.slice At V.1.length ct) V.1.length (ens ts), ro μ6, W.A s3, blk b3 31 [.int .i64 a, .int .i64 b, .int .i64 lim], blk b2 29 w.cells] ∧ ts.length = V.1.length ∧ i ≤ V.1.length) (fun i => V.1.length - i) 0 ⟨V.1, ⟨rfl, rfl, rfl, rfl, rfl, rfl, trivial⟩, rfl, rfl, Nat.zero_le _⟩ ?_
  rintro i env L ⟨ts, hsub, rfl, htl, hi⟩
  refine swp_sub _ hsub ?_
  clear hsub env
  refine swp_seq ?_
  refine swp_region ?_
  refine s_pu (pu_lss rfl rfl) ?_
  refine swl_sub _ (.cons (t := 2) rfl (.cons (t := 3) rfl (.cons (t := 5) rfl (.cons (t := 6) rfl (.cons (t := 98) rfl (.cons (t := 99) rfl (.cons (t := 100) rfl .nil))))))) ?_
  refine swl_nil ?_
  refine then_n ?_
  refine swp_seq ?_
  refine swp_cond (b := _) rfl (fun h100 => ?_) (fun h100 => ?_)
  ·skip
   have h100' : i < V.1.length := by have := of_decide_eq_true h100; omega
   obtain ⟨bt, rfl⟩ : ∃ bt, At = some ⟨bt, 0, none⟩ := by
    cases At with
    | none => have := hc3 rfl; omega
    | some a => obtain ⟨bt, rfl⟩ := hc4 a rfl; exact ⟨bt, rfl⟩
   refine swp_skip ?_
   refine then_n ?_
   refine swp_seq ?_
   refine swp_block ?_
   refine swp_seq ?_
   refine swp_region ?_
   refine s_pu (pu_move rfl) ?_
   refine s_pu (pu_assign rfl) ?_
   refine swl_sub _ (.cons (t := 2) rfl (.cons (t := 3) rfl (.cons (t := 5) rfl (.cons (t := 6) rfl (.cons (t := 14) rfl (.cons (t := 98) rfl (.cons (t := 99) rfl .nil))))))) ?_
   refine swl_nil ?_
   refine then_n ?_
   refine swp_region ?_
   refine s_pu (pu_move rfl) ?_
   refine s_pu (pu_move rfl) ?_
   refine s_pu (pu_bld (qs := [(0, _)]) rfl) ?_
   refine s_pu (pu_indexAddr (0 + i * 2) rfl rfl (by omega) (by omega) (by rw [Int.toNat_natCast])) ?_
   refine s_ef0 (ef_store_ownA (vs := enc1 spoilE) rfl rfl (by repeat (first | exact Split.nil | (apply Split.cons; (repeat (first | with_reducible exact Take.here | apply Take.there))))) (by show 0 + i * 2 + 2 ≤ _; rw [flat_length (f := enc1) (k := 2) (fun _ => rfl)]; omega) rfl rfl) ?_
   refine swl_sub _ (.cons (t := 2) rfl (.cons (t := 3) rfl (.cons (t := 5) rfl (.cons (t := 6) rfl (.cons (t := 98) rfl (.cons (t := 99) rfl .nil)))))) ?_
   refine swl_nil ?_
   refine block_n ?_
   refine then_n ?_
   refine swp_region ?_
   refine s_pu (pu_add_as ((i + 1 : Nat) : Int) rfl rfl (by omega) (by omega) (by omega)) ?_
   refine s_pu (pu_move rfl) ?_
   refine swl_sub _ (.cons (t := 2) rfl (.cons (t := 3) rfl (.cons (t := 5) rfl (.cons (t := 6) rfl (.cons (t := 98) rfl (.cons (t := 99) rfl .nil)))))) ?_
   refine swl_nil ?_
   refine then_n ⟨i + 1, ⟨ts.set i spoilE, ⟨rfl, rfl, rfl, rfl, rfl, rfl, trivial⟩, ?_, by rw [List.length_set]; exact htl, by omega⟩, by show V.1.length - (i + 1) < V.1.length - i; omega⟩
   rw [show ens (ts.set i spoilE) = over (ens ts) (enc1 spoilE) (0 + i * 2) by rw [Nat.zero_add]; exact (flat_over2 (f := enc1) (n := 2) (fun _ => rfl) (by omega)).symm]
  ·skip
   refine swp_exit ?_
   refine then_x ?_
   refine then_x ?_
   refine block_hit rfl ?_
   refine then_n ?_
   refine swp_seq ?_
   refine swp_region ?_
   refine s_pu (pu_move rfl) ?_
   refine s_pu (pu_bld (qs := [(0, _)]) rfl) ?_
   refine s_ef (ef_bldS (qs := [(0, _)]) rfl rfl rfl) ?_
   intro b109
   refine s_ef (ef_append_lit (l := V.1.length) (m := 1) rfl rfl (by repeat (first | exact Split.nil | (apply Split.cons; (repeat (first | with_reducible exact Take.here | apply Take.there))))) (by simp only [maxLen]; omega) (by omega)) ?_
   rintro v' hv'
   skip
   refine swl_sub _ (.cons (t := 2) rfl (.cons (t := 3) rfl (.cons (t := 5) rfl .nil))) ?_
   refine swl_ent (Split.ent' (K := [W.A s3, blk b3 31 [.int .i64 a, .int .i64 b, .int .i64 lim], blk b2 29 w.cells, ro μ6]) (by repeat (first | exact Split.nil | (apply Split.cons; (repeat (first | with_reducible exact Take.here | apply Take.there)))))) ?_
   have h26 : Le μ2 μ6 := h3.trans (h4.trans h6)
   have hW6 := hW.le h26
   refine swl_nil ?_
   refine then_n ?_
   refine swp_seq ?_
   refine swp_region ?_
   refine s_pu (pu_move rfl) ?_
   refine s_pu (pu_iface rfl) ?_
   first | refine s_pu (pu_fieldAddr0 rfl) ?_ | refine s_pu (pu_fieldAddr rfl) ?_
   refine s_rd (rd_load rfl rfl) ?_
   first | refine s_pu (pu_fieldAddr0 rfl) ?_ | refine s_pu (pu_fieldAddr rfl) ?_
   refine s_rd (rd_load rfl rfl) ?_
   first | refine s_pu (pu_fieldAddr0 rfl) ?_ | refine s_pu (pu_fieldAddr rfl) ?_
   refine s_rd (rd_load rfl rfl) ?_
   refine s_ef (ef_fn (vmerge_spec W μ6 hW6 hn10 μ6 (Le.refl _) (hT.le (hl12.trans h26)) s3 4097 (fun c => Nat.le_trans (hs3 c) (by omega)) (by omega) a b lim) rfl rfl (by repeat (first | exact Split.nil | (apply Split.cons; (repeat (first | with_reducible exact Take.here | apply Take.there)))))) ?_
   rintro v120 L1 ⟨xv, lv, s7, μ7, h7, hs7, hTO7, rfl, rfl⟩
   refine swl_app ?_
   refine s_pu (pu_move rfl) ?_
   first | refine s_pu (pu_extractL rfl) ?_ | refine s_pu (pu_extract rfl rfl) ?_
   first | refine s_pu (pu_extractL rfl) ?_ | refine s_pu (pu_extract rfl rfl) ?_
   first | refine s_pu (pu_extractL rfl) ?_ | refine s_pu (pu_extract rfl rfl) ?_
   first | refine s_pu (pu_extractL rfl) ?_ | refine s_pu (pu_extract rfl rfl) ?_
   refine s_pu (pu_assign rfl) ?_
   refine s_pu (pu_assign rfl) ?_
   refine s_pu (pu_assign rfl) ?_
   refine s_pu (pu_assign rfl) ?_
   refine swl_sub _ (.cons (t := 2) rfl (.cons (t := 3) rfl (.cons (t := 5) rfl (.cons (t := 8) rfl (.cons (t := 9) rfl (.cons (t := 15) rfl (.cons (t := 16) rfl .nil))))))) ?_
   refine swl_nil ?_
   refine then_n ?_
   refine swp_seq ?_
   refine swp_share_own (e := 88) (n := 4) (v := lv) (μ := μ7) (by repeat (first | exact Split.nil | (apply Split.cons; (repeat (first | with_reducible exact Take.here | apply Take.there))))) fun μ8 h8 rl => ?_
   refine swp_draw [3, 6, 10, 12, 14, 16] _ [] (by simp only [List.append_nil]; exact Ent.refl _) (by kernel_rfl) ?_
   refine d_pu 0 rfl (pu_move rfl) (by kernel_rfl) (by kernel_rfl) (by kernel_rfl) ?_
   first | refine d_pu 1 rfl (pu_nilCheck rfl) (by kernel_rfl) (by kernel_rfl) (by kernel_rfl) ?_ | refine d_pu 1 rfl (pu_nilCheck_fn rfl) (by kernel_rfl) (by kernel_rfl) (by kernel_rfl) ?_ | refine d_pu 1 rfl (pu_nilCheck_if rfl) (by kernel_rfl) (by kernel_rfl) (by kernel_rfl) ?_
   first | refine d_pu 2 rfl (pu_fieldAddr0 rfl) (by kernel_rfl) (by kernel_rfl) (by kernel_rfl) ?_ | refine d_pu 2 rfl (pu_fieldAddr rfl) (by kernel_rfl) (by kernel_rfl) (by kernel_rfl) ?_
   refine d_rd 3 rfl (rd_hwP rfl (by repeat (first | with_reducible exact Take.here | apply Take.there)) (fun _ _ => rfl)) rfl (by kernel_rfl) (by kernel_rfl) (by kernel_rfl) ?_
   first | refine d_pu 4 rfl (pu_nilCheck rfl) (by kernel_rfl) (by kernel_rfl) (by kernel_rfl) ?_ | refine d_pu 4 rfl (pu_nilCheck_fn rfl) (by kernel_rfl) (by kernel_rfl) (by kernel_rfl) ?_ | refine d_pu 4 rfl (pu_nilCheck_if rfl) (by kernel_rfl) (by kernel_rfl) (by kernel_rfl) ?_
   first | refine d_pu 5 rfl (pu_fieldAddr0 rfl) (by kernel_rfl) (by kernel_rfl) (by kernel_rfl) ?_ | refine d_pu 5 rfl (pu_fieldAddr rfl) (by kernel_rfl) (by kernel_rfl) (by kernel_rfl) ?_
   refine d_rd 6 rfl (rd_hwG rfl (by repeat (first | with_reducible exact Take.here | apply Take.there))) rfl (by kernel_rfl) (by kernel_rfl) (by kernel_rfl) ?_
   refine d_pu 7 rfl (pu_move rfl) (by kernel_rfl) (by kernel_rfl) (by kernel_rfl) ?_
   first | refine d_pu 8 rfl (pu_nilCheck rfl) (by kernel_rfl) (by kernel_rfl) (by kernel_rfl) ?_ | refine d_pu 8 rfl (pu_nilCheck_fn rfl) (by kernel_rfl) (by kernel_rfl) (by kernel_rfl) ?_ | refine d_pu 8 rfl (pu_nilCheck_if rfl) (by kernel_rfl) (by kernel_rfl) (by kernel_rfl) ?_
   first | refine d_pu 9 rfl (pu_fieldAddr0 rfl) (by kernel_rfl) (by kernel_rfl) (by kernel_rfl) ?_ | refine d_pu 9 rfl (pu_fieldAddr rfl) (by kernel_rfl) (by kernel_rfl) (by kernel_rfl) ?_
   refine d_rd 10 rfl (rd_hwP rfl (by repeat (first | with_reducible exact Take.here | apply Take.there)) (fun _ _ => rfl)) rfl (by kernel_rfl) (by kernel_rfl) (by kernel_rfl) ?_
   first | refine d_pu 11 rfl (pu_fieldAddr0 rfl) (by kernel_rfl) (by kernel_rfl) (by kernel_rfl) ?_ | refine d_pu 11 rfl (pu_fieldAddr rfl) (by kernel_rfl) (by kernel_rfl) (by kernel_rfl) ?_
   refine d_rd 12 rfl (rd_load rfl rfl) rfl (by kernel_rfl) (by kernel_rfl) (by kernel_rfl) ?_
   first | refine d_pu 13 rfl (pu_fieldAddr0 rfl) (by kernel_rfl) (by kernel_rfl) (by kernel_rfl) ?_ | refine d_pu 13 rfl (pu_fieldAddr rfl) (by kernel_rfl) (by kernel_rfl) (by kernel_rfl) ?_
   refine d_rd 14 rfl (rd_load rfl rfl) rfl (by kernel_rfl) (by kernel_rfl) (by kernel_rfl) ?_
   first | refine d_pu 15 rfl (pu_fieldAddr0 rfl) (by kernel_rfl) (by kernel_rfl) (by kernel_rfl) ?_ | refine d_pu 15 rfl (pu_fieldAddr rfl) (by kernel_rfl) (by kernel_rfl) (by kernel_rfl) ?_
   refine d_rd 16 rfl (rd_load rfl rfl) rfl (by kernel_rfl) (by kernel_rfl) (by kernel_rfl) ?_
   first | refine d_fint 17 rfl (by kernel_rfl) (by kernel_rfl) (ef_fn (rvmerge_spec W μ8 (hW6.le (h7.trans h8)) hn10 a b lim) rfl rfl (by repeat (first | exact Split.nil | (apply Split.cons; (repeat (first | with_reducible exact Take.here | apply Take.there)))))) ?_ | refine d_finf 17 rfl (by kernel_rfl) (by kernel_rfl) (ef_fn (rvmerge_spec W μ8 (hW6.le (h7.trans h8)) hn10 a b lim) rfl rfl (by repeat (first | exact Split.nil | (apply Split.cons; (repeat (first | with_reducible exact Take.here | apply Take.there)))))) ?_
   rintro v143 L1 ⟨yv, kv, μ9, h9, rfl, ry, rk, rfl⟩
   refine swd_app ?_
   refine d_pu 18 rfl (pu_move rfl) (by kernel_rfl) (by kernel_rfl) (by kernel_rfl) ?_
   first | refine d_pu 19 rfl (pu_extractL rfl) (by kernel_rfl) (by kernel_rfl) (by kernel_rfl) ?_ | refine d_pu 19 rfl (pu_extract rfl rfl) (by kernel_rfl) (by kernel_rfl) (by kernel_rfl) ?_
   first | refine d_pu 20 rfl (pu_extractL rfl) (by kernel_rfl) (by kernel_rfl) (by kernel_rfl) ?_ | refine d_pu 20 rfl (pu_extract rfl rfl) (by kernel_rfl) (by kernel_rfl) (by kernel_rfl) ?_
   first | refine d_pu 21 rfl (pu_extractL rfl) (by kernel_rfl) (by kernel_rfl) (by kernel_rfl) ?_ | refine d_pu 21 rfl (pu_extract rfl rfl) (by kernel_rfl) (by kernel_rfl) (by kernel_rfl) ?_
   first | refine d_pu 22 rfl (pu_extractL rfl) (by kernel_rfl) (by kernel_rfl) (by kernel_rfl) ?_ | refine d_pu 22 rfl (pu_extract rfl rfl) (by kernel_rfl) (by kernel_rfl) (by kernel_rfl) ?_
   refine d_pu 23 rfl (pu_assign rfl) (by kernel_rfl) (by kernel_rfl) (by kernel_rfl) ?_
   refine d_pu 24 rfl (pu_assign rfl) (by kernel_rfl) (by kernel_rfl) (by kernel_rfl) ?_
   refine d_pu 25 rfl (pu_assign rfl) (by kernel_rfl) (by kernel_rfl) (by kernel_rfl) ?_
   refine d_pu 26 rfl (pu_assign rfl) (by kernel_rfl) (by kernel_rfl) (by kernel_rfl) ?_
   refine d_sub _ (.cons (t := 2) rfl (.cons (t := 3) rfl (.cons (t := 5) rfl (.cons (t := 8) rfl (.cons (t := 9) rfl (.cons (t := 12) rfl (.cons (t := 13) rfl (.cons (t := 15) rfl (.cons (t := 16) rfl (.cons (t := 17) rfl (.cons (t := 18) rfl .nil))))))))))) ?_
   first | refine d_nilt (by kernel_rfl) ?_ | refine d_nilf (by kernel_rfl) ?_
   refine then_n ?_
   refine swp_seq ?_
   refine swp_seq ?_
   have hM1 : (mergeV W a b lim).1.length ≤ 1000000 := Nat.le_trans hTO7.len hU
   generalize hM : mergeV W a b lim = M at *
   refine swp_region ?_
   refine s_pu (pu_move rfl) ?_
   refine s_pu (pu_move rfl) ?_
   refine swl_lend_own (v := xv) (μ := μ9) (by repeat (first | exact Split.nil | (apply Split.cons; (repeat (first | with_reducible exact Take.here | apply Take.there))))) fun μ10 h10 rx hback2 => ?_
   refine s_ef (ef_fn (same_spec μ10 xv yv M.1 M.1 rx (ry.le h10)) rfl rfl (by repeat (first | exact Split.nil | (apply Split.cons; (repeat (first | with_reducible exact Take.here | apply Take.there)))))) ?_
   rintro v150 L1 ⟨rfl, rfl⟩
   refine swl_app ?_
   obtain ⟨μ11, h11, hb2⟩ := hback2 μ10 (Le.refl _)
   refine swl_ent (Split.ent' (K := [ro μ10, W.A s7, blk b3 31 [.int .i64 a, .int .i64 b, .int .i64 lim], blk b2 29 w.cells]) (by repeat (first | exact Split.nil | (apply Split.cons; (repeat (first | with_reducible exact Take.here | apply Take.there)))))) ?_
   refine swl_ent (hb2 _) ?_
   refine s_pu (pu_not rfl) ?_
   refine s_pu (pu_move rfl) ?_
   refine s_split 152 rfl (fun h152 => by simp at h152) (fun h152 => ?_)
   refine s_on rfl rfl ?_
   refine s_pu (pu_move rfl) ?_
   refine s_on rfl rfl ?_
   refine s_pu (pu_move rfl) ?_
   refine s_on rfl rfl ?_
   refine s_ef (ef_fn (samec_spec μ11 lv kv M.2.1 M.2.1 (rl.le (h9.trans h11)) (rk.le h11)) rfl rfl (by repeat (first | exact Split.nil | (apply Split.cons; (repeat (first | with_reducible exact Take.here | apply Take.there)))))) ?_
   rintro v155 L1 ⟨rfl, rfl⟩
   refine swl_app ?_
   refine s_on rfl rfl ?_
   refine s_pu (pu_not rfl) ?_
   first | refine s_pu (pu_pick_t rfl rfl) ?_ | refine s_pu (pu_pick_f rfl rfl) ?_
   refine s_pu (pu_move rfl) ?_
   refine s_split 158 rfl (fun h158 => by simp at h158) (fun h158 => ?_)
   refine s_on rfl rfl ?_
   refine s_pu (pu_move rfl) ?_
   refine s_on rfl rfl ?_
   refine s_pu (pu_move rfl) ?_
   refine s_on rfl rfl ?_
   refine s_pu (pu_neq rfl rfl) ?_
   first | refine s_pu (pu_pick_t rfl rfl) ?_ | refine s_pu (pu_pick_f rfl rfl) ?_
   refine s_pu (pu_move rfl) ?_
   refine s_split 163 rfl (fun h163 => by simp at h163) (fun h163 => ?_)
   refine s_on rfl rfl ?_
   refine s_pu (pu_move rfl) ?_
   refine s_on rfl rfl ?_
   refine s_pu (pu_move rfl) ?_
   refine s_on rfl rfl ?_
   refine s_pu (pu_neq rfl rfl) ?_
   first | refine s_pu (pu_pick_t rfl rfl) ?_ | refine s_pu (pu_pick_f rfl rfl) ?_
   refine swl_sub _ (.cons (t := 2) rfl (.cons (t := 3) rfl (.cons (t := 5) rfl (.cons (t := 15) rfl (.cons (t := 17) rfl (.cons (t := 167) rfl .nil)))))) ?_
   refine swl_nil ?_
   refine then_n ?_
   refine swp_cond (b := _) rfl (fun h167 => by simp at h167) (fun h167 => ?_)
   refine swp_skip ?_
   refine then_n ?_
   refine swp_seq ?_
   refine swp_seq ?_
   refine swp_front (A := own 49 2 xv M.1.length (ens M.1)) (by repeat (first | with_reducible exact Take.here | apply Take.there)) ?_
   refine swp_fact (fun m h => own_cap2 h) fun ⟨Ax, cx, hxv, hd1, hd2, hd3, hd4⟩ => ?_
   subst hxv
   refine swp_region ?_
   refine s_pu (pu_move rfl) ?_
   refine s_pu (pu_len rfl) ?_
   refine s_pu (pu_move rfl) ?_
   refine swl_sub _ (.cons (t := 2) rfl (.cons (t := 3) rfl (.cons (t := 5) rfl (.cons (t := 15) rfl (.cons (t := 17) rfl (.cons (t := 169) rfl (.cons (t := 170) rfl .nil))))))) ?_
   refine swl_nil ?_
   refine then_n ?_
   refine swp_block ?_
   refine swp_ent (Split.ent' (K := [own 49 2 (.slice Ax M.1.length cx) M.1.length (ens M.1), ro μ11, W.A s7, blk b3 31 [.int .i64 a, .int .i64 b, .int .i64 lim], blk b2 29 w.cells]) (by repeat (first | exact Split.nil | (apply Split.cons; (repeat (first | with_reducible exact Take.here | apply Take.there)))))) ?_
   refine swp_loop (ι := Nat) (fun i env L => ∃ ts : List En, Sub env [(2, .pointer (some ⟨b2, 0, none⟩)), (3, .pointer (some ⟨b3, 0, none⟩)), (5, .pointer (some ⟨W.p, 0, none⟩)), (15, .slice Ax M.1.length cx), (17, yv), (169, .int .i64 (M.1.length : Nat)), (170, .int .i64 (i : Nat))] ∧ L = [own 49 2 (.slice Ax M.1.length cx) M.1.length (ens ts), ro μ11, W.A s7, blk b3 31 [.int .i64 a, .int .i64 b, .int .i64 lim], blk b2 29 w.cells] ∧ ts.length = M.1.length ∧ i ≤ M.1.length) (fun i => M.1.length - i) 0 ⟨M.1, ⟨rfl, rfl, rfl, rfl, rfl, rfl, rfl, trivial⟩, rfl, rfl, Nat.zero_le _⟩ ?_
   rintro i env L ⟨ts, hsub, rfl, htl, hi⟩
   refine swp_sub _ hsub ?_
   clear hsub env
   refine swp_seq ?_
   refine swp_region ?_
   refine s_pu (pu_lss rfl rfl) ?_
   refine swl_sub _ (.cons (t := 2) rfl (.cons (t := 3) rfl (.cons (t := 5) rfl (.cons (t := 15) rfl (.cons (t := 17) rfl (.cons (t := 169) rfl (.cons (t := 170) rfl (.cons (t := 171) rfl .nil)))))))) ?_
   refine swl_nil ?_
   refine then_n ?_
   refine swp_seq ?_
   refine swp_cond (b := _) rfl (fun h171 => ?_) (fun h171 => ?_)
   ·skip
    have h171' : i < M.1.length := by have := of_decide_eq_true h171; omega
    obtain ⟨bt, rfl⟩ : ∃ bt, Ax = some ⟨bt, 0, none⟩ := by
     cases Ax with
     | none => have := hd3 rfl; omega
     | some a => obtain ⟨bt, rfl⟩ := hd4 a rfl; exact ⟨bt, rfl⟩
    refine swp_skip ?_
    refine then_n ?_
    refine swp_seq ?_
    refine swp_block ?_
    refine swp_seq ?_
    refine swp_region ?_
    refine s_pu (pu_move rfl) ?_
    refine s_pu (pu_assign rfl) ?_
    refine swl_sub _ (.cons (t := 2) rfl (.cons (t := 3) rfl (.cons (t := 5) rfl (.cons (t := 15) rfl (.cons (t := 17) rfl (.cons (t := 19) rfl (.cons (t := 169) rfl (.cons (t := 170) rfl .nil)))))))) ?_
    refine swl_nil ?_
    refine then_n ?_
    refine swp_region ?_
    refine s_pu (pu_move rfl) ?_
    refine s_pu (pu_move rfl) ?_
    refine s_pu (pu_bld (qs := [(0, _)]) rfl) ?_
    refine s_pu (pu_indexAddr (0 + i * 2) rfl rfl (by omega) (by omega) (by rw [Int.toNat_natCast])) ?_
    refine s_ef0 (ef_store_ownA (vs := enc1 spoilE) rfl rfl (by repeat (first | exact Split.nil | (apply Split.cons; (repeat (first | with_reducible exact Take.here | apply Take.there))))) (by show 0 + i * 2 + 2 ≤ _; rw [flat_length (f := enc1) (k := 2) (fun _ => rfl)]; omega) rfl rfl) ?_
    refine swl_sub _ (.cons (t := 2) rfl (.cons (t := 3) rfl (.cons (t := 5) rfl (.cons (t := 15) rfl (.cons (t := 17) rfl (.cons (t := 169) rfl (.cons (t := 170) rfl .nil))))))) ?_
    refine swl_nil ?_
    refine block_n ?_
    refine then_n ?_
    refine swp_region ?_
    refine s_pu (pu_add_as ((i + 1 : Nat) : Int) rfl rfl (by omega) (by omega) (by omega)) ?_
    refine s_pu (pu_move rfl) ?_
    refine swl_sub _ (.cons (t := 2) rfl (.cons (t := 3) rfl (.cons (t := 5) rfl (.cons (t := 15) rfl (.cons (t := 17) rfl (.cons (t := 169) rfl (.cons (t := 170) rfl .nil))))))) ?_
    refine swl_nil ?_
    refine then_n ⟨i + 1, ⟨ts.set i spoilE, ⟨rfl, rfl, rfl, rfl, rfl, rfl, rfl, trivial⟩, ?_, by rw [List.length_set]; exact htl, by omega⟩, by show M.1.length - (i + 1) < M.1.length - i; omega⟩
    rw [show ens (ts.set i spoilE) = over (ens ts) (enc1 spoilE) (0 + i * 2) by rw [Nat.zero_add]; exact (flat_over2 (f := enc1) (n := 2) (fun _ => rfl) (by omega)).symm]
   ·skip
    have h211 : Le μ2 μ11 := h26.trans (h7.trans (h8.trans (h9.trans h11)))
    have hW11 := hW.le h211
    refine swp_exit ?_
    refine then_x ?_
    refine then_x ?_
    refine block_hit rfl ?_
    refine then_n ?_
    refine swp_seq ?_
    refine swp_region ?_
    refine s_pu (pu_move rfl) ?_
    refine s_pu (pu_iface rfl) ?_
    first | refine s_pu (pu_fieldAddr0 rfl) ?_ | refine s_pu (pu_fieldAddr rfl) ?_
    refine s_rd (rd_load rfl rfl) ?_
    first | refine s_pu (pu_fieldAddr0 rfl) ?_ | refine s_pu (pu_fieldAddr rfl) ?_
    refine s_rd (rd_load rfl rfl) ?_
    first | refine s_pu (pu_fieldAddr0 rfl) ?_ | refine s_pu (pu_fieldAddr rfl) ?_
    refine s_rd (rd_load rfl rfl) ?_
    refine s_ef (ef_fn (vmerge_spec W μ11 hW11 hn10 μ11 (Le.refl _) (hT.le (hl12.trans h211)) s7 8194 (fun c => Nat.le_trans (hs7 c) (by omega)) (by omega) a b lim) rfl rfl (by repeat (first | exact Split.nil | (apply Split.cons; (repeat (first | with_reducible exact Take.here | apply Take.there)))))) ?_
    rintro v187 L1 ⟨zv, jv, s12, μ12, h12, hs12, _, rfl, rfl⟩
    rw [hM]
    refine swl_app ?_
    refine swl_share_own (v := zv) (μ := μ12) (by repeat (first | exact Split.nil | (apply Split.cons; (repeat (first | with_reducible exact Take.here | apply Take.there))))) fun μ13 h13 rz => ?_
    have h213 : Le μ2 μ13 := h211.trans (h12.trans h13)
    refine s_pu (pu_move rfl) ?_
    first | refine s_pu (pu_extractL rfl) ?_ | refine s_pu (pu_extract rfl rfl) ?_
    first | refine s_pu (pu_extractL rfl) ?_ | refine s_pu (pu_extract rfl rfl) ?_
    first | refine s_pu (pu_extractL rfl) ?_ | refine s_pu (pu_extract rfl rfl) ?_
    first | refine s_pu (pu_extractL rfl) ?_ | refine s_pu (pu_extract rfl rfl) ?_
    refine s_pu (pu_assign rfl) ?_
    refine s_pu (pu_assign rfl) ?_
    refine s_pu (pu_assign rfl) ?_
    refine s_pu (pu_assign rfl) ?_
    refine swl_sub _ (.cons (t := 2) rfl (.cons (t := 5) rfl (.cons (t := 17) rfl (.cons (t := 20) rfl .nil)))) ?_
    refine swl_nil ?_
    refine then_n ?_
    refine swp_seq ?_
    refine swp_region ?_
    first | refine s_rd (rd_loadW rfl rfl) ?_ | refine s_rd (rd_loadX rfl rfl rfl) ?_
    refine s_ef (ef_fn (of3_spec w μ13 (h.le (hl12.trans h213)) 40 (by decide)) rfl rfl (by repeat (first | exact Split.nil | (apply Split.cons; (repeat (first | with_reducible exact Take.here | apply Take.there)))))) ?_
    rintro v193 L1 ⟨μ14, o2, A2, h14, rfl, rfl, hof2, _⟩
    refine swl_app ?_
    obtain ⟨W2, rfl, hW2, hWG2, rfl⟩ : ∃ W : HW, o2 = some ⟨W.p, 0, none⟩ ∧ W.Ok μ14 ∧ W.G = w.G.take (min w.G.length 40) ∧ A2 = W.A st00 := by
     rcases hof2 with ⟨_, q⟩ | ⟨W, q1, q2, q3, q4, q5, q6⟩
     ·exact absurd hck0 q
     ·exact ⟨W, q1, q2, q3, q6⟩
    refine s_pu (pu_assign rfl) ?_
    refine swl_sub _ (.cons (t := 5) rfl (.cons (t := 17) rfl (.cons (t := 20) rfl (.cons (t := 24) rfl .nil)))) ?_
    refine swl_nil ?_
    refine then_n ?_
    refine swp_seq ?_
    refine swp_draw [7, 10, 14, 17] _ [] (by simp only [List.append_nil]; exact Ent.refl _) (by kernel_rfl) ?_
    refine d_pu 0 rfl (pu_move rfl) (by kernel_rfl) (by kernel_rfl) (by kernel_rfl) ?_
    refine d_pu 1 rfl (pu_move rfl) (by kernel_rfl) (by kernel_rfl) (by kernel_rfl) ?_
    refine d_eft 2 rfl (by kernel_rfl) (ef_fn (same_spec μ14 zv yv M.1 M.1 (rz.le h14) (ry.le (h11.trans (h12.trans (h13.trans h14))))) rfl rfl (by repeat (first | exact Split.nil | (apply Split.cons; (repeat (first | with_reducible exact Take.here | apply Take.there)))))) ?_
    rintro v196 L1 ⟨rfl, rfl⟩
    refine ⟨_, ent_appC (Split.ent (by repeat (first | exact Split.nil | (apply Split.cons; (repeat (first | with_reducible exact Take.here | apply Take.there)))))), ?_⟩
    refine d_pu 3 rfl (pu_move rfl) (by kernel_rfl) (by kernel_rfl) (by kernel_rfl) ?_
    refine d_split 197 rfl (fun h197 => ?_) (fun h197 => by simp at h197)
    refine d_pu_on 4 rfl rfl rfl (pu_move rfl) (by kernel_rfl) (by kernel_rfl) (by kernel_rfl) ?_
    first | refine d_pu_on 5 rfl rfl rfl (pu_nilCheck rfl) (by kernel_rfl) (by kernel_rfl) (by kernel_rfl) ?_ | refine d_pu_on 5 rfl rfl rfl (pu_nilCheck_fn rfl) (by kernel_rfl) (by kernel_rfl) (by kernel_rfl) ?_ | refine d_pu_on 5 rfl rfl rfl (pu_nilCheck_if rfl) (by kernel_rfl) (by kernel_rfl) (by kernel_rfl) ?_
    first | refine d_pu_on 6 rfl rfl rfl (pu_fieldAddr0 rfl) (by kernel_rfl) (by kernel_rfl) (by kernel_rfl) ?_ | refine d_pu_on 6 rfl rfl rfl (pu_fieldAddr rfl) (by kernel_rfl) (by kernel_rfl) (by kernel_rfl) ?_
    refine d_rd_on 7 rfl rfl rfl (rd_hwP rfl (by repeat (first | with_reducible exact Take.here | apply Take.there)) (fun _ _ => rfl)) rfl (by kernel_rfl) (by kernel_rfl) (by kernel_rfl) ?_
    first | refine d_pu_on 8 rfl rfl rfl (pu_nilCheck rfl) (by kernel_rfl) (by kernel_rfl) (by kernel_rfl) ?_ | refine d_pu_on 8 rfl rfl rfl (pu_nilCheck_fn rfl) (by kernel_rfl) (by kernel_rfl) (by kernel_rfl) ?_ | refine d_pu_on 8 rfl rfl rfl (pu_nilCheck_if rfl) (by kernel_rfl) (by kernel_rfl) (by kernel_rfl) ?_
    first | refine d_pu_on 9 rfl rfl rfl (pu_fieldAddr0 rfl) (by kernel_rfl) (by kernel_rfl) (by kernel_rfl) ?_ | refine d_pu_on 9 rfl rfl rfl (pu_fieldAddr rfl) (by kernel_rfl) (by kernel_rfl) (by kernel_rfl) ?_
    refine d_rd_on 10 rfl rfl rfl (rd_hwG rfl (by repeat (first | with_reducible exact Take.here | apply Take.there))) rfl (by kernel_rfl) (by kernel_rfl) (by kernel_rfl) ?_
    refine d_pu_on 11 rfl rfl rfl (pu_move rfl) (by kernel_rfl) (by kernel_rfl) (by kernel_rfl) ?_
    first | refine d_pu_on 12 rfl rfl rfl (pu_nilCheck rfl) (by kernel_rfl) (by kernel_rfl) (by kernel_rfl) ?_ | refine d_pu_on 12 rfl rfl rfl (pu_nilCheck_fn rfl) (by kernel_rfl) (by kernel_rfl) (by kernel_rfl) ?_ | refine d_pu_on 12 rfl rfl rfl (pu_nilCheck_if rfl) (by kernel_rfl) (by kernel_rfl) (by kernel_rfl) ?_
    first | refine d_pu_on 13 rfl rfl rfl (pu_fieldAddr0 rfl) (by kernel_rfl) (by kernel_rfl) (by kernel_rfl) ?_ | refine d_pu_on 13 rfl rfl rfl (pu_fieldAddr rfl) (by kernel_rfl) (by kernel_rfl) (by kernel_rfl) ?_
    refine d_rd_on 14 rfl rfl rfl (rd_hwP rfl (by repeat (first | with_reducible exact Take.here | apply Take.there)) (fun _ _ => rfl)) rfl (by kernel_rfl) (by kernel_rfl) (by kernel_rfl) ?_
    first | refine d_pu_on 15 rfl rfl rfl (pu_nilCheck rfl) (by kernel_rfl) (by kernel_rfl) (by kernel_rfl) ?_ | refine d_pu_on 15 rfl rfl rfl (pu_nilCheck_fn rfl) (by kernel_rfl) (by kernel_rfl) (by kernel_rfl) ?_ | refine d_pu_on 15 rfl rfl rfl (pu_nilCheck_if rfl) (by kernel_rfl) (by kernel_rfl) (by kernel_rfl) ?_
    first | refine d_pu_on 16 rfl rfl rfl (pu_fieldAddr0 rfl) (by kernel_rfl) (by kernel_rfl) (by kernel_rfl) ?_ | refine d_pu_on 16 rfl rfl rfl (pu_fieldAddr rfl) (by kernel_rfl) (by kernel_rfl) (by kernel_rfl) ?_
    refine d_rd_on 17 rfl rfl rfl (rd_hwG rfl (by repeat (first | with_reducible exact Take.here | apply Take.there))) rfl (by kernel_rfl) (by kernel_rfl) (by kernel_rfl) ?_
    refine d_amb [18] (by kernel_rfl) rfl ?_
    first | refine dA_fint 18 rfl (GOn.some rfl rfl) (by kernel_rfl) (ef_fn (samegraph_spec μ14 W2.vg W.vg W2.G W.G hW2.hG (hW11.hG.le (h12.trans (h13.trans h14)))) rfl rfl (by repeat (first | exact Split.nil | (apply Split.cons; (repeat (first | with_reducible exact Take.here | apply Take.there)))))) ?_ | refine dA_finf 18 rfl (GOn.some rfl rfl) (by kernel_rfl) (ef_fn (samegraph_spec μ14 W2.vg W.vg W2.G W.G hW2.hG (hW11.hG.le (h12.trans (h13.trans h14)))) rfl rfl (by repeat (first | exact Split.nil | (apply Split.cons; (repeat (first | with_reducible exact Take.here | apply Take.there)))))) ?_
    rintro v212 L1 ⟨rfl, rfl⟩
    refine swd_app ?_
    first | refine d_pu 19 rfl (pu_pick_t rfl rfl) (by kernel_rfl) (by kernel_rfl) (by kernel_rfl) ?_ | refine d_pu 19 rfl (pu_pick_f rfl rfl) (by kernel_rfl) (by kernel_rfl) (by kernel_rfl) ?_
    refine d_pu 20 rfl (pu_assign rfl) (by kernel_rfl) (by kernel_rfl) (by kernel_rfl) ?_
    refine d_sub _ (.cons (t := 4) rfl .nil) ?_
    first | refine d_nilt (by kernel_rfl) ?_ | refine d_nilf (by kernel_rfl) ?_
    refine then_n ?_
    refine swp_ret ?_
    refine done_ret [ro μ14] (.tmp rfl .nil) ⟨?_, μ14, [], hl12.trans (h213.trans h14), rfl⟩ (by repeat (first | exact Split.nil | (apply Split.cons; (repeat (first | with_reducible exact Take.here | apply Take.there)))))
    show Value.bool (decide _) = _
    rw [hWG2, hWG, decide_eq_true rfl]
end SX
namespace Go.Proofs.YtkldhmbmahgnjaaGreatDoor
open Go.ChangeShapes Go.WideShapes Go.ChangeAt Go.RowKit
theorem ownKnobF : ownKnob Tryz.prog.godebug = none := by kernel_rfl
theorem gTab : Tryz.prog.globalNamed "math/bits.deBruijn64tab" = some 1 := by kernel_rfl
theorem tTab : (Tryz.prog.globals[1]?).map (·.type) = some 198 := by kernel_rfl
theorem datum {H : Type} : (Rows.laid_math_bits_deBruijn64tab : DataW H) = .agg (Lib.deBruijn64tab.map fun n => .lit (.int .u8 (n : Nat))) := rfl
theorem tab_of {W : World} (h : laidMetH Tryz.prog Rows.vbaseTellsRow.laid W) : SX.RowAt (fun b => W.heap[b]?) 1 0 SX.tabV := by
  rw [MakeChecks.laidMetH_plain _ _ _ (by kernel_rfl)] at h
  obtain ⟨ps, ⟨g0, t0, cs0, f0, p0, q0, hg0, ht0, hv0, hd0, _, _⟩, _, _⟩ := h
  obtain rfl := Option.some.inj (gTab.symm.trans hg0)
  obtain rfl := Option.some.inj (tTab.symm.trans ht0)
  obtain ⟨xs, m, rfl, hx, _, hn, hel⟩ := DataW.trod_array Tryz.underlying198 hd0
  simp only [Prod.mk.injEq] at hx
  have hx1 := hx.1
  rw [datum] at hx1
  simp only [DataW.agg.injEq] at hx1
  have c5 : Tryz.prog.cellsOf 5 = 1 := by kernel_rfl
  have hlen : Lib.deBruijn64tab.length = 64 := rfl
  intro j u hj
  have hj64 : j < 64 := by
    have := (List.getElem?_eq_some_iff.1 hj).1
    simpa [SX.tabV, hlen] using this
  obtain ⟨k, hk⟩ : ∃ k, Lib.deBruijn64tab[j]? = some k := ⟨_, List.getElem?_eq_getElem (by omega)⟩
  have hu : u = .int .u8 (k : Nat) := by
    unfold SX.tabV at hj
    rw [List.getElem?_map, hk] at hj
    exact (Option.some.inj hj).symm
  obtain ⟨y, hy⟩ : ∃ y, xs[j]? = some y := ⟨_, List.getElem?_eq_getElem (by omega)⟩
  have h1 := hel j hj64
  rw [hy, c5, Nat.mul_one] at h1
  obtain ⟨n, e1, e2, _⟩ := DataW.trod_int Tryz.underlying5 h1
  have e3 : (xs.map (·.1))[j]? = some (.lit (.int .u8 n)) := by rw [List.getElem?_map, hy, e2]; rfl
  rw [← hx1, List.getElem?_map, hk] at e3
  have hnk : n = (k : Int) := by
    have := Option.some.inj e3
    simpa using this.symm
  have hc := World.var?_cell hg0 hv0 j
  have hcs : cs0[j]? = some (.int .u8 n) := by
    have : (cs0.toList.drop j)[0]? = some (.int .u8 n) := by
      have := congrArg (·[0]?) e1
      simpa [List.getElem?_take] using this
    rw [List.getElem?_drop, Nat.add_zero] at this
    simpa using this
  rw [hcs] at hc
  rw [Nat.zero_add, hu, ← hnk]
  exact (SX.spot_of_cell hc).2
theorem door_met (os : Os) (args : Array Value) : laidMetH Tryz.prog Rows.vbaseTellsRow.laid ((World.doorLaid Tryz.prog 400 os).forCall (fun _ _ => 0) ⟨#[], args, []⟩).memory :=
  laidMetH_of_parts3 (fuel := 8) (laidMet_of_run' 8 (by kernel_rfl) (by kernel_rfl)) (by kernel_rfl) (by kernel_rfl)
theorem wldT : SX.WldT Tryz.prog 29 22 44 3 23 35 49 9 24 26 27 4 where
  ok := ⟨_, _, _, _, _, _, _, _, _, _, Tryz.underlying29, Tryz.underlying26, Tryz.underlying49, ⟨rfl, rfl⟩, ⟨rfl, rfl⟩, ⟨rfl, rfl⟩, ⟨rfl, rfl⟩, ⟨rfl, rfl⟩, ⟨rfl, rfl⟩, ⟨rfl, rfl⟩, ⟨rfl, rfl⟩, ⟨rfl, rfl⟩, ⟨rfl, rfl⟩⟩
  uG := Tryz.underlying22
  uS := Tryz.underlying44
  uI := Tryz.underlying3
  uTs := Tryz.underlying23
  uT := Tryz.underlying35
  us := Tryz.underlying9
  uu := Tryz.underlying24
  uBs := Tryz.underlying27
  uB := Tryz.underlying4
  c := ⟨by kernel_rfl, by kernel_rfl, by kernel_rfl, by kernel_rfl, by kernel_rfl, by kernel_rfl, by kernel_rfl, by kernel_rfl, by kernel_rfl, by kernel_rfl, by kernel_rfl, by kernel_rfl⟩
theorem ask3 : ∃ g0 g1 g2, Tryz.prog.underlying 31 = some (.struct #[g0, g1, g2]) ∧ (g0.type = 3 ∧ g0.offset = 0) ∧ (g1.type = 3 ∧ g1.offset = 1) ∧ g2.type = 3 ∧ g2.offset = 2 := ⟨_, _, _, Tryz.underlying31, ⟨rfl, rfl⟩, ⟨rfl, rfl⟩, rfl, rfl⟩
end Go.Proofs.YtkldhmbmahgnjaaGreatDoor
