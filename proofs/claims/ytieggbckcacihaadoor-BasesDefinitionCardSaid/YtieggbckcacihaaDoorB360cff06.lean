/- A part of the proof: walks of the program's functions, and the rules by which they go. -/
import Derived.Test.YtieggbckcacihaaDoorB31a5fb22
import Derived.Test.YtieggbckcacihaaDoorBe3132745
import Derived.Test.YtieggbckcacihaaDoorRows
import Derived.Test.YtieggbckcacihaaDoorB7495e04a
import Derived.ProofKit
import Derived.LaidMore
import Derived.OpenShut
import Derived.Stop.Joined
namespace SX
open Go Go.Proofs

theorem wpK_add (b a i j : Nat) : wpK b a i + j = wpK b a (i + j) := by unfold wpK; rw [Nat.add_assoc]
theorem wpK_top2 {x a i : Nat} (h : x ≤ wpK 0 a i) (ha : a ≤ 1000) (hi : i ≤ 17592186043910) : x ≤ 20000000000000000 := by
  unfold wpK at *
  have h1 := cA_eq
  have h3 : a * cA ≤ 1000 * cA := Nat.mul_le_mul_right _ ha
  rw [Nat.zero_mul] at h
  generalize a * cA = y at *
  omega
theorem asked_leK {n : Nat} {gen : Int → Int} {q : Int} {zs : List Nat} {a : Nat → Nat} {b c i : Nat} (h : askedOk n gen q zs) (ha : ∀ d, a d ≤ wpK b c i) : ∀ d, (zs.foldl ask1 a) d ≤ wpK b c (i + 1) := fun d => by
  have := ask_le h.1 (ha d)
  rwa [wpK_add] at this
theorem elsTo_sorted (n : Nat) (S : Nat → Bool) : (elsTo n S).Pairwise (· < ·) := by
  unfold elsTo numsI
  rw [List.pairwise_map]
  exact (List.pairwise_lt_range.filter _).imp fun h => by omega
theorem sorted_at {l : List Int} (h : l.Pairwise (· < ·)) {i : Nat} {x y : Int} (hx : l[i]? = some x) (hy : l[i + 1]? = some y) : x < y := by
  obtain ⟨h1, e1⟩ := List.getElem?_eq_some_iff.1 hx
  obtain ⟨h2, e2⟩ := List.getElem?_eq_some_iff.1 hy
  rw [← e1, ← e2]
  exact List.pairwise_iff_getElem.1 h i (i + 1) h1 h2 (by omega)
/-- how many of them reach it -/
def unders (g : List (List Int)) (c : Nat) (l : List Int) : Nat := (l.filter fun x => up g x.toNat c).length
theorem unders_succ {g : List (List Int)} {c i : Nat} {l : List Int} {x : Int} (h : l[i]? = some x) : unders g c (l.take (i + 1)) = unders g c (l.take i) + if up g x.toNat c = true then 1 else 0 := by
  unfold unders
  rw [List.take_add_one, h, List.filter_append, List.length_append]
  congr 1
  show (List.filter _ [x]).length = _
  rw [List.filter_cons]
  split <;> rfl
theorem unders_le (g : List (List Int)) (c : Nat) (l : List Int) : unders g c l ≤ l.length := List.length_filter_le ..
theorem sides_under {g : List (List Int)} (hg : Good g) {a b c : Nat} (ha : a < g.length) (hb : b < g.length) (hc : c < g.length) :
    (up g a c && up g b c) = decide (0 < unders g c (sidesB g [(a : Int)] [(b : Int)])) ∧ ((c : Int) ∈ sidesB g [(a : Int)] [(b : Int)] → unders g c (sidesB g [(a : Int)] [(b : Int)]) = 1) := by
  have eS : bothS g [(a : Int)] [(b : Int)] = fun j => up g a j && up g b j := funext fun j => by
    unfold bothS
    rw [anyUp_one hg ha, anyUp_one hg hb]
  have hD := both_down hg a b
  have hm : ∀ x : Int, x ∈ sidesB g [(a : Int)] [(b : Int)] ↔ ∃ k : Nat, x = k ∧ k < g.length ∧ bestT g (fun j => up g a j && up g b j) g.length k = true := fun x => by
    unfold sidesB
    rw [eS, elsTo_mem]
  constructor
  · rw [Bool.eq_iff_iff, decide_eq_true_eq]
    constructor
    · intro h
      obtain ⟨y, h1, h2, h3⟩ := best_reach hg (S := fun j => up g a j && up g b j) (g.length - c) c (Nat.le_refl _) hc h
      unfold unders
      rw [List.length_pos_iff]
      refine List.ne_nil_of_mem (a := (y : Int)) (List.mem_filter.2 ⟨(hm y).2 ⟨y, rfl, h1, h2⟩, by rw [Int.toNat_natCast]; exact h3⟩)
    · intro h
      unfold unders at h
      rw [List.length_pos_iff] at h
      obtain ⟨x, hx⟩ := List.exists_mem_of_ne_nil _ h
      obtain ⟨h1, h2⟩ := List.mem_filter.1 hx
      obtain ⟨k, rfl, hk, hb'⟩ := (hm x).1 h1
      rw [Int.toNat_natCast] at h2
      exact hD k c (best_iff.1 hb').1 h2
  · intro hc'
    have hnd : (sidesB g [(a : Int)] [(b : Int)]).Nodup := (elsTo_sorted _ _).imp fun h e => by omega
    have hcn := count_nodup hnd (c : Int)
    rw [if_pos hc'] at hcn
    obtain ⟨k, e, hk, hbk⟩ := (hm c).1 hc'
    obtain rfl : k = c := by omega
    rw [← hcn, List.count_eq_length_filter]
    unfold unders
    congr 1
    apply List.filter_congr
    intro x hx
    obtain ⟨y, rfl, hy, hby⟩ := (hm x).1 hx
    rw [Int.toNat_natCast, Bool.eq_iff_iff, beq_iff_eq]
    constructor
    · intro h
      rw [best_apart hg hD hby hbk h]
    · intro h
      rw [show y = k by omega]; exact up_refl hg k
set_option maxHeartbeats 8000000 in
theorem basesdefinition_spec (μ : PH) (v : Value) (G : List (Value × List Int)) (kn a b : Int) (hT : RowAt μ 0 0 tabV) (hG : Graph μ v G) (hn : G.length ≤ 17592186043904) (hrows : ∀ x ∈ G, x.2.length ≤ 17592186043904) (hkn : 0 ≤ kn ∧ kn ≤ 255) :
    Spec Tryd.prog 12 [v, .int .u8 kn, .agg #[.int .i64 a, .int .i64 b]] [ro μ] (LawOk μ) := by
  refine Spec.of 133 Tryd.func12 rfl rfl rfl ?_
  refine swp_seq ?_
  refine swp_region ?_
  refine s_ef (ef_box rfl rfl) ?_
  intro b5
  refine s_pu (pu_assign rfl) ?_
  refine swl_sub _ (.cons (t := 0) rfl (.cons (t := 1) rfl (.cons (t := 5) rfl .nil))) ?_
  refine swl_nil ?_
  refine then_n ?_
  refine swp_seq ?_
  refine swp_seq ?_
  refine swp_region ?_
  refine s_ef (ef_fn (meets_spec μ hT) rfl rfl (by repeat (first | exact Split.nil | (apply Split.cons; (repeat (first | with_reducible exact Take.here | apply Take.there)))))) ?_
  rintro v23 L1 ⟨rfl, μ1, h1, rfl⟩
  refine swl_app ?_
  refine s_pu (pu_not rfl) ?_
  refine swl_sub _ (.cons (t := 0) rfl (.cons (t := 1) rfl (.cons (t := 5) rfl (.cons (t := 24) rfl .nil)))) ?_
  refine swl_nil ?_
  refine then_n ?_
  refine swp_cond (b := _) rfl (fun h24 => by cases h24) (fun h24 => ?_)
  refine swp_skip ?_
  refine then_n ?_
  refine swp_seq ?_
  refine swp_region ?_
  refine s_pu (pu_move rfl) ?_
  refine s_pu (pu_move rfl) ?_
  refine s_pu (pu_conv_i64 rfl (by omega) (by omega)) ?_
  refine s_ef (ef_fn (good2_spec μ1 v G 40 kn (hG.le h1) hn (by decide) hrows) rfl rfl (by repeat (first | exact Split.nil | (apply Split.cons; (repeat (first | with_reducible exact Take.here | apply Take.there)))))) ?_
  rintro v28 L1 ⟨μ2, o, A0, h2, rfl, rfl, hgd⟩
  refine swl_app ?_
  refine s_pu (pu_assign rfl) ?_
  refine swl_sub _ (.cons (t := 5) rfl (.cons (t := 7) rfl .nil)) ?_
  refine swl_nil ?_
  refine then_n ?_
  refine swp_seq ?_
  refine swp_seq ?_
  refine swp_region ?_
  refine s_pu (pu_move rfl) ?_
  refine s_pu (pu_ptr_eq_nil rfl rfl) ?_
  refine swl_sub _ (.cons (t := 5) rfl (.cons (t := 7) rfl (.cons (t := 30) rfl .nil))) ?_
  refine swl_nil ?_
  refine then_n ?_
  refine swp_cond (b := _) rfl (fun h30 => ?_) (fun h30 => ?_)
  · skip   -- 30 T
    refine swp_seq ?_
    refine swp_region ?_
    refine s_pu (pu_assign rfl) ?_
    refine swl_sub _ (.cons (t := 6) rfl .nil) ?_
    refine swl_nil ?_
    refine then_n ?_
    refine swp_ret ?_
    refine then_r ?_
    exact done_ret [ro μ2] (.tmp rfl .nil) ⟨rfl, μ2, [], h1.trans h2, rfl⟩ (by repeat (first | exact Split.nil | (apply Split.cons; (repeat (first | with_reducible exact Take.here | apply Take.there)))))
  · skip   -- 30 F
    obtain ⟨p, v', vn, gs, rfl, hS, hm40, rfl⟩ : ∃ p v' vn gs, o = some ⟨p, 0, none⟩ ∧ GS μ2 v' vn (G.take (min G.length 40)) gs kn.toNat ∧ (G.take (min G.length 40)).length ≤ 40 ∧ A0 = gA p v' vn (G.take (min G.length 40)).length noAsk := by
      rcases hgd with ⟨rfl, _⟩ | ⟨p, v', vn, gs, k1, k2, k3⟩
      · cases h30
      · exact ⟨p, v', vn, gs, k1, k2, by rw [List.length_take]; omega, k3⟩
    generalize G.take (min G.length 40) = Gm at *
    have hT2 := (hT.le h1).le h2
    have hln : (nums Gm).length = Gm.length := List.length_map _
    have hgood := hS.good
    refine swp_skip ?_
    refine then_n ?_
    refine swp_seq ?_
    refine swp_draw [1, 3] _ [] (by simp only [List.append_nil]; exact Ent.refl _) (by kernel_rfl) ?_
    refine d_pu 0 rfl (pu_indexAddr_arr _ rfl rfl (by omega) (by omega) rfl) (by kernel_rfl) (by kernel_rfl) (by kernel_rfl) ?_
    refine d_rd 1 rfl (rd_load rfl rfl) rfl (by kernel_rfl) (by kernel_rfl) (by kernel_rfl) ?_
    refine d_pu 2 rfl (pu_indexAddr_arr _ rfl rfl (by omega) (by omega) rfl) (by kernel_rfl) (by kernel_rfl) (by kernel_rfl) ?_
    refine d_rd 3 rfl (rd_load rfl rfl) rfl (by kernel_rfl) (by kernel_rfl) (by kernel_rfl) ?_
    refine d_pu 4 rfl (pu_assign rfl) (by kernel_rfl) (by kernel_rfl) (by kernel_rfl) ?_
    refine d_pu 5 rfl (pu_assign rfl) (by kernel_rfl) (by kernel_rfl) (by kernel_rfl) ?_
    refine d_sub _ (.cons (t := 5) rfl (.cons (t := 7) rfl (.cons (t := 8) rfl (.cons (t := 9) rfl .nil)))) ?_
    first | refine d_nilt (by kernel_rfl) ?_ | refine d_nilf (by kernel_rfl) ?_
    refine then_n ?_
    refine swp_seq ?_
    refine swp_region ?_
    refine s_pu (pu_move rfl) ?_
    refine s_pu (pu_iface rfl) ?_
    refine s_pu (pu_move rfl) ?_
    refine s_pu (pu_move rfl) ?_
    refine s_ef (ef_fn (g_merge hS p noAsk (fun _ => Nat.zero_le _) a b hT2) rfl rfl (by repeat (first | exact Split.nil | (apply Split.cons; (repeat (first | with_reducible exact Take.here | apply Take.there)))))) ?_
    rintro v40 L1 ⟨lv, zs, μ3, hz, h3, rfl, rfl⟩
    refine swl_app ?_
    refine s_pu (pu_move rfl) ?_
    first | refine s_pu (pu_extractL rfl) ?_ | refine s_pu (pu_extract rfl rfl) ?_
    first | refine s_pu (pu_extractL rfl) ?_ | refine s_pu (pu_extract rfl rfl) ?_
    refine s_pu (pu_assign rfl) ?_
    refine s_pu (pu_assign rfl) ?_
    refine swl_sub _ (.cons (t := 5) rfl (.cons (t := 7) rfl (.cons (t := 8) rfl (.cons (t := 9) rfl (.cons (t := 10) rfl (.cons (t := 11) rfl .nil)))))) ?_
    refine swl_nil ?_
    refine then_n ?_
    refine swp_seq ?_
    refine swp_seq ?_
    have hAl := sidesA_len (nums Gm) [a] [b]
    have ha0 : ∀ d, (zs.foldl ask1 noAsk) d ≤ wpK 0 0 1 := fun d => by
      have : (zs.foldl ask1 noAsk) d ≤ 0 + 1 := ask_le hz.1 (Nat.le_refl _)
      unfold wpK; omega
    generalize zs.foldl ask1 noAsk = Az at *
    refine swp_share_own (v := lv) (μ := μ3) (by repeat (first | exact Split.nil | (apply Split.cons; (repeat (first | with_reducible exact Take.here | apply Take.there))))) fun μ4 h4 rl => ?_
    have l24 := h3.trans h4
    refine swp_ent (Split.ent' (K := [gA p v' vn Gm.length Az, blk b5 23 [.int .i64 a, .int .i64 b], ro μ4]) (by repeat (first | exact Split.nil | (apply Split.cons; (repeat (first | with_reducible exact Take.here | apply Take.there)))))) ?_
    refine swp_ex fun va => ?_
    simp only [List.cons_append, List.nil_append]
    have hE : onlyE (nums Gm) [a] [b] = if unkB Gm.length [a, b] = true then 9 else 0 := by
      rw [onlyE_unk, hln]
      unfold unkB
      simp only [List.all_cons, List.all_nil, Bool.and_true, Bool.not_and]
    refine swp_draw [3] _ [] (by simp only [List.append_nil]; exact Ent.refl _) (by kernel_rfl) ?_
    refine d_pu 0 rfl (pu_move rfl) (by kernel_rfl) (by kernel_rfl) (by kernel_rfl) ?_
    first | refine d_pu 1 rfl (pu_nilCheck rfl) (by kernel_rfl) (by kernel_rfl) (by kernel_rfl) ?_ | refine d_pu 1 rfl (pu_nilCheck_fn rfl) (by kernel_rfl) (by kernel_rfl) (by kernel_rfl) ?_ | refine d_pu 1 rfl (pu_nilCheck_if rfl) (by kernel_rfl) (by kernel_rfl) (by kernel_rfl) ?_
    first | refine d_pu 2 rfl (pu_fieldAddr0 rfl) (by kernel_rfl) (by kernel_rfl) (by kernel_rfl) ?_ | refine d_pu 2 rfl (pu_fieldAddr rfl) (by kernel_rfl) (by kernel_rfl) (by kernel_rfl) ?_
    refine d_rd 3 rfl (rd_load rfl rfl) rfl (by kernel_rfl) (by kernel_rfl) (by kernel_rfl) ?_
    refine d_pu 4 rfl (pu_slice_arr rfl) (by kernel_rfl) (by kernel_rfl) (by kernel_rfl) ?_
    first | refine d_fint 5 rfl (by kernel_rfl) (by kernel_rfl) (ef_fn (unknown_spec v' (.slice (some ⟨b5, 0, none⟩) 2 2) Gm.length [a, b] [blk b5 23 [.int .i64 a, .int .i64 b]] hS.hG.1.sl (ints_arr (cs := [a, b]) rfl (by show 2 ≤ _; decide))) rfl rfl (by repeat (first | exact Split.nil | (apply Split.cons; (repeat (first | with_reducible exact Take.here | apply Take.there)))))) ?_ | refine d_finf 5 rfl (by kernel_rfl) (by kernel_rfl) (ef_fn (unknown_spec v' (.slice (some ⟨b5, 0, none⟩) 2 2) Gm.length [a, b] [blk b5 23 [.int .i64 a, .int .i64 b]] hS.hG.1.sl (ints_arr (cs := [a, b]) rfl (by show 2 ≤ _; decide))) rfl rfl (by repeat (first | exact Split.nil | (apply Split.cons; (repeat (first | with_reducible exact Take.here | apply Take.there)))))) ?_
    rintro v48 L1 ⟨rfl, rfl⟩
    refine swd_app ?_
    refine d_sub _ (.cons (t := 7) rfl (.cons (t := 8) rfl (.cons (t := 9) rfl (.cons (t := 10) rfl (.cons (t := 11) rfl (.cons (t := 48) rfl .nil)))))) ?_
    first | refine d_nilt (by kernel_rfl) ?_ | refine d_nilf (by kernel_rfl) ?_
    refine then_n ?_
    refine swp_cond (b := _) rfl (fun h48 => ?_) (fun h48 => ?_)
    · skip   -- 48 T
      have he : onlyE (nums Gm) [a] [b] = 9 := by rw [hE, if_pos h48]
      have hS0 : sidesA (nums Gm) [a] [b] = [] := by rw [sidesA, if_neg (by rw [he]; decide)]
      rw [he]
      rw [hS0] at rl
      refine swp_seq ?_
      refine swp_region ?_
      refine s_pu (pu_move rfl) ?_
      refine s_pu (pu_eql rfl rfl) ?_
      refine s_pu (pu_move rfl) ?_
      refine s_split 51 rfl (fun h51 => ?_) (fun h51 => by cases h51)
      refine s_on rfl rfl ?_
      refine s_pu (pu_move rfl) ?_
      refine s_on rfl rfl ?_
      refine s_pu (pu_len_row rl rfl) ?_
      refine s_on rfl rfl ?_
      refine s_pu (pu_eql rfl rfl) ?_
      first | refine s_pu (pu_pick_t rfl rfl) ?_ | refine s_pu (pu_pick_f rfl rfl) ?_
      refine s_pu (pu_assign rfl) ?_
      refine swl_sub _ (.cons (t := 6) rfl .nil) ?_
      refine swl_nil ?_
      refine then_n ?_
      refine swp_ret ?_
      refine then_r ?_
      exact done_ret [ro μ4] (.tmp rfl .nil) ⟨rfl, μ4, [], h1.trans (h2.trans l24), rfl⟩ (by repeat (first | exact Split.nil | (apply Split.cons; (repeat (first | with_reducible exact Take.here | apply Take.there)))))
    · skip   -- 48 F
      have he : onlyE (nums Gm) [a] [b] = 0 := by rw [hE, if_neg (by rw [h48]; exact Bool.false_ne_true)]
      have haL := askedE_in (l := [a]) he (by simp) a (by simp)
      have hbL := askedE_in (l := [b]) he (by simp) b (by simp)
      obtain ⟨a, rfl⟩ : ∃ k : Nat, a = k := ⟨a.toNat, by omega⟩
      obtain ⟨b, rfl⟩ : ∃ k : Nat, b = k := ⟨b.toNat, by omega⟩
      have hSe : sidesA (nums Gm) [(a : Int)] [(b : Int)] = sidesB (nums Gm) [(a : Int)] [(b : Int)] := if_pos he
      have hfacts : ∀ c, c < (nums Gm).length → _ := fun c hc => sides_under hgood (a := a) (b := b) (c := c) (by omega) (by omega) hc
      have hsort : (sidesB (nums Gm) [(a : Int)] [(b : Int)]).Pairwise (· < ·) := elsTo_sorted _ _
      have hSin : ∀ x ∈ sidesB (nums Gm) [(a : Int)] [(b : Int)], ∃ k : Nat, x = k ∧ k < (nums Gm).length := fun x hx => by
        obtain ⟨k, e, hk, _⟩ := elsTo_mem.1 hx
        exact ⟨k, e, hk⟩
      rw [he]
      rw [hSe] at rl hAl
      generalize sidesB (nums Gm) [(a : Int)] [(b : Int)] = S at *
      refine swp_skip ?_
      refine then_n ?_
      refine swp_seq ?_
      refine swp_seq ?_
      refine swp_region ?_
      refine s_pu (pu_move rfl) ?_
      refine s_pu (pu_neq rfl rfl) ?_
      refine swl_sub _ (.cons (t := 7) rfl (.cons (t := 8) rfl (.cons (t := 9) rfl (.cons (t := 10) rfl (.cons (t := 57) rfl .nil))))) ?_
      refine swl_nil ?_
      refine then_n ?_
      refine swp_cond (b := _) rfl (fun h57 => by cases h57) (fun h57 => ?_)
      refine swp_skip ?_
      refine then_n ?_
      refine swp_seq ?_
      refine swp_seq ?_
      refine swp_region ?_
      refine s_pu (pu_move rfl) ?_
      first | refine s_pu (pu_nilCheck rfl) ?_ | refine s_pu (pu_nilCheck_fn rfl) ?_ | refine s_pu (pu_nilCheck_if rfl) ?_
      first | refine s_pu (pu_fieldAddr0 rfl) ?_ | refine s_pu (pu_fieldAddr rfl) ?_
      refine s_rd (rd_load rfl rfl) ?_
      refine s_pu (pu_len_row hS.hG.1 rfl) ?_
      refine s_pu (pu_move rfl) ?_
      refine swl_sub _ (.cons (t := 7) rfl (.cons (t := 8) rfl (.cons (t := 9) rfl (.cons (t := 10) rfl (.cons (t := 62) rfl (.cons (t := 63) rfl .nil)))))) ?_
      refine swl_nil ?_
      refine then_n ?_
      refine swp_block ?_
      refine swp_ent (Split.ent' (K := [blk p 33 [v', vn, va], own 3 1 va Gm.length (askV Gm.length Az), ro μ4]) (by repeat (first | exact Split.nil | (apply Split.cons; (repeat (first | with_reducible exact Take.here | apply Take.there)))))) ?_
      refine swp_ent gA_close ?_
      refine swp_sub _ (.cons (t := 7) rfl (.cons (t := 8) rfl (.cons (t := 9) rfl (.cons (t := 10) rfl (.cons (t := 62) rfl (.cons (t := 63) rfl .nil)))))) ?_
      refine swp_loop (ι := Nat × PH × (Nat → Nat)) (fun k env L => env = [(7, .pointer (some ⟨p, 0, none⟩)), (8, .int .i64 (a : Nat)), (9, .int .i64 (b : Nat)), (10, lv), (62, .int .i64 (Gm.length : Nat)), (63, .int .i64 (k.1 : Nat))] ∧ Ent L [gA p v' vn Gm.length k.2.2, ro k.2.1] ∧ k.1 ≤ Gm.length ∧ Le μ4 k.2.1 ∧ ∀ d, k.2.2 d ≤ wpK 0 k.1 1) (fun k => Gm.length - k.1) (0, μ4, Az) ⟨rfl, Ent.refl _, Nat.zero_le _, Le.refl _, ha0⟩ ?_
      rintro ⟨c, μc, ac⟩ env L ⟨rfl, hL, hc, hlc, hac⟩
      dsimp only at hL hc hlc hac ⊢
      refine swp_ent hL ?_
      refine swp_seq ?_
      refine swp_region ?_
      refine s_pu (pu_lss rfl rfl) ?_
      refine swl_sub _ (.cons (t := 7) rfl (.cons (t := 8) rfl (.cons (t := 9) rfl (.cons (t := 10) rfl (.cons (t := 62) rfl (.cons (t := 63) rfl (.cons (t := 64) rfl .nil))))))) ?_
      refine swl_nil ?_
      refine then_n ?_
      refine swp_seq ?_
      refine swp_cond (b := _) rfl (fun h64 => ?_) (fun h64 => ?_)
      · skip   -- 64 T
        have h64' : c < Gm.length := by have := of_decide_eq_true h64; omega
        have hcn : c < (nums Gm).length := by omega
        obtain ⟨hboth, hone⟩ := hfacts c hcn
        refine swp_skip ?_
        refine then_n ?_
        refine swp_seq ?_
        refine swp_block ?_
        refine swp_seq ?_
        refine swp_region ?_
        refine s_pu (pu_move rfl) ?_
        refine s_pu (pu_assign rfl) ?_
        refine swl_sub _ (.cons (t := 7) rfl (.cons (t := 8) rfl (.cons (t := 9) rfl (.cons (t := 10) rfl (.cons (t := 12) rfl (.cons (t := 62) rfl (.cons (t := 63) rfl .nil))))))) ?_
        refine swl_nil ?_
        refine then_n ?_
        refine swp_seq ?_
        refine swp_region ?_
        refine s_pu (pu_move rfl) ?_
        refine s_pu (pu_iface rfl) ?_
        refine s_pu (pu_move rfl) ?_
        refine s_pu (pu_move rfl) ?_
        refine s_ef (ef_fn (g_isanc (hS.le (l24.trans hlc)) p ac (fun d => by have := wpK_top2 (hac d) (by omega) (by omega); omega) c a) rfl rfl (by repeat (first | exact Split.nil | (apply Split.cons; (repeat (first | with_reducible exact Take.here | apply Take.there)))))) ?_
        rintro v71 L1 ⟨z1, μd, hz1, hd, rfl, rfl⟩
        refine swl_app ?_
        rw [isAnc_in hcn (show a < (nums Gm).length by omega)]
        have a1 := asked_leK hz1 hac
        generalize z1.foldl ask1 ac = A1 at *
        refine s_pu (pu_move rfl) ?_
        first | refine s_pu (pu_extractL rfl) ?_ | refine s_pu (pu_extract rfl rfl) ?_
        first | refine s_pu (pu_extractL rfl) ?_ | refine s_pu (pu_extract rfl rfl) ?_
        refine s_pu (pu_assign rfl) ?_
        refine s_pu (pu_assign rfl) ?_
        refine swl_sub _ (.cons (t := 7) rfl (.cons (t := 8) rfl (.cons (t := 9) rfl (.cons (t := 10) rfl (.cons (t := 12) rfl (.cons (t := 13) rfl (.cons (t := 62) rfl (.cons (t := 63) rfl .nil)))))))) ?_
        refine swl_nil ?_
        refine then_n ?_
        refine swp_seq ?_
        refine swp_region ?_
        refine s_pu (pu_move rfl) ?_
        refine s_pu (pu_iface rfl) ?_
        refine s_pu (pu_move rfl) ?_
        refine s_pu (pu_move rfl) ?_
        refine s_ef (ef_fn (g_isanc (hS.le (l24.trans (hlc.trans hd))) p A1 (fun d => by have := wpK_top2 (a1 d) (by omega) (by omega); omega) c b) rfl rfl (by repeat (first | exact Split.nil | (apply Split.cons; (repeat (first | with_reducible exact Take.here | apply Take.there)))))) ?_
        rintro v79 L1 ⟨z2, μe, hz2, he2, rfl, rfl⟩
        refine swl_app ?_
        rw [isAnc_in hcn (show b < (nums Gm).length by omega)]
        have a2 := asked_leK hz2 a1
        generalize z2.foldl ask1 A1 = A2 at *
        refine s_pu (pu_move rfl) ?_
        first | refine s_pu (pu_extractL rfl) ?_ | refine s_pu (pu_extract rfl rfl) ?_
        first | refine s_pu (pu_extractL rfl) ?_ | refine s_pu (pu_extract rfl rfl) ?_
        refine s_pu (pu_assign rfl) ?_
        refine s_pu (pu_assign rfl) ?_
        refine swl_sub _ (.cons (t := 7) rfl (.cons (t := 8) rfl (.cons (t := 9) rfl (.cons (t := 10) rfl (.cons (t := 12) rfl (.cons (t := 13) rfl (.cons (t := 15) rfl (.cons (t := 62) rfl (.cons (t := 63) rfl .nil))))))))) ?_
        refine swl_nil ?_
        refine then_n ?_
        refine swp_seq ?_
        refine swp_region ?_
        refine s_pu (pu_assign rfl) ?_
        refine swl_sub _ (.cons (t := 7) rfl (.cons (t := 8) rfl (.cons (t := 9) rfl (.cons (t := 10) rfl (.cons (t := 12) rfl (.cons (t := 13) rfl (.cons (t := 15) rfl (.cons (t := 17) rfl (.cons (t := 62) rfl (.cons (t := 63) rfl .nil)))))))))) ?_
        refine swl_nil ?_
        refine then_n ?_
        refine swp_seq ?_
        refine swp_region ?_
        refine s_pu (pu_assign rfl) ?_
        refine swl_sub _ (.cons (t := 7) rfl (.cons (t := 8) rfl (.cons (t := 9) rfl (.cons (t := 10) rfl (.cons (t := 12) rfl (.cons (t := 13) rfl (.cons (t := 15) rfl (.cons (t := 17) rfl (.cons (t := 18) rfl (.cons (t := 62) rfl (.cons (t := 63) rfl .nil))))))))))) ?_
        refine swl_nil ?_
        refine then_n ?_
        refine swp_seq ?_
        refine swp_seq ?_
        refine swp_region ?_
        refine s_pu (pu_move rfl) ?_
        refine s_pu (pu_len_row rl rfl) ?_
        refine s_pu (pu_move rfl) ?_
        refine swl_sub _ (.cons (t := 7) rfl (.cons (t := 8) rfl (.cons (t := 9) rfl (.cons (t := 10) rfl (.cons (t := 12) rfl (.cons (t := 13) rfl (.cons (t := 15) rfl (.cons (t := 17) rfl (.cons (t := 18) rfl (.cons (t := 62) rfl (.cons (t := 63) rfl (.cons (t := 82) rfl (.cons (t := 83) rfl (.cons (t := 84) rfl .nil)))))))))))))) ?_
        refine swl_nil ?_
        refine then_n ?_
        refine swp_block ?_
        have l4e := hlc.trans (hd.trans he2)
        refine swp_sub _ (.cons (t := 7) rfl (.cons (t := 8) rfl (.cons (t := 9) rfl (.cons (t := 10) rfl (.cons (t := 12) rfl (.cons (t := 13) rfl (.cons (t := 15) rfl (.cons (t := 17) rfl (.cons (t := 18) rfl (.cons (t := 62) rfl (.cons (t := 63) rfl (.cons (t := 82) rfl (.cons (t := 83) rfl (.cons (t := 84) rfl .nil)))))))))))))) ?_
        refine swp_loop (ι := Nat × PH × (Nat → Nat)) (fun k env L => env = [(7, .pointer (some ⟨p, 0, none⟩)), (8, .int .i64 (a : Nat)), (9, .int .i64 (b : Nat)), (10, lv), (12, .int .i64 (c : Nat)), (13, .bool (up (nums Gm) a c)), (15, .bool (up (nums Gm) b c)), (17, .int .i64 (unders (nums Gm) c (S.take k.1) : Nat)), (18, .bool (decide ((c : Int) ∈ S.take k.1))), (62, .int .i64 (Gm.length : Nat)), (63, .int .i64 (c : Nat)), (82, lv), (83, .int .i64 (S.length : Nat)), (84, .int .i64 (k.1 : Nat))]
          ∧ Ent L [gA p v' vn Gm.length k.2.2, ro k.2.1] ∧ k.1 ≤ S.length ∧ Le μe k.2.1 ∧ ∀ d, k.2.2 d ≤ wpK 0 c (k.1 + 1 + 2)) (fun k => S.length - k.1) (0, μe, A2) ⟨by simp [unders], Split.ent' (by repeat (first | exact Split.nil | (apply Split.cons; (repeat (first | with_reducible exact Take.here | apply Take.there))))), Nat.zero_le _, Le.refl _, a2⟩ ?_
        rintro ⟨i, μi, ai⟩ env L ⟨rfl, hLi, hi, hli, hai⟩
        dsimp only at hLi hi hli hai ⊢
        refine swp_ent hLi ?_
        refine swp_seq ?_
        refine swp_region ?_
        refine s_pu (pu_lss rfl rfl) ?_
        refine swl_sub _ (.cons (t := 7) rfl (.cons (t := 8) rfl (.cons (t := 9) rfl (.cons (t := 10) rfl (.cons (t := 12) rfl (.cons (t := 13) rfl (.cons (t := 15) rfl (.cons (t := 17) rfl (.cons (t := 18) rfl (.cons (t := 62) rfl (.cons (t := 63) rfl (.cons (t := 82) rfl (.cons (t := 83) rfl (.cons (t := 84) rfl (.cons (t := 85) rfl .nil))))))))))))))) ?_
        refine swl_nil ?_
        refine then_n ?_
        refine swp_seq ?_
        refine swp_cond (b := _) rfl (fun h85 => ?_) (fun h85 => ?_)
        · skip   -- 85 T
          have h85' : i < S.length := by have := of_decide_eq_true h85; omega
          obtain ⟨x, hx⟩ : ∃ x, S[i]? = some x := ⟨_, List.getElem?_eq_getElem h85'⟩
          obtain ⟨pb, po, pc, hpv, hpc⟩ := rl.at_ hx
          have hcell : ∀ (j : Nat) (y : Int), S[j]? = some y → CellAt μ4 pb (po + j * 1) (.int .i64 y) := fun j y hy => by
            obtain ⟨b', o', c', e, hc'⟩ := rl.at_ hy
            rw [hpv] at e
            simp only [Value.slice.injEq, Option.some.injEq, Addr.mk.injEq, true_and, and_true] at e
            obtain ⟨⟨rfl, rfl⟩, _⟩ := e
            exact hc'
          have hsu := unders_succ (g := nums Gm) (c := c) hx
          have hmem : decide ((c : Int) ∈ S.take (i + 1)) = (decide ((c : Int) ∈ S.take i) || decide (x = (c : Int))) := by
            rw [List.take_add_one, hx, Bool.eq_iff_iff, Bool.or_eq_true, decide_eq_true_eq, decide_eq_true_eq, decide_eq_true_eq, List.mem_append]
            refine or_congr Iff.rfl ?_
            rw [Option.toList_some, List.mem_singleton]
            exact eq_comm
          obtain ⟨k, rfl, hkn2⟩ := hSin x (List.mem_of_getElem? hx)
          rw [Int.toNat_natCast] at hsu
          obtain ⟨y, hy⟩ : ∃ y : Int, 0 < i → S[i - 1]? = some y ∧ y < k := by
            by_cases e : 0 < i
            · have h1 : S[i - 1]? = some (S[i - 1]'(by omega)) := List.getElem?_eq_getElem (by omega)
              exact ⟨_, fun _ => ⟨h1, sorted_at hsort h1 (by rw [show i - 1 + 1 = i by omega]; exact hx)⟩⟩
            · exact ⟨0, fun h => absurd h e⟩
          have hul := unders_le (nums Gm) c (S.take i)
          rw [List.length_take] at hul
          refine swp_skip ?_
          refine then_n ?_
          refine swp_seq ?_
          refine swp_block ?_
          refine swp_seq ?_
          refine swp_region ?_
          refine s_pu (pu_move rfl) ?_
          refine s_pu (pu_indexAddr (po + i * 1) (congrArg some hpv) rfl (by omega) (by omega) (by rw [Int.toNat_natCast])) ?_
          refine s_rd (rd_ro rfl (hpc.le (l4e.trans hli))) ?_
          refine s_pu (pu_assign rfl) ?_
          refine s_pu (pu_assign rfl) ?_
          refine swl_sub _ (.cons (t := 7) rfl (.cons (t := 8) rfl (.cons (t := 9) rfl (.cons (t := 10) rfl (.cons (t := 12) rfl (.cons (t := 13) rfl (.cons (t := 15) rfl (.cons (t := 17) rfl (.cons (t := 18) rfl (.cons (t := 19) rfl (.cons (t := 20) rfl (.cons (t := 62) rfl (.cons (t := 63) rfl (.cons (t := 82) rfl (.cons (t := 83) rfl (.cons (t := 84) rfl .nil)))))))))))))))) ?_
          refine swl_nil ?_
          refine then_n ?_
          refine swp_seq ?_
          refine swp_region ?_
          refine s_pu (pu_move rfl) ?_
          refine s_pu (pu_iface rfl) ?_
          refine s_pu (pu_move rfl) ?_
          refine s_pu (pu_move rfl) ?_
          refine s_ef (ef_fn (g_isanc (hS.le (l24.trans (l4e.trans hli))) p ai (fun d => by have := wpK_top2 (hai d) (by omega) (by omega); omega) c k) rfl rfl (by repeat (first | exact Split.nil | (apply Split.cons; (repeat (first | with_reducible exact Take.here | apply Take.there)))))) ?_
          rintro v94 L1 ⟨z3, μj, hz3, hj, rfl, rfl⟩
          refine swl_app ?_
          rw [isAnc_in hcn hkn2]
          have a3 := asked_leK hz3 hai
          generalize z3.foldl ask1 ai = A3 at *
          refine s_pu (pu_move rfl) ?_
          first | refine s_pu (pu_extractL rfl) ?_ | refine s_pu (pu_extract rfl rfl) ?_
          first | refine s_pu (pu_extractL rfl) ?_ | refine s_pu (pu_extract rfl rfl) ?_
          refine s_pu (pu_assign rfl) ?_
          refine s_pu (pu_assign rfl) ?_
          refine swl_sub _ (.cons (t := 7) rfl (.cons (t := 8) rfl (.cons (t := 9) rfl (.cons (t := 10) rfl (.cons (t := 12) rfl (.cons (t := 13) rfl (.cons (t := 15) rfl (.cons (t := 17) rfl (.cons (t := 18) rfl (.cons (t := 19) rfl (.cons (t := 20) rfl (.cons (t := 21) rfl (.cons (t := 62) rfl (.cons (t := 63) rfl (.cons (t := 82) rfl (.cons (t := 83) rfl (.cons (t := 84) rfl .nil))))))))))))))))) ?_
          refine swl_nil ?_
          refine then_n ?_
          refine swp_seq ?_
          refine swp_seq ?_
          refine swp_region ?_
          refine s_pu (pu_move rfl) ?_
          refine swl_sub _ (.cons (t := 7) rfl (.cons (t := 8) rfl (.cons (t := 9) rfl (.cons (t := 10) rfl (.cons (t := 12) rfl (.cons (t := 13) rfl (.cons (t := 15) rfl (.cons (t := 17) rfl (.cons (t := 18) rfl (.cons (t := 19) rfl (.cons (t := 20) rfl (.cons (t := 62) rfl (.cons (t := 63) rfl (.cons (t := 82) rfl (.cons (t := 83) rfl (.cons (t := 84) rfl (.cons (t := 97) rfl .nil))))))))))))))))) ?_
          refine swl_nil ?_
          refine then_n ?_
          refine swp_cond (b := _) rfl (fun h97 => ?_) (fun h97 => ?_)
          · skip   -- 97 T
            rw [if_pos h97] at hsu
            refine swp_region ?_
            refine s_pu (pu_move rfl) ?_
            refine s_pu (pu_add_as ((unders (nums Gm) c (S.take (i + 1)) : Nat) : Int) rfl rfl (by omega) (by omega) (by omega)) ?_
            refine s_pu (pu_assign rfl) ?_
            refine swl_sub _ (.cons (t := 7) rfl (.cons (t := 8) rfl (.cons (t := 9) rfl (.cons (t := 10) rfl (.cons (t := 12) rfl (.cons (t := 13) rfl (.cons (t := 15) rfl (.cons (t := 17) rfl (.cons (t := 18) rfl (.cons (t := 19) rfl (.cons (t := 20) rfl (.cons (t := 62) rfl (.cons (t := 63) rfl (.cons (t := 82) rfl (.cons (t := 83) rfl (.cons (t := 84) rfl .nil)))))))))))))))) ?_
            refine swl_nil ?_
            refine then_n ?_
            refine swp_seq ?_
            refine swp_region ?_
            refine s_pu (pu_move rfl) ?_
            refine s_pu (pu_move rfl) ?_
            refine s_split 101 rfl (fun h101 => ?_) (fun h101 => ?_)
            · skip   -- 101 T
              have hm1 : decide ((c : Int) ∈ S.take (i + 1)) = true := by rw [hmem, h101]; rfl
              refine s_off rfl rfl rfl ?_
              refine s_off rfl rfl rfl ?_
              refine s_off rfl rfl rfl ?_
              first | refine s_pu (pu_pick_t rfl rfl) ?_ | refine s_pu (pu_pick_f rfl rfl) ?_
              refine s_pu (pu_assign rfl) ?_
              refine swl_sub _ (.cons (t := 7) rfl (.cons (t := 8) rfl (.cons (t := 9) rfl (.cons (t := 10) rfl (.cons (t := 12) rfl (.cons (t := 13) rfl (.cons (t := 15) rfl (.cons (t := 17) rfl (.cons (t := 18) rfl (.cons (t := 19) rfl (.cons (t := 20) rfl (.cons (t := 62) rfl (.cons (t := 63) rfl (.cons (t := 82) rfl (.cons (t := 83) rfl (.cons (t := 84) rfl .nil)))))))))))))))) ?_
              refine swl_nil ?_
              refine then_n ?_
              refine swp_seq ?_
              refine swp_region ?_
              refine s_pu (pu_move rfl) ?_
              refine s_pu (pu_gtr rfl rfl) ?_
              refine s_pu (pu_move rfl) ?_
              refine s_split 108 rfl (fun h108 => ?_) (fun h108 => ?_)
              · skip   -- 108 T
                have h108' : 0 < i := by have := of_decide_eq_true h108; omega
                obtain ⟨hy1, hy2⟩ := hy h108'
                refine s_on rfl rfl ?_
                refine s_pu (pu_move rfl) ?_
                refine s_on rfl rfl ?_
                refine s_pu (pu_move rfl) ?_
                refine s_on rfl rfl ?_
                refine s_pu (pu_sub_as ((i - 1 : Nat) : Int) rfl rfl (by omega) (by omega) (by omega)) ?_
                refine s_on rfl rfl ?_
                refine s_pu (pu_indexAddr (po + (i - 1) * 1) (congrArg some hpv) rfl (by omega) (by omega) (by rw [Int.toNat_natCast])) ?_
                refine s_on rfl rfl ?_
                refine s_rd (rd_ro rfl ((hcell (i - 1) y hy1).le (l4e.trans (hli.trans hj)))) ?_
                refine s_on rfl rfl ?_
                refine s_pu (pu_move rfl) ?_
                refine s_on rfl rfl ?_
                refine s_pu (pu_geq rfl rfl) ?_
                first | refine s_pu (pu_pick_t rfl rfl) ?_ | refine s_pu (pu_pick_f rfl rfl) ?_
                refine swl_sub _ (.cons (t := 7) rfl (.cons (t := 8) rfl (.cons (t := 9) rfl (.cons (t := 10) rfl (.cons (t := 12) rfl (.cons (t := 13) rfl (.cons (t := 15) rfl (.cons (t := 17) rfl (.cons (t := 18) rfl (.cons (t := 62) rfl (.cons (t := 63) rfl (.cons (t := 82) rfl (.cons (t := 83) rfl (.cons (t := 84) rfl (.cons (t := 116) rfl .nil))))))))))))))) ?_
                refine swl_nil ?_
                refine then_n ?_
                refine swp_cond (b := _) rfl (fun h116 => by first | cases h116 | (exfalso; have := of_decide_eq_true h116; omega)) (fun h116 => ?_)
                refine swp_skip ?_
                refine block_n ?_
                refine then_n ?_
                refine swp_region ?_
                refine s_pu (pu_add_as ((i + 1 : Nat) : Int) rfl rfl (by omega) (by omega) (by omega)) ?_
                refine s_pu (pu_move rfl) ?_
                refine swl_sub _ (.cons (t := 7) rfl (.cons (t := 8) rfl (.cons (t := 9) rfl (.cons (t := 10) rfl (.cons (t := 12) rfl (.cons (t := 13) rfl (.cons (t := 15) rfl (.cons (t := 17) rfl (.cons (t := 18) rfl (.cons (t := 62) rfl (.cons (t := 63) rfl (.cons (t := 82) rfl (.cons (t := 83) rfl (.cons (t := 84) rfl .nil)))))))))))))) ?_
                refine swl_nil ?_
                refine then_n ⟨(i + 1, μj, A3), ⟨?_, Split.ent' (by repeat (first | exact Split.nil | (apply Split.cons; (repeat (first | with_reducible exact Take.here | apply Take.there))))), h85', hli.trans hj, fun d => ?_⟩, by show S.length - (i + 1) < S.length - i; omega⟩
                · rw [hm1]
                · have := a3 d
                  rwa [show i + 1 + 2 + 1 = i + 1 + 1 + 2 by omega] at this
              · skip   -- 108 F
                refine s_off rfl rfl rfl ?_
                refine s_off rfl rfl rfl ?_
                refine s_off rfl rfl rfl ?_
                refine s_off rfl rfl rfl ?_
                refine s_off rfl rfl rfl ?_
                refine s_off rfl rfl rfl ?_
                refine s_off rfl rfl rfl ?_
                first | refine s_pu (pu_pick_t rfl rfl) ?_ | refine s_pu (pu_pick_f rfl rfl) ?_
                refine swl_sub _ (.cons (t := 7) rfl (.cons (t := 8) rfl (.cons (t := 9) rfl (.cons (t := 10) rfl (.cons (t := 12) rfl (.cons (t := 13) rfl (.cons (t := 15) rfl (.cons (t := 17) rfl (.cons (t := 18) rfl (.cons (t := 62) rfl (.cons (t := 63) rfl (.cons (t := 82) rfl (.cons (t := 83) rfl (.cons (t := 84) rfl (.cons (t := 116) rfl .nil))))))))))))))) ?_
                refine swl_nil ?_
                refine then_n ?_
                refine swp_cond (b := _) rfl (fun h116 => by first | cases h116 | (exfalso; have := of_decide_eq_true h116; omega)) (fun h116 => ?_)
                refine swp_skip ?_
                refine block_n ?_
                refine then_n ?_
                refine swp_region ?_
                refine s_pu (pu_add_as ((i + 1 : Nat) : Int) rfl rfl (by omega) (by omega) (by omega)) ?_
                refine s_pu (pu_move rfl) ?_
                refine swl_sub _ (.cons (t := 7) rfl (.cons (t := 8) rfl (.cons (t := 9) rfl (.cons (t := 10) rfl (.cons (t := 12) rfl (.cons (t := 13) rfl (.cons (t := 15) rfl (.cons (t := 17) rfl (.cons (t := 18) rfl (.cons (t := 62) rfl (.cons (t := 63) rfl (.cons (t := 82) rfl (.cons (t := 83) rfl (.cons (t := 84) rfl .nil)))))))))))))) ?_
                refine swl_nil ?_
                refine then_n ⟨(i + 1, μj, A3), ⟨?_, Split.ent' (by repeat (first | exact Split.nil | (apply Split.cons; (repeat (first | with_reducible exact Take.here | apply Take.there))))), h85', hli.trans hj, fun d => ?_⟩, by show S.length - (i + 1) < S.length - i; omega⟩
                · rw [hm1]
                · have := a3 d
                  rwa [show i + 1 + 2 + 1 = i + 1 + 1 + 2 by omega] at this
            · skip   -- 101 F
              have hm1 : decide ((c : Int) ∈ S.take (i + 1)) = decide ((k : Int) = (c : Int)) := by rw [hmem, h101, Bool.false_or]
              refine s_on rfl rfl ?_
              refine s_pu (pu_move rfl) ?_
              refine s_on rfl rfl ?_
              refine s_pu (pu_move rfl) ?_
              refine s_on rfl rfl ?_
              refine s_pu (pu_eql rfl rfl) ?_
              first | refine s_pu (pu_pick_t rfl rfl) ?_ | refine s_pu (pu_pick_f rfl rfl) ?_
              refine s_pu (pu_assign rfl) ?_
              refine swl_sub _ (.cons (t := 7) rfl (.cons (t := 8) rfl (.cons (t := 9) rfl (.cons (t := 10) rfl (.cons (t := 12) rfl (.cons (t := 13) rfl (.cons (t := 15) rfl (.cons (t := 17) rfl (.cons (t := 18) rfl (.cons (t := 19) rfl (.cons (t := 20) rfl (.cons (t := 62) rfl (.cons (t := 63) rfl (.cons (t := 82) rfl (.cons (t := 83) rfl (.cons (t := 84) rfl .nil)))))))))))))))) ?_
              refine swl_nil ?_
              refine then_n ?_
              refine swp_seq ?_
              refine swp_region ?_
              refine s_pu (pu_move rfl) ?_
              refine s_pu (pu_gtr rfl rfl) ?_
              refine s_pu (pu_move rfl) ?_
              refine s_split 108 rfl (fun h108 => ?_) (fun h108 => ?_)
              · skip   -- 108 T
                have h108' : 0 < i := by have := of_decide_eq_true h108; omega
                obtain ⟨hy1, hy2⟩ := hy h108'
                refine s_on rfl rfl ?_
                refine s_pu (pu_move rfl) ?_
                refine s_on rfl rfl ?_
                refine s_pu (pu_move rfl) ?_
                refine s_on rfl rfl ?_
                refine s_pu (pu_sub_as ((i - 1 : Nat) : Int) rfl rfl (by omega) (by omega) (by omega)) ?_
                refine s_on rfl rfl ?_
                refine s_pu (pu_indexAddr (po + (i - 1) * 1) (congrArg some hpv) rfl (by omega) (by omega) (by rw [Int.toNat_natCast])) ?_
                refine s_on rfl rfl ?_
                refine s_rd (rd_ro rfl ((hcell (i - 1) y hy1).le (l4e.trans (hli.trans hj)))) ?_
                refine s_on rfl rfl ?_
                refine s_pu (pu_move rfl) ?_
                refine s_on rfl rfl ?_
                refine s_pu (pu_geq rfl rfl) ?_
                first | refine s_pu (pu_pick_t rfl rfl) ?_ | refine s_pu (pu_pick_f rfl rfl) ?_
                refine swl_sub _ (.cons (t := 7) rfl (.cons (t := 8) rfl (.cons (t := 9) rfl (.cons (t := 10) rfl (.cons (t := 12) rfl (.cons (t := 13) rfl (.cons (t := 15) rfl (.cons (t := 17) rfl (.cons (t := 18) rfl (.cons (t := 62) rfl (.cons (t := 63) rfl (.cons (t := 82) rfl (.cons (t := 83) rfl (.cons (t := 84) rfl (.cons (t := 116) rfl .nil))))))))))))))) ?_
                refine swl_nil ?_
                refine then_n ?_
                refine swp_cond (b := _) rfl (fun h116 => by first | cases h116 | (exfalso; have := of_decide_eq_true h116; omega)) (fun h116 => ?_)
                refine swp_skip ?_
                refine block_n ?_
                refine then_n ?_
                refine swp_region ?_
                refine s_pu (pu_add_as ((i + 1 : Nat) : Int) rfl rfl (by omega) (by omega) (by omega)) ?_
                refine s_pu (pu_move rfl) ?_
                refine swl_sub _ (.cons (t := 7) rfl (.cons (t := 8) rfl (.cons (t := 9) rfl (.cons (t := 10) rfl (.cons (t := 12) rfl (.cons (t := 13) rfl (.cons (t := 15) rfl (.cons (t := 17) rfl (.cons (t := 18) rfl (.cons (t := 62) rfl (.cons (t := 63) rfl (.cons (t := 82) rfl (.cons (t := 83) rfl (.cons (t := 84) rfl .nil)))))))))))))) ?_
                refine swl_nil ?_
                refine then_n ⟨(i + 1, μj, A3), ⟨?_, Split.ent' (by repeat (first | exact Split.nil | (apply Split.cons; (repeat (first | with_reducible exact Take.here | apply Take.there))))), h85', hli.trans hj, fun d => ?_⟩, by show S.length - (i + 1) < S.length - i; omega⟩
                · rw [hm1]
                · have := a3 d
                  rwa [show i + 1 + 2 + 1 = i + 1 + 1 + 2 by omega] at this
              · skip   -- 108 F
                refine s_off rfl rfl rfl ?_
                refine s_off rfl rfl rfl ?_
                refine s_off rfl rfl rfl ?_
                refine s_off rfl rfl rfl ?_
                refine s_off rfl rfl rfl ?_
                refine s_off rfl rfl rfl ?_
                refine s_off rfl rfl rfl ?_
                first | refine s_pu (pu_pick_t rfl rfl) ?_ | refine s_pu (pu_pick_f rfl rfl) ?_
                refine swl_sub _ (.cons (t := 7) rfl (.cons (t := 8) rfl (.cons (t := 9) rfl (.cons (t := 10) rfl (.cons (t := 12) rfl (.cons (t := 13) rfl (.cons (t := 15) rfl (.cons (t := 17) rfl (.cons (t := 18) rfl (.cons (t := 62) rfl (.cons (t := 63) rfl (.cons (t := 82) rfl (.cons (t := 83) rfl (.cons (t := 84) rfl (.cons (t := 116) rfl .nil))))))))))))))) ?_
                refine swl_nil ?_
                refine then_n ?_
                refine swp_cond (b := _) rfl (fun h116 => by first | cases h116 | (exfalso; have := of_decide_eq_true h116; omega)) (fun h116 => ?_)
                refine swp_skip ?_
                refine block_n ?_
                refine then_n ?_
                refine swp_region ?_
                refine s_pu (pu_add_as ((i + 1 : Nat) : Int) rfl rfl (by omega) (by omega) (by omega)) ?_
                refine s_pu (pu_move rfl) ?_
                refine swl_sub _ (.cons (t := 7) rfl (.cons (t := 8) rfl (.cons (t := 9) rfl (.cons (t := 10) rfl (.cons (t := 12) rfl (.cons (t := 13) rfl (.cons (t := 15) rfl (.cons (t := 17) rfl (.cons (t := 18) rfl (.cons (t := 62) rfl (.cons (t := 63) rfl (.cons (t := 82) rfl (.cons (t := 83) rfl (.cons (t := 84) rfl .nil)))))))))))))) ?_
                refine swl_nil ?_
                refine then_n ⟨(i + 1, μj, A3), ⟨?_, Split.ent' (by repeat (first | exact Split.nil | (apply Split.cons; (repeat (first | with_reducible exact Take.here | apply Take.there))))), h85', hli.trans hj, fun d => ?_⟩, by show S.length - (i + 1) < S.length - i; omega⟩
                · rw [hm1]
                · have := a3 d
                  rwa [show i + 1 + 2 + 1 = i + 1 + 1 + 2 by omega] at this
          · skip   -- 97 F
            replace hsu : unders (nums Gm) c (S.take (i + 1)) = unders (nums Gm) c (S.take i) := by rw [hsu, if_neg (by rw [h97]; exact Bool.false_ne_true)]; rfl
            rw [← hsu]
            refine swp_skip ?_
            refine then_n ?_
            refine swp_seq ?_
            refine swp_region ?_
            refine s_pu (pu_move rfl) ?_
            refine s_pu (pu_move rfl) ?_
            refine s_split 101 rfl (fun h101 => ?_) (fun h101 => ?_)
            · skip   -- 101 T
              have hm1 : decide ((c : Int) ∈ S.take (i + 1)) = true := by rw [hmem, h101]; rfl
              refine s_off rfl rfl rfl ?_
              refine s_off rfl rfl rfl ?_
              refine s_off rfl rfl rfl ?_
              first | refine s_pu (pu_pick_t rfl rfl) ?_ | refine s_pu (pu_pick_f rfl rfl) ?_
              refine s_pu (pu_assign rfl) ?_
              refine swl_sub _ (.cons (t := 7) rfl (.cons (t := 8) rfl (.cons (t := 9) rfl (.cons (t := 10) rfl (.cons (t := 12) rfl (.cons (t := 13) rfl (.cons (t := 15) rfl (.cons (t := 17) rfl (.cons (t := 18) rfl (.cons (t := 19) rfl (.cons (t := 20) rfl (.cons (t := 62) rfl (.cons (t := 63) rfl (.cons (t := 82) rfl (.cons (t := 83) rfl (.cons (t := 84) rfl .nil)))))))))))))))) ?_
              refine swl_nil ?_
              refine then_n ?_
              refine swp_seq ?_
              refine swp_region ?_
              refine s_pu (pu_move rfl) ?_
              refine s_pu (pu_gtr rfl rfl) ?_
              refine s_pu (pu_move rfl) ?_
              refine s_split 108 rfl (fun h108 => ?_) (fun h108 => ?_)
              · skip   -- 108 T
                have h108' : 0 < i := by have := of_decide_eq_true h108; omega
                obtain ⟨hy1, hy2⟩ := hy h108'
                refine s_on rfl rfl ?_
                refine s_pu (pu_move rfl) ?_
                refine s_on rfl rfl ?_
                refine s_pu (pu_move rfl) ?_
                refine s_on rfl rfl ?_
                refine s_pu (pu_sub_as ((i - 1 : Nat) : Int) rfl rfl (by omega) (by omega) (by omega)) ?_
                refine s_on rfl rfl ?_
                refine s_pu (pu_indexAddr (po + (i - 1) * 1) (congrArg some hpv) rfl (by omega) (by omega) (by rw [Int.toNat_natCast])) ?_
                refine s_on rfl rfl ?_
                refine s_rd (rd_ro rfl ((hcell (i - 1) y hy1).le (l4e.trans (hli.trans hj)))) ?_
                refine s_on rfl rfl ?_
                refine s_pu (pu_move rfl) ?_
                refine s_on rfl rfl ?_
                refine s_pu (pu_geq rfl rfl) ?_
                first | refine s_pu (pu_pick_t rfl rfl) ?_ | refine s_pu (pu_pick_f rfl rfl) ?_
                refine swl_sub _ (.cons (t := 7) rfl (.cons (t := 8) rfl (.cons (t := 9) rfl (.cons (t := 10) rfl (.cons (t := 12) rfl (.cons (t := 13) rfl (.cons (t := 15) rfl (.cons (t := 17) rfl (.cons (t := 18) rfl (.cons (t := 62) rfl (.cons (t := 63) rfl (.cons (t := 82) rfl (.cons (t := 83) rfl (.cons (t := 84) rfl (.cons (t := 116) rfl .nil))))))))))))))) ?_
                refine swl_nil ?_
                refine then_n ?_
                refine swp_cond (b := _) rfl (fun h116 => by first | cases h116 | (exfalso; have := of_decide_eq_true h116; omega)) (fun h116 => ?_)
                refine swp_skip ?_
                refine block_n ?_
                refine then_n ?_
                refine swp_region ?_
                refine s_pu (pu_add_as ((i + 1 : Nat) : Int) rfl rfl (by omega) (by omega) (by omega)) ?_
                refine s_pu (pu_move rfl) ?_
                refine swl_sub _ (.cons (t := 7) rfl (.cons (t := 8) rfl (.cons (t := 9) rfl (.cons (t := 10) rfl (.cons (t := 12) rfl (.cons (t := 13) rfl (.cons (t := 15) rfl (.cons (t := 17) rfl (.cons (t := 18) rfl (.cons (t := 62) rfl (.cons (t := 63) rfl (.cons (t := 82) rfl (.cons (t := 83) rfl (.cons (t := 84) rfl .nil)))))))))))))) ?_
                refine swl_nil ?_
                refine then_n ⟨(i + 1, μj, A3), ⟨?_, Split.ent' (by repeat (first | exact Split.nil | (apply Split.cons; (repeat (first | with_reducible exact Take.here | apply Take.there))))), h85', hli.trans hj, fun d => ?_⟩, by show S.length - (i + 1) < S.length - i; omega⟩
                · rw [hm1]
                · have := a3 d
                  rwa [show i + 1 + 2 + 1 = i + 1 + 1 + 2 by omega] at this
              · skip   -- 108 F
                refine s_off rfl rfl rfl ?_
                refine s_off rfl rfl rfl ?_
                refine s_off rfl rfl rfl ?_
                refine s_off rfl rfl rfl ?_
                refine s_off rfl rfl rfl ?_
                refine s_off rfl rfl rfl ?_
                refine s_off rfl rfl rfl ?_
                first | refine s_pu (pu_pick_t rfl rfl) ?_ | refine s_pu (pu_pick_f rfl rfl) ?_
                refine swl_sub _ (.cons (t := 7) rfl (.cons (t := 8) rfl (.cons (t := 9) rfl (.cons (t := 10) rfl (.cons (t := 12) rfl (.cons (t := 13) rfl (.cons (t := 15) rfl (.cons (t := 17) rfl (.cons (t := 18) rfl (.cons (t := 62) rfl (.cons (t := 63) rfl (.cons (t := 82) rfl (.cons (t := 83) rfl (.cons (t := 84) rfl (.cons (t := 116) rfl .nil))))))))))))))) ?_
                refine swl_nil ?_
                refine then_n ?_
                refine swp_cond (b := _) rfl (fun h116 => by first | cases h116 | (exfalso; have := of_decide_eq_true h116; omega)) (fun h116 => ?_)
                refine swp_skip ?_
                refine block_n ?_
                refine then_n ?_
                refine swp_region ?_
                refine s_pu (pu_add_as ((i + 1 : Nat) : Int) rfl rfl (by omega) (by omega) (by omega)) ?_
                refine s_pu (pu_move rfl) ?_
                refine swl_sub _ (.cons (t := 7) rfl (.cons (t := 8) rfl (.cons (t := 9) rfl (.cons (t := 10) rfl (.cons (t := 12) rfl (.cons (t := 13) rfl (.cons (t := 15) rfl (.cons (t := 17) rfl (.cons (t := 18) rfl (.cons (t := 62) rfl (.cons (t := 63) rfl (.cons (t := 82) rfl (.cons (t := 83) rfl (.cons (t := 84) rfl .nil)))))))))))))) ?_
                refine swl_nil ?_
                refine then_n ⟨(i + 1, μj, A3), ⟨?_, Split.ent' (by repeat (first | exact Split.nil | (apply Split.cons; (repeat (first | with_reducible exact Take.here | apply Take.there))))), h85', hli.trans hj, fun d => ?_⟩, by show S.length - (i + 1) < S.length - i; omega⟩
                · rw [hm1]
                · have := a3 d
                  rwa [show i + 1 + 2 + 1 = i + 1 + 1 + 2 by omega] at this
            · skip   -- 101 F
              have hm1 : decide ((c : Int) ∈ S.take (i + 1)) = decide ((k : Int) = (c : Int)) := by rw [hmem, h101, Bool.false_or]
              refine s_on rfl rfl ?_
              refine s_pu (pu_move rfl) ?_
              refine s_on rfl rfl ?_
              refine s_pu (pu_move rfl) ?_
              refine s_on rfl rfl ?_
              refine s_pu (pu_eql rfl rfl) ?_
              first | refine s_pu (pu_pick_t rfl rfl) ?_ | refine s_pu (pu_pick_f rfl rfl) ?_
              refine s_pu (pu_assign rfl) ?_
              refine swl_sub _ (.cons (t := 7) rfl (.cons (t := 8) rfl (.cons (t := 9) rfl (.cons (t := 10) rfl (.cons (t := 12) rfl (.cons (t := 13) rfl (.cons (t := 15) rfl (.cons (t := 17) rfl (.cons (t := 18) rfl (.cons (t := 19) rfl (.cons (t := 20) rfl (.cons (t := 62) rfl (.cons (t := 63) rfl (.cons (t := 82) rfl (.cons (t := 83) rfl (.cons (t := 84) rfl .nil)))))))))))))))) ?_
              refine swl_nil ?_
              refine then_n ?_
              refine swp_seq ?_
              refine swp_region ?_
              refine s_pu (pu_move rfl) ?_
              refine s_pu (pu_gtr rfl rfl) ?_
              refine s_pu (pu_move rfl) ?_
              refine s_split 108 rfl (fun h108 => ?_) (fun h108 => ?_)
              · skip   -- 108 T
                have h108' : 0 < i := by have := of_decide_eq_true h108; omega
                obtain ⟨hy1, hy2⟩ := hy h108'
                refine s_on rfl rfl ?_
                refine s_pu (pu_move rfl) ?_
                refine s_on rfl rfl ?_
                refine s_pu (pu_move rfl) ?_
                refine s_on rfl rfl ?_
                refine s_pu (pu_sub_as ((i - 1 : Nat) : Int) rfl rfl (by omega) (by omega) (by omega)) ?_
                refine s_on rfl rfl ?_
                refine s_pu (pu_indexAddr (po + (i - 1) * 1) (congrArg some hpv) rfl (by omega) (by omega) (by rw [Int.toNat_natCast])) ?_
                refine s_on rfl rfl ?_
                refine s_rd (rd_ro rfl ((hcell (i - 1) y hy1).le (l4e.trans (hli.trans hj)))) ?_
                refine s_on rfl rfl ?_
                refine s_pu (pu_move rfl) ?_
                refine s_on rfl rfl ?_
                refine s_pu (pu_geq rfl rfl) ?_
                first | refine s_pu (pu_pick_t rfl rfl) ?_ | refine s_pu (pu_pick_f rfl rfl) ?_
                refine swl_sub _ (.cons (t := 7) rfl (.cons (t := 8) rfl (.cons (t := 9) rfl (.cons (t := 10) rfl (.cons (t := 12) rfl (.cons (t := 13) rfl (.cons (t := 15) rfl (.cons (t := 17) rfl (.cons (t := 18) rfl (.cons (t := 62) rfl (.cons (t := 63) rfl (.cons (t := 82) rfl (.cons (t := 83) rfl (.cons (t := 84) rfl (.cons (t := 116) rfl .nil))))))))))))))) ?_
                refine swl_nil ?_
                refine then_n ?_
                refine swp_cond (b := _) rfl (fun h116 => by first | cases h116 | (exfalso; have := of_decide_eq_true h116; omega)) (fun h116 => ?_)
                refine swp_skip ?_
                refine block_n ?_
                refine then_n ?_
                refine swp_region ?_
                refine s_pu (pu_add_as ((i + 1 : Nat) : Int) rfl rfl (by omega) (by omega) (by omega)) ?_
                refine s_pu (pu_move rfl) ?_
                refine swl_sub _ (.cons (t := 7) rfl (.cons (t := 8) rfl (.cons (t := 9) rfl (.cons (t := 10) rfl (.cons (t := 12) rfl (.cons (t := 13) rfl (.cons (t := 15) rfl (.cons (t := 17) rfl (.cons (t := 18) rfl (.cons (t := 62) rfl (.cons (t := 63) rfl (.cons (t := 82) rfl (.cons (t := 83) rfl (.cons (t := 84) rfl .nil)))))))))))))) ?_
                refine swl_nil ?_
                refine then_n ⟨(i + 1, μj, A3), ⟨?_, Split.ent' (by repeat (first | exact Split.nil | (apply Split.cons; (repeat (first | with_reducible exact Take.here | apply Take.there))))), h85', hli.trans hj, fun d => ?_⟩, by show S.length - (i + 1) < S.length - i; omega⟩
                · rw [hm1]
                · have := a3 d
                  rwa [show i + 1 + 2 + 1 = i + 1 + 1 + 2 by omega] at this
              · skip   -- 108 F
                refine s_off rfl rfl rfl ?_
                refine s_off rfl rfl rfl ?_
                refine s_off rfl rfl rfl ?_
                refine s_off rfl rfl rfl ?_
                refine s_off rfl rfl rfl ?_
                refine s_off rfl rfl rfl ?_
                refine s_off rfl rfl rfl ?_
                first | refine s_pu (pu_pick_t rfl rfl) ?_ | refine s_pu (pu_pick_f rfl rfl) ?_
                refine swl_sub _ (.cons (t := 7) rfl (.cons (t := 8) rfl (.cons (t := 9) rfl (.cons (t := 10) rfl (.cons (t := 12) rfl (.cons (t := 13) rfl (.cons (t := 15) rfl (.cons (t := 17) rfl (.cons (t := 18) rfl (.cons (t := 62) rfl (.cons (t := 63) rfl (.cons (t := 82) rfl (.cons (t := 83) rfl (.cons (t := 84) rfl (.cons (t := 116) rfl .nil))))))))))))))) ?_
                refine swl_nil ?_
                refine then_n ?_
                refine swp_cond (b := _) rfl (fun h116 => by first | cases h116 | (exfalso; have := of_decide_eq_true h116; omega)) (fun h116 => ?_)
                refine swp_skip ?_
                refine block_n ?_
                refine then_n ?_
                refine swp_region ?_
                refine s_pu (pu_add_as ((i + 1 : Nat) : Int) rfl rfl (by omega) (by omega) (by omega)) ?_
                refine s_pu (pu_move rfl) ?_
                refine swl_sub _ (.cons (t := 7) rfl (.cons (t := 8) rfl (.cons (t := 9) rfl (.cons (t := 10) rfl (.cons (t := 12) rfl (.cons (t := 13) rfl (.cons (t := 15) rfl (.cons (t := 17) rfl (.cons (t := 18) rfl (.cons (t := 62) rfl (.cons (t := 63) rfl (.cons (t := 82) rfl (.cons (t := 83) rfl (.cons (t := 84) rfl .nil)))))))))))))) ?_
                refine swl_nil ?_
                refine then_n ⟨(i + 1, μj, A3), ⟨?_, Split.ent' (by repeat (first | exact Split.nil | (apply Split.cons; (repeat (first | with_reducible exact Take.here | apply Take.there))))), h85', hli.trans hj, fun d => ?_⟩, by show S.length - (i + 1) < S.length - i; omega⟩
                · rw [hm1]
                · have := a3 d
                  rwa [show i + 1 + 2 + 1 = i + 1 + 1 + 2 by omega] at this
        · skip   -- 85 F
          have h85' := of_decide_eq_false h85
          obtain rfl : i = S.length := by omega
          rw [List.take_length]
          have hb1 : (up (nums Gm) a c && up (nums Gm) b c) = decide ((0 : Int) < (unders (nums Gm) c S : Nat)) := by
            rw [hboth, Bool.eq_iff_iff, decide_eq_true_eq, decide_eq_true_eq]; omega
          refine swp_exit ?_
          refine then_x ?_
          refine then_x ?_
          refine block_hit rfl ?_
          refine then_n ?_
          refine swp_seq ?_
          refine swp_region ?_
          refine s_pu (pu_move rfl) ?_
          refine s_pu (pu_move rfl) ?_
          refine s_split 119 rfl (fun h119 => ?_) (fun h119 => ?_)
          · skip   -- 119 T
            refine s_on rfl rfl ?_
            refine s_pu (pu_move rfl) ?_
            first | refine s_pu (pu_pick_t rfl rfl) ?_ | refine s_pu (pu_pick_f rfl rfl) ?_
            refine s_pu (pu_move rfl) ?_
            refine s_pu (pu_gtr rfl rfl) ?_
            refine s_pu (pu_bool_ne rfl rfl) ?_
            refine s_pu (pu_move rfl) ?_
            refine s_split 125 rfl (fun h125 => by exfalso; first | (rw [h119, Bool.true_and] at hb1; rw [hb1] at h125; simp at h125; done) | (rw [h119, Bool.false_and] at hb1; rw [← hb1] at h125; cases h125)) (fun h125 => ?_)
            refine s_on rfl rfl ?_
            refine s_pu (pu_move rfl) ?_
            refine s_on rfl rfl ?_
            refine s_pu (pu_move rfl) ?_
            refine s_split 127 rfl (fun h127 => ?_) (fun h127 => ?_)
            · skip   -- 127 T
              have h1 := hone (of_decide_eq_true h127)
              refine s_on rfl rfl ?_
              refine s_pu (pu_move rfl) ?_
              refine s_on rfl rfl ?_
              refine s_pu (pu_neq rfl rfl) ?_
              refine s_on rfl rfl ?_
              first | refine s_pu (pu_pick_t rfl rfl) ?_ | refine s_pu (pu_pick_f rfl rfl) ?_
              first | refine s_pu (pu_pick_t rfl rfl) ?_ | refine s_pu (pu_pick_f rfl rfl) ?_
              refine swl_sub _ (.cons (t := 7) rfl (.cons (t := 8) rfl (.cons (t := 9) rfl (.cons (t := 10) rfl (.cons (t := 62) rfl (.cons (t := 63) rfl (.cons (t := 131) rfl .nil))))))) ?_
              refine swl_nil ?_
              refine then_n ?_
              refine swp_cond (b := _) rfl (fun h131 => by first | cases h131 | (exfalso; rw [h1] at h131; cases h131)) (fun h131 => ?_)
              refine swp_skip ?_
              refine block_n ?_
              refine then_n ?_
              refine swp_region ?_
              refine s_pu (pu_add_as ((c + 1 : Nat) : Int) rfl rfl (by omega) (by omega) (by omega)) ?_
              refine s_pu (pu_move rfl) ?_
              refine swl_sub _ (.cons (t := 7) rfl (.cons (t := 8) rfl (.cons (t := 9) rfl (.cons (t := 10) rfl (.cons (t := 62) rfl (.cons (t := 63) rfl .nil)))))) ?_
              refine swl_nil ?_
              exact then_n ⟨(c + 1, μi, ai), ⟨rfl, Split.ent' (by repeat (first | exact Split.nil | (apply Split.cons; (repeat (first | with_reducible exact Take.here | apply Take.there))))), h64', l4e.trans hli, fun d => wpK_a (hai d) (by omega)⟩, by show Gm.length - (c + 1) < Gm.length - c; omega⟩
            · skip   -- 127 F
              refine s_off rfl rfl rfl ?_
              refine s_off rfl rfl rfl ?_
              refine s_on rfl rfl ?_
              first | refine s_pu (pu_pick_t rfl rfl) ?_ | refine s_pu (pu_pick_f rfl rfl) ?_
              first | refine s_pu (pu_pick_t rfl rfl) ?_ | refine s_pu (pu_pick_f rfl rfl) ?_
              refine swl_sub _ (.cons (t := 7) rfl (.cons (t := 8) rfl (.cons (t := 9) rfl (.cons (t := 10) rfl (.cons (t := 62) rfl (.cons (t := 63) rfl (.cons (t := 131) rfl .nil))))))) ?_
              refine swl_nil ?_
              refine then_n ?_
              refine swp_cond (b := _) rfl (fun h131 => by first | cases h131 | (exfalso; rw [h1] at h131; cases h131)) (fun h131 => ?_)
              refine swp_skip ?_
              refine block_n ?_
              refine then_n ?_
              refine swp_region ?_
              refine s_pu (pu_add_as ((c + 1 : Nat) : Int) rfl rfl (by omega) (by omega) (by omega)) ?_
              refine s_pu (pu_move rfl) ?_
              refine swl_sub _ (.cons (t := 7) rfl (.cons (t := 8) rfl (.cons (t := 9) rfl (.cons (t := 10) rfl (.cons (t := 62) rfl (.cons (t := 63) rfl .nil)))))) ?_
              refine swl_nil ?_
              exact then_n ⟨(c + 1, μi, ai), ⟨rfl, Split.ent' (by repeat (first | exact Split.nil | (apply Split.cons; (repeat (first | with_reducible exact Take.here | apply Take.there))))), h64', l4e.trans hli, fun d => wpK_a (hai d) (by omega)⟩, by show Gm.length - (c + 1) < Gm.length - c; omega⟩
          · skip   -- 119 F
            refine s_off rfl rfl rfl ?_
            first | refine s_pu (pu_pick_t rfl rfl) ?_ | refine s_pu (pu_pick_f rfl rfl) ?_
            refine s_pu (pu_move rfl) ?_
            refine s_pu (pu_gtr rfl rfl) ?_
            refine s_pu (pu_bool_ne rfl rfl) ?_
            refine s_pu (pu_move rfl) ?_
            refine s_split 125 rfl (fun h125 => by exfalso; first | (rw [h119, Bool.true_and] at hb1; rw [hb1] at h125; simp at h125; done) | (rw [h119, Bool.false_and] at hb1; rw [← hb1] at h125; cases h125)) (fun h125 => ?_)
            refine s_on rfl rfl ?_
            refine s_pu (pu_move rfl) ?_
            refine s_on rfl rfl ?_
            refine s_pu (pu_move rfl) ?_
            refine s_split 127 rfl (fun h127 => ?_) (fun h127 => ?_)
            · skip   -- 127 T
              have h1 := hone (of_decide_eq_true h127)
              refine s_on rfl rfl ?_
              refine s_pu (pu_move rfl) ?_
              refine s_on rfl rfl ?_
              refine s_pu (pu_neq rfl rfl) ?_
              refine s_on rfl rfl ?_
              first | refine s_pu (pu_pick_t rfl rfl) ?_ | refine s_pu (pu_pick_f rfl rfl) ?_
              first | refine s_pu (pu_pick_t rfl rfl) ?_ | refine s_pu (pu_pick_f rfl rfl) ?_
              refine swl_sub _ (.cons (t := 7) rfl (.cons (t := 8) rfl (.cons (t := 9) rfl (.cons (t := 10) rfl (.cons (t := 62) rfl (.cons (t := 63) rfl (.cons (t := 131) rfl .nil))))))) ?_
              refine swl_nil ?_
              refine then_n ?_
              refine swp_cond (b := _) rfl (fun h131 => by first | cases h131 | (exfalso; rw [h1] at h131; cases h131)) (fun h131 => ?_)
              refine swp_skip ?_
              refine block_n ?_
              refine then_n ?_
              refine swp_region ?_
              refine s_pu (pu_add_as ((c + 1 : Nat) : Int) rfl rfl (by omega) (by omega) (by omega)) ?_
              refine s_pu (pu_move rfl) ?_
              refine swl_sub _ (.cons (t := 7) rfl (.cons (t := 8) rfl (.cons (t := 9) rfl (.cons (t := 10) rfl (.cons (t := 62) rfl (.cons (t := 63) rfl .nil)))))) ?_
              refine swl_nil ?_
              exact then_n ⟨(c + 1, μi, ai), ⟨rfl, Split.ent' (by repeat (first | exact Split.nil | (apply Split.cons; (repeat (first | with_reducible exact Take.here | apply Take.there))))), h64', l4e.trans hli, fun d => wpK_a (hai d) (by omega)⟩, by show Gm.length - (c + 1) < Gm.length - c; omega⟩
            · skip   -- 127 F
              refine s_off rfl rfl rfl ?_
              refine s_off rfl rfl rfl ?_
              refine s_on rfl rfl ?_
              first | refine s_pu (pu_pick_t rfl rfl) ?_ | refine s_pu (pu_pick_f rfl rfl) ?_
              first | refine s_pu (pu_pick_t rfl rfl) ?_ | refine s_pu (pu_pick_f rfl rfl) ?_
              refine swl_sub _ (.cons (t := 7) rfl (.cons (t := 8) rfl (.cons (t := 9) rfl (.cons (t := 10) rfl (.cons (t := 62) rfl (.cons (t := 63) rfl (.cons (t := 131) rfl .nil))))))) ?_
              refine swl_nil ?_
              refine then_n ?_
              refine swp_cond (b := _) rfl (fun h131 => by first | cases h131 | (exfalso; rw [h1] at h131; cases h131)) (fun h131 => ?_)
              refine swp_skip ?_
              refine block_n ?_
              refine then_n ?_
              refine swp_region ?_
              refine s_pu (pu_add_as ((c + 1 : Nat) : Int) rfl rfl (by omega) (by omega) (by omega)) ?_
              refine s_pu (pu_move rfl) ?_
              refine swl_sub _ (.cons (t := 7) rfl (.cons (t := 8) rfl (.cons (t := 9) rfl (.cons (t := 10) rfl (.cons (t := 62) rfl (.cons (t := 63) rfl .nil)))))) ?_
              refine swl_nil ?_
              exact then_n ⟨(c + 1, μi, ai), ⟨rfl, Split.ent' (by repeat (first | exact Split.nil | (apply Split.cons; (repeat (first | with_reducible exact Take.here | apply Take.there))))), h64', l4e.trans hli, fun d => wpK_a (hai d) (by omega)⟩, by show Gm.length - (c + 1) < Gm.length - c; omega⟩
      · skip   -- 64 F
        refine swp_exit ?_
        refine then_x ?_
        refine then_x ?_
        refine block_hit rfl ?_
        refine then_n ?_
        refine swp_seq ?_
        refine swp_region ?_
        refine s_pu (pu_assign rfl) ?_
        refine swl_sub _ (.cons (t := 6) rfl .nil) ?_
        refine swl_nil ?_
        refine then_n ?_
        refine swp_ret ?_
        exact done_ret [ro μc] (.tmp rfl .nil) ⟨rfl, μc, [], h1.trans (h2.trans (l24.trans hlc)), rfl⟩ (by repeat (first | exact Split.nil | (apply Split.cons; (repeat (first | with_reducible exact Take.here | apply Take.there)))))
end SX
namespace Go.Proofs.YtieggbckcacihaaDoor
open Go.ChangeShapes Go.WideShapes Go.ChangeAt Go.RowKit
theorem ownKnobF : ownKnob Tryd.prog.godebug = none := by kernel_rfl
theorem gTab : Tryd.prog.globalNamed "math/bits.deBruijn64tab" = some 0 := by kernel_rfl
theorem tTab : (Tryd.prog.globals[0]?).map (·.type) = some 136 := by kernel_rfl
theorem datum {H : Type} : (Rows.laid_math_bits_deBruijn64tab : DataW H) = .agg (Lib.deBruijn64tab.map fun n => .lit (.int .u8 (n : Nat))) := rfl
theorem tab_of {W : World} (h : laidMetH Tryd.prog Rows.walkAncestorRow.laid W) : SX.RowAt (fun b => W.heap[b]?) 0 0 SX.tabV := by
  rw [MakeChecks.laidMetH_plain _ _ _ (by kernel_rfl)] at h
  obtain ⟨ps, ⟨g0, t0, cs0, f0, p0, q0, hg0, ht0, hv0, hd0, _, _⟩, _, _⟩ := h
  obtain rfl := Option.some.inj (gTab.symm.trans hg0)
  obtain rfl := Option.some.inj (tTab.symm.trans ht0)
  obtain ⟨xs, m, rfl, hx, _, hn, hel⟩ := DataW.trod_array Tryd.underlying136 hd0
  simp only [Prod.mk.injEq] at hx
  have hx1 := hx.1
  rw [datum] at hx1
  simp only [DataW.agg.injEq] at hx1
  have c5 : Tryd.prog.cellsOf 5 = 1 := by kernel_rfl
  have hlen : Lib.deBruijn64tab.length = 64 := rfl
  intro j u hj
  have hj64 : j < 64 := by
    have := (List.getElem?_eq_some_iff.1 hj).1
    simpa [SX.tabV, hlen] using this
  obtain ⟨k, hk⟩ : ∃ k, Lib.deBruijn64tab[j]? = some k := ⟨_, List.getElem?_eq_getElem (by omega)⟩
  have hu : u = .int .u8 (k : Nat) := by
    unfold SX.tabV at hj
    rw [List.getElem?_map, hk] at hj
    exact (Option.some.inj hj).symm
  obtain ⟨y, hy⟩ : ∃ y, xs[j]? = some y := ⟨_, List.getElem?_eq_getElem (by omega)⟩
  have h1 := hel j hj64
  rw [hy, c5, Nat.mul_one] at h1
  obtain ⟨n, e1, e2, _⟩ := DataW.trod_int Tryd.underlying5 h1
  have e3 : (xs.map (·.1))[j]? = some (.lit (.int .u8 n)) := by rw [List.getElem?_map, hy, e2]; rfl
  rw [← hx1, List.getElem?_map, hk] at e3
  have hnk : n = (k : Int) := by
    have := Option.some.inj e3
    simpa using this.symm
  have hc := World.var?_cell hg0 hv0 j
  have hcs : cs0[j]? = some (.int .u8 n) := by
    have : (cs0.toList.drop j)[0]? = some (.int .u8 n) := by
      have := congrArg (·[0]?) e1
      simpa [List.getElem?_take] using this
    rw [List.getElem?_drop, Nat.add_zero] at this
    simpa using this
  rw [hcs] at hc
  rw [Nat.zero_add, hu, ← hnk]
  exact (SX.spot_of_cell hc).2
theorem door_met (os : Os) (args : Array Value) : laidMetH Tryd.prog Rows.walkAncestorRow.laid ((World.doorLaid Tryd.prog 400 os).forCall (fun _ _ => 0) ⟨#[], args, []⟩).memory :=
  laidMetH_of_parts3 (fuel := 8) (laidMet_of_run' 8 (by kernel_rfl) (by kernel_rfl)) (by kernel_rfl) (by kernel_rfl)
end Go.Proofs.YtieggbckcacihaaDoor
