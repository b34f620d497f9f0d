/- A part of the proof: walks of the program's functions, and the rules by which they go. -/
import Derived.Test.YtllgakmdhjgmoaaGreatB0ea577cf
import Derived.Test.YtllgakmdhjgmoaaGreatB63c38127
import Derived.Test.YtllgakmdhjgmoaaGreatRows
namespace SX
open Go Go.Proofs
abbrev qM : Int := 16777216
/-- a disk with a log whose name is not yet safe -/
def dN (q : Int) (B : List UInt8) : Dk := ⟨q, [⟨B, B.length⟩], [(logN, 0)], [], [⟨nos, logN, 0⟩], 0, false⟩
theorem dN_create (q : Int) : createD (newD q) logN = (dN q [], 0) := by kernel_rfl
theorem dN_used (q : Int) (B : List UInt8) : (dN q B).used = B.length := by
  show ([(logN, 0)].map fun x : Nm => ((dN q B).fl x.2).bytes.length).sum = _
  simp only [List.map_cons, List.map_nil, List.sum_cons, List.sum_nil]; rfl
theorem dN_write {q : Int} {B : List UInt8} {f : Fm} (h : (B.length : Int) + ((f.2.length + 9 : Nat) : Int) ≤ q) : writeD (dN q B) f = (dN q (B ++ encFm f), 0) := by
  have e : findN (dN q B).seen logN = some 0 := one_find logN
  have ha : appendD (dN q B) logN (encFm f) = (⟨q, [⟨B ++ encFm f, B.length⟩], [(logN, 0)], [], [⟨nos, logN, 0⟩], 0, false⟩, 0) := by
    unfold appendD onFile
    rw [if_neg (show ¬ (dN q B).off = true by show ¬ false = true; decide), e]
    dsimp only
    rw [dN_used, encFm_len, show (dN q B).quota = q from rfl, if_neg om0, atStepN (show (dN q B).falls ≠ 1 by show (0 : Int) ≠ 1; decide)]
    rfl
  unfold writeD
  rw [ha, if_neg (fun k => k rfl)]
  dsimp only
  unfold syncD onFile
  rw [if_neg (show ¬ (⟨q, [⟨B ++ encFm f, B.length⟩], [(logN, 0)], [], [⟨nos, logN, 0⟩], 0, false⟩ : Dk).off = true by show ¬ false = true; decide), show findN (⟨q, [⟨B ++ encFm f, B.length⟩], [(logN, 0)], [], [⟨nos, logN, 0⟩], 0, false⟩ : Dk).seen logN = some 0 from one_find logN]
  dsimp only
  rw [atStepN (show (0 : Int) ≠ 1 by decide)]
  rfl
/-- a call that adds, where there is room -/
def addM (S : St2) (B : List UInt8) (e0 : Int) (f : Fm) (s' : St2) : List UInt8 × St2 × Int := if e0 ≠ 0 then (B, S, e0) else (B ++ encFm f, s', 0)
def comE (S : St2) (c : Cm) : Int := if checkC c ≠ 0 then checkC c else if knownS S.1.length S.2.length c = false then 9 else 0
def adM (S : St2) (B : List UInt8) (t : List En) : List UInt8 × St2 × Int := addM S B (encErr t) (1, encT t) (S.1 ++ [t], S.2)
def acM (S : St2) (B : List UInt8) (c : Cm) : List UInt8 × St2 × Int := addM S B (comE S c) (2, encC' c) (S.1, S.2 ++ [c])
theorem addR_M {D : List UInt8 → Dk} {B : List UInt8} {S s' : St2} {e0 : Int} {n : Nat} {f : Fm} (hn : n < 65536) (hD : e0 = 0 → writeD (D B) f = (D (B ++ encFm f), 0)) :
    ∃ k, addR ⟨D B, S, false⟩ e0 n f s' = (⟨D (addM S B e0 f s').1, (addM S B e0 f s').2.1, false⟩, k, (addM S B e0 f s').2.2) := by
  unfold addM
  by_cases h : e0 = 0
  · have hw := hD h
    rw [if_neg (not_not_intro h), addR_ok (x := ⟨D B, S, false⟩) rfl h hn (by rw [hw]), hw]
    exact ⟨_, rfl⟩
  · rw [if_pos h, addR_err (x := ⟨D B, S, false⟩) rfl h]
    exact ⟨_, rfl⟩
/-- a store of few things -/
structure MS (S : St2) (B : List UInt8) (k : Nat) : Prop where
  a : S.1.length ≤ k
  b : S.2.length ≤ k
  c : B.length ≤ k * 1048576
  d : SmallS S
theorem MS.mono {S : St2} {B : List UInt8} {k j : Nat} (h : MS S B k) (hj : k ≤ j) : MS S B j := ⟨Nat.le_trans h.a hj, Nat.le_trans h.b hj, Nat.le_trans h.c (Nat.mul_le_mul_right _ hj), h.d⟩
theorem MS.nil : MS ([], []) [] 0 := ⟨Nat.le_refl _, Nat.le_refl _, Nat.zero_le _, fun t h => (by cases h), fun t h => (by cases h)⟩
theorem MS.tree {S : St2} {B : List UInt8} {k : Nat} (h : MS S B k) (t : List En) : MS (adM S B t).2.1 (adM S B t).1 (k + 1) := by
  unfold adM addM
  by_cases h0 : encErr t = 0
  · rw [if_neg (not_not_intro h0)]
    have hl := encT_len h0
    have := h.a; have := h.c
    refine ⟨?_, Nat.le_succ_of_le h.b, ?_, h.d.addT (by have := (encErr_ok h0).1; omega)⟩
    · show (S.1 ++ [t]).length ≤ k + 1; rw [List.length_append, List.length_singleton]; omega
    · show (B ++ encFm (1, encT t)).length ≤ (k + 1) * 1048576
      rw [List.length_append, encFm_len]
      show B.length + ((encT t).length + 9) ≤ _
      omega
  · rw [if_pos h0]
    exact h.mono om0
theorem comE_ok {S : St2} {c : Cm} (h : comE S c = 0) : checkC c = 0 := by
  unfold comE at h
  by_cases h1 : checkC c = 0
  · exact h1
  · rw [if_pos h1] at h; exact h
theorem MS.com {S : St2} {B : List UInt8} {k : Nat} (h : MS S B k) (c : Cm) : MS (acM S B c).2.1 (acM S B c).1 (k + 1) := by
  unfold acM addM
  by_cases h0 : comE S c = 0
  · rw [if_neg (not_not_intro h0)]
    have hl := encC_len (comE_ok h0)
    have := h.b; have := h.c
    refine ⟨Nat.le_succ_of_le h.a, ?_, ?_, h.d.addC (by have := (checkC_ok (comE_ok h0)).1; omega)⟩
    · show (S.2 ++ [c]).length ≤ k + 1; rw [List.length_append, List.length_singleton]; omega
    · show (B ++ encFm (2, encC' c)).length ≤ (k + 1) * 1048576
      rw [List.length_append, encFm_len]
      show B.length + ((encC' c).length + 9) ≤ _
      omega
  · rw [if_pos h0]
    exact h.mono om0
theorem MS.fitT {S : St2} {B : List UInt8} {k : Nat} (h : MS S B k) (hk : k ≤ 8) {t : List En} (h0 : encErr t = 0) : (B.length : Int) + (((encT t).length + 9 : Nat) : Int) ≤ qM := by
  have := h.c; have := encT_len h0
  have : k * 1048576 ≤ 8 * 1048576 := Nat.mul_le_mul_right _ hk
  show _ ≤ (16777216 : Int)
  omega
theorem MS.fitC {S : St2} {B : List UInt8} {k : Nat} (h : MS S B k) (hk : k ≤ 8) {c : Cm} (h0 : comE S c = 0) : (B.length : Int) + (((encC' c).length + 9 : Nat) : Int) ≤ qM := by
  have := h.c; have := encC_len (comE_ok h0)
  have : k * 1048576 ≤ 8 * 1048576 := Nat.mul_le_mul_right _ hk
  show _ ≤ (16777216 : Int)
  omega
theorem addT_M {D : List UInt8 → Dk} (hD : ∀ {B : List UInt8} {f : Fm}, (B.length : Int) + ((f.2.length + 9 : Nat) : Int) ≤ qM → writeD (D B) f = (D (B ++ encFm f), 0)) {S : St2} {B : List UInt8} {k : Nat} (h : MS S B k) (hk : k ≤ 8) (t : List En) :
    ∃ j, addT ⟨D B, S, false⟩ t = (⟨D (adM S B t).1, (adM S B t).2.1, false⟩, j, (adM S B t).2.2) := addR_M (by have := h.a; show S.1.length < 65536; omega) fun h0 => hD (f := (1, encT t)) (h.fitT hk h0)
theorem addC_M {D : List UInt8 → Dk} (hD : ∀ {B : List UInt8} {f : Fm}, (B.length : Int) + ((f.2.length + 9 : Nat) : Int) ≤ qM → writeD (D B) f = (D (B ++ encFm f), 0)) {S : St2} {B : List UInt8} {k : Nat} (h : MS S B k) (hk : k ≤ 8) (c : Cm) :
    ∃ j, addC ⟨D B, S, false⟩ c = (⟨D (acM S B c).1, (acM S B c).2.1, false⟩, j, (acM S B c).2.2) := addR_M (by have := h.b; show S.2.length < 65536; omega) fun h0 => hD (f := (2, encC' c)) (h.fitC hk h0)
/-- a store as it lies: of these trees and commits -/
def At (μ : PH) (pd : Nat) (S : St2) (W : SW) : Prop := W.Ok μ ∧ W.q = pd ∧ W.pl = S ∧ W.dead = false
theorem At.le {μ μ' : PH} {pd : Nat} {S : St2} {W : SW} (h : At μ pd S W) (k : Le μ μ') : At μ' pd S W := ⟨h.1.le k, h.2⟩
/-- .. when its new row is there -/
def AtX (W : SW) (pd : Nat) (S : St2) (W' : SW) (m : Nat) (nv : Value) (n : Nat) (xs : List Value) : Prop := (∀ ν : PH, W.Ok ν → Row ν nv m n xs → W'.Ok ν) ∧ W'.q = pd ∧ W'.pl = S ∧ W'.dead = false
theorem AtX.at_ {μ μ' : PH} {pd pd' : Nat} {S S' : St2} {W W' : SW} {m n : Nat} {nv : Value} {xs : List Value} (h : AtX W pd S W' m nv n xs) (hW : At μ pd' S' W) (l : Le μ μ') (hr : Row μ' nv m n xs) : At μ' pd S W' := ⟨h.1 μ' (hW.1.le l) hr, h.2⟩
theorem ms_addT (μ : PH) (p : Nat) (W : SW) (pd : Nat) (S : St2) (B : List UInt8) (k : Nat) (hW : At μ pd S W) (hm : MS S B k) (hk : k ≤ 8) (hok : (lg qM B).Ok) (v : Value) (t : List En) (hv : Row μ v 2 t.length (ens t)) (hu : U32s t) :
    Spec Tryz.prog 12 [pv p, v] [FSA pd (lg qM B), stH p W, ttA W, ccA W, ro μ] (fun r L => ∃ W' n xs nv j, AtX W pd (adM S B t).2.1 W' 2 nv n xs ∧ (lg qM (adM S B t).1).Ok ∧ r = .tuple #[.int .i64 j, .int .i64 (adM S B t).2.2] ∧ L = [own 47 2 nv n xs, FSA pd (lg qM (adM S B t).1), stH p W', ttA W', ccA W', ro μ]) := by
  obtain ⟨hWo, rfl, rfl, hd⟩ := hW
  refine Spec.mono (addtreeX_spec μ p W hWo _ hok v t hv hu) ?_
  rintro r L ⟨W', n, xs, nv, ⟨h1, h2, h3, h4, rfl⟩, rfl⟩
  have ho := addT_ok (x := ⟨lg qM B, W.pl, false⟩) hok t
  rw [hd] at h3 h4 ⊢
  obtain ⟨j, hj⟩ := addT_M (D := lg qM) lg_write hm hk t
  rw [hj] at h3 h4 ho ⊢
  exact ⟨W', n, xs, nv, j, ⟨h1, h2, h3, h4⟩, ho, rfl, by rw [h2]⟩
theorem ms_addC (μ : PH) (p : Nat) (W : SW) (pd : Nat) (S : St2) (B : List UInt8) (k : Nat) (hW : At μ pd S W) (hm : MS S B k) (hk : k ≤ 8) (hok : (lg qM B).Ok) (v : Value) (c : Cm) (hv : Row μ v 1 c.1.length (c.1.flatMap (icsk .i64))) :
    Spec Tryz.prog 13 [pv p, cmV v c.2] [FSA pd (lg qM B), stH p W, ttA W, ccA W, ro μ] (fun r L => ∃ W' n xs nv j, AtX W pd (acM S B c).2.1 W' 1 nv n xs ∧ (lg qM (acM S B c).1).Ok ∧ r = .tuple #[.int .i64 j, .int .i64 (acM S B c).2.2] ∧ L = [own 3 1 nv n xs, FSA pd (lg qM (acM S B c).1), stH p W', ttA W', ccA W', ro μ]) := by
  obtain ⟨hWo, rfl, rfl, hd⟩ := hW
  refine Spec.mono (addcommitX_spec μ p W hWo _ hok v c hv) ?_
  rintro r L ⟨W', n, xs, nv, ⟨h1, h2, h3, h4, rfl⟩, rfl⟩
  have ho := addC_ok (x := ⟨lg qM B, W.pl, false⟩) hok c
  rw [hd] at h3 h4 ⊢
  obtain ⟨j, hj⟩ := addC_M (D := lg qM) lg_write hm hk c
  rw [hj] at h3 h4 ho ⊢
  exact ⟨W', n, xs, nv, j, ⟨h1, h2, h3, h4⟩, ho, rfl, by rw [h2]⟩
theorem dN_in (q : Int) (B : List UInt8) : Within 2 (dN q B) := ⟨by show 1 ≤ 2; decide, by show 1 ≤ 2; decide⟩
theorem mw_addT (μ : PH) (p : Nat) (W : SW) (pd : Nat) (S : St2) (B : List UInt8) (k : Nat) (hW : At μ pd S W) (hm : MS S B k) (hk : k ≤ 8) (hok : (dN qM B).Ok) (v : Value) (t : List En) (hv : Row μ v 2 t.length (ens t)) (hu : U32s t) :
    Spec Tryz.prog 14 [pv p, v] [RDA pd (dN qM B), rsH p W, ttA W, ccA W, ro μ] (fun r L => ∃ W' μ' j, Le μ μ' ∧ At μ' pd (adM S B t).2.1 W' ∧ (dN qM (adM S B t).1).Ok ∧ r = .tuple #[.int .i64 j, .int .i64 (adM S B t).2.2] ∧ L = [RDA pd (dN qM (adM S B t).1), rsH p W', ttA W', ccA W', ro μ']) := by
  obtain ⟨hWo, rfl, rfl, hd⟩ := hW
  refine Spec.mono (raddtree_spec μ p W hWo _ hok 2 (dN_in _ _) om0 v t hv hu) ?_
  rintro r L ⟨W', μ', ⟨l1, h2, h3, h4, h5, rfl⟩, rfl⟩
  have ho := addT_ok (x := ⟨dN qM B, W.pl, false⟩) hok t
  rw [hd] at h4 h5 ⊢
  obtain ⟨j, hj⟩ := addT_M (D := dN qM) dN_write hm hk t
  rw [hj] at h4 h5 ho ⊢
  exact ⟨W', μ', j, l1, ⟨h2, h3, h4, h5⟩, ho, rfl, by rw [h3]⟩
theorem mw_addC (μ : PH) (p : Nat) (W : SW) (pd : Nat) (S : St2) (B : List UInt8) (k : Nat) (hW : At μ pd S W) (hm : MS S B k) (hk : k ≤ 8) (hok : (dN qM B).Ok) (v : Value) (c : Cm) (hv : Row μ v 1 c.1.length (c.1.flatMap (icsk .i64))) :
    Spec Tryz.prog 15 [pv p, cmV v c.2] [RDA pd (dN qM B), rsH p W, ttA W, ccA W, ro μ] (fun r L => ∃ W' μ' j, Le μ μ' ∧ At μ' pd (acM S B c).2.1 W' ∧ (dN qM (acM S B c).1).Ok ∧ r = .tuple #[.int .i64 j, .int .i64 (acM S B c).2.2] ∧ L = [RDA pd (dN qM (acM S B c).1), rsH p W', ttA W', ccA W', ro μ']) := by
  obtain ⟨hWo, rfl, rfl, hd⟩ := hW
  refine Spec.mono (raddcommit_spec μ p W hWo _ hok 2 (dN_in _ _) om0 v c hv) ?_
  rintro r L ⟨W', μ', ⟨l1, h2, h3, h4, h5, rfl⟩, rfl⟩
  have ho := addC_ok (x := ⟨dN qM B, W.pl, false⟩) hok c
  rw [hd] at h4 h5 ⊢
  obtain ⟨j, hj⟩ := addC_M (D := dN qM) dN_write hm hk c
  rw [hj] at h4 h5 ho ⊢
  exact ⟨W', μ', j, l1, ⟨h2, h3, h4, h5⟩, ho, rfl, by rw [h3]⟩
theorem ml_same (μ : PH) (p w pd pr : Nat) (Wa Wb : SW) (S : St2) (hA : At μ pd S Wa) (hB : At μ pr S Wb) (hs : SmallS S) : Spec Tryz.prog 18 [pv p, pv w] [stH p Wa, ttA Wa, ccA Wa, rsH w Wb, ttA Wb, ccA Wb, ro μ]
    (fun r L => ∃ μ', Le μ μ' ∧ r = .bool true ∧ L = [stH p Wa, ttA Wa, ccA Wa, rsH w Wb, ttA Wb, ccA Wb, ro μ']) := by
  refine Spec.mono (lsame_spec μ p w Wa Wb hA.1 hB.1 (SmallS.w (by rw [hA.2.2.1]; exact hs)) (SmallS.w (by rw [hB.2.2.1]; exact hs))) ?_
  rintro r L ⟨μ', l1, rfl, rfl⟩
  refine ⟨μ', l1, ?_, rfl⟩
  unfold sameW
  rw [decide_eq_true ⟨hA.2.2.1.trans hB.2.2.1.symm, hA.2.2.2.trans hB.2.2.2.symm⟩]
end SX
namespace SX
open Go Go.Proofs
theorem shape_slice {v : Value} {l : Nat} (h : Shape v l) : ∃ A c, v = .slice A l c := by
  rcases h with ⟨h1, h2⟩ | ⟨b, cap, h, _⟩
  · exact ⟨none, 0, by rw [h1, h2]⟩
  · exact ⟨_, _, h⟩
theorem shape_some {A : Option Addr} {l c : Nat} (h : Shape (.slice A l c) l) (hl : 0 < l) : ∃ b, A = some ⟨b, 0, none⟩ := by
  rcases h with ⟨_, h2⟩ | ⟨b, cap, h, _⟩
  · omega
  · cases h; exact ⟨b, rfl⟩
theorem u32_lit (i : Nat) (hi : i < 100) : U32s [(⟨#[112]⟩, ((i + 1 : Nat) : Int))] := fun e he => by
  obtain rfl : e = (⟨#[112]⟩, ((i + 1 : Nat) : Int)) := by simpa using he
  exact ⟨by show (0 : Int) ≤ ((i + 1 : Nat) : Int); omega, by show ((i + 1 : Nat) : Int) ≤ 4294967295; omega⟩
theorem treeAt_small {ts : List (List En)} {m : Nat} (h : ∀ t ∈ ts, t.length ≤ m) (n : Int) : (treeAt ts n).1.length ≤ m := by
  unfold treeAt
  split
  · split
    · rename_i t ht; exact h t (List.mem_of_getElem? ht)
    · exact Nat.zero_le _
  · exact Nat.zero_le _
theorem comAt_small {cs : List Cm} {m : Nat} (h : ∀ t ∈ cs, t.1.length ≤ m) (n : Int) : (comAt cs n).1.1.length ≤ m := by
  unfold comAt
  split
  · split
    · rename_i t ht; exact h t (List.mem_of_getElem? ht)
    · exact Nat.zero_le _
  · exact Nat.zero_le _
set_option maxHeartbeats 16000000 in
theorem storememory_spec (μ : PH) (v0 cv : Value) (t : List En) (c : Cm) (hrow0 : Row μ v0 2 t.length (ens t)) (hu : U32s t) (hrc0 : Row μ cv 1 c.1.length (c.1.flatMap (icsk .i64))) (htl : t.length ≤ 1048576) (hcl : c.1.length ≤ 1048576) :
  Spec Tryz.prog 3 [v0, cmV cv c.2] [ro μ] (fun r L => r = .bool true ∧ ∃ μ' R, Le μ μ' ∧ L = ro μ' :: R) := by
 obtain ⟨cA, cc, rfl⟩ := hrc0.sl
 have hn0 : (newD qM).Ok := newD_ok (by decide)
 have ho0 : (lg qM []).Ok := by have := open_ok hn0; rw [lg_open] at this; exact this
 have hd0 : (dN qM []).Ok := by have := createD_ok hn0 logN; rw [dN_create] at this; exact this
 refine Spec.of 257 Tryz.func3 rfl rfl rfl ?_
 refine swp_sr ?_
 refine s_ef (ef_box rfl rfl) ?_
 intro b3
 refine s_as rfl ?_
 refine swl_sub _ (sc0 0 rfl (sc0 3 rfl .nil)) ?_
 refine swl_nn ?_
 refine swp_seq ?_
 refine swp_sr ?_
 refine s_ef (ef_fn opens_spec rfl rfl sp0) ?_
 rintro v18 L1 ⟨rfl, rfl⟩
 refine swl_app ?_
 refine s_pu (pu_not rfl) ?_
 refine swl_sub _ (sc0 0 rfl (sc0 3 rfl (sc0 38 rfl .nil))) ?_
 refine swl_nn ?_
 refine swp_cond (b := _) rfl (fun h38 => by cases h38) (fun h38 => ?_)
 refine swp_skip ?_
 refine then_n ?_
 refine swp_sr ?_
 refine s_ef (ef_fn (new_spec 16777216) rfl rfl sp0) ?_
 rintro v40 L1 hnw
 obtain ⟨pd, rfl, rfl⟩ : ∃ q, v40 = .tuple #[pv q, .int .i64 0] ∧ L1 = [FSA q (newD qM)] := by
  rcases hnw with ⟨h, _⟩ | ⟨_, q, h1, h2⟩
  ·exact absurd (show newOk 16777216 from ⟨by decide, by decide⟩) h
  ·exact ⟨q, h1, h2⟩
 clear hnw
 refine swl_app ?_
 refine s_mv rfl ?_
 first | refine s_pu (pu_extractL rfl) ?_ | refine s_pu (pu_extract rfl rfl) ?_
 first | refine s_pu (pu_extractL rfl) ?_ | refine s_pu (pu_extract rfl rfl) ?_
 refine s_as rfl ?_
 refine s_as rfl ?_
 refine swl_sub _ (sc0 0 rfl (sc0 3 rfl (sc0 5 rfl .nil))) ?_
 refine swl_nn ?_
 refine swp_sr ?_
 refine s_mv rfl ?_
 refine s_ef (ef_fn (open_spec μ pd (newD qM) hn0 ⟨by decide, by decide⟩) rfl rfl sp0) ?_
 rintro v45 L1 ⟨p, W0, μ0, e, hq, rfl, rfl⟩
 obtain ⟨l0, hW0, hq0, hdd0, he, hpl⟩ := hq
 rw [lg_open] at he
 rw [lg_open]
 dsimp only at he ⊢
 subst he
 have hA0 : At μ0 pd ([], []) W0 := ⟨hW0, hq0, by rw [hpl rfl, lg_openS], hdd0⟩
 clear hpl hW0 hq0 hdd0
 refine swl_app ?_
 refine s_mv rfl ?_
 first | refine s_pu (pu_extractL rfl) ?_ | refine s_pu (pu_extract rfl rfl) ?_
 first | refine s_pu (pu_extractL rfl) ?_ | refine s_pu (pu_extract rfl rfl) ?_
 refine s_as rfl ?_
 refine s_as rfl ?_
 refine swl_sub _ (sc0 0 rfl (sc0 3 rfl (sc0 7 rfl .nil))) ?_
 refine swl_nn ?_
 refine swp_sr ?_
 refine s_pu (pu_bld (qs := []) rfl) ?_
 refine s_ef (ef_box rfl rfl) ?_
 intro b49
 refine s_as rfl ?_
 refine swl_sub _ (sc0 0 rfl (sc0 3 rfl (sc0 7 rfl (sc0 9 rfl .nil)))) ?_
 refine swl_nn ?_
 refine swp_sr ?_
 refine s_ef (ef_fn (rnewd_spec 16777216) rfl rfl sp0) ?_
 rintro v51 L1 hnw
 obtain ⟨pr, rfl, rfl⟩ : ∃ q, v51 = .tuple #[pv q, .int .i64 0] ∧ L1 = [RDA q (newD qM)] := by
  rcases hnw with ⟨h, _⟩ | ⟨_, q, h1, h2⟩
  ·exact absurd (show newOk 16777216 from ⟨by decide, by decide⟩) h
  ·exact ⟨q, h1, h2⟩
 clear hnw
 refine swl_app ?_
 refine s_mv rfl ?_
 first | refine s_pu (pu_extractL rfl) ?_ | refine s_pu (pu_extract rfl rfl) ?_
 first | refine s_pu (pu_extractL rfl) ?_ | refine s_pu (pu_extract rfl rfl) ?_
 refine s_as rfl ?_
 refine s_as rfl ?_
 refine swl_sub _ (sc0 0 rfl (sc0 3 rfl (sc0 7 rfl (sc0 9 rfl (sc0 10 rfl .nil))))) ?_
 refine swl_nn ?_
 refine swp_sr ?_
 refine s_mv rfl ?_
 refine s_mv rfl ?_
 first | refine s_pu (pu_nilCheck rfl) ?_ | refine s_pu (pu_nilCheck_fn rfl) ?_ | refine s_pu (pu_nilCheck_if rfl) ?_
 first | refine s_pu (pu_fieldAddr0 rfl) ?_ | refine s_pu (pu_fieldAddr rfl) ?_
 refine s_ef0 (ef_store rfl rfl rfl) ?_
 refine swl_sub _ (sc0 0 rfl (sc0 3 rfl (sc0 7 rfl (sc0 9 rfl (sc0 10 rfl .nil))))) ?_
 refine swl_nn ?_
 refine swp_sr ?_
 refine s_mv rfl ?_
 refine s_ef (ef_fn (rcreate_spec pr (newD qM) hn0 ⟨by decide, by decide⟩ logN) rfl rfl sp0) ?_
 rintro v59 L1 ⟨rfl, rfl⟩
 rw [dN_create]
 dsimp only
 refine swl_app ?_
 refine swl_sub _ (sc0 0 rfl (sc0 3 rfl (sc0 7 rfl (sc0 9 rfl .nil)))) ?_
 refine swl_nn ?_
 refine swp_seq ?_
 refine swp_sr ?_
 refine s_mv rfl ?_
 refine swl_sub _ (sc0 0 rfl (sc0 3 rfl (sc0 7 rfl (sc0 9 rfl (sc0 60 rfl .nil))))) ?_
 refine swl_nn ?_
 refine swp_block ?_
 obtain ⟨w, hw⟩ : ∃ x, x = b49 := ⟨_, rfl⟩
 rw [← hw]
 clear hw b49
 refine swp_ent (own_nil_ent (e := 22) (n := 1)) ?_
 refine swp_ent (own_nil_ent (e := 25) (n := 2)) ?_
 refine swp_loop (ι := Nat) (fun i env L => ∃ (S : St2) (B : List UInt8) (W V : SW) (μ2 : PH), Sub env [(0, v0), (3, pv b3), (7, pv p), (9, pv w), (60, .int .i64 (i : Nat))] ∧ Ent L [blk b3 25 [.slice cA c.1.length cc, .int .i64 c.2], FSA pd (lg qM B), stH p W, ttA W, ccA W, RDA pr (dN qM B), rsH w V, ttA V, ccA V, ro μ2] ∧ i ≤ 3 ∧ Le μ μ2 ∧ MS S B (2 * i) ∧ At μ2 pd S W ∧ At μ2 pr S V ∧ (lg qM B).Ok ∧ (dN qM B).Ok) (fun i => 3 - i) 0 ⟨([], []), [], W0, newSW pr, μ0, ⟨rfl, rfl, rfl, rfl, rfl, trivial⟩, by show Ent _ [blk b3 25 [.slice cA c.1.length cc, .int .i64 c.2], FSA pd (lg qM []), stH p W0, ttA W0, ccA W0, RDA pr (dN qM []), blk w 39 [pv pr, .slice none 0 0, .slice none 0 0, .bool false], own 22 1 (.slice none 0 0) 0 [], own 25 2 (.slice none 0 0) 0 [], ro μ0]; exact Split.ent' sp0, Nat.zero_le _, l0, MS.nil, hA0, ⟨newSW_ok _ _, rfl, rfl, rfl⟩, ho0, hd0⟩ ?_
 clear hn0 ho0 hd0 hA0 l0
 rintro i env L ⟨S, B, W, V, μ2, hsub, hE, hi, hle, hm, hA, hB, hoks, hokw⟩
 refine swp_sub _ hsub ?_
 refine swp_ent hE ?_
 clear hsub hE env L
 refine swp_sr ?_
 refine s_pu (pu_lss rfl rfl) ?_
 refine swl_sub _ (sc0 0 rfl (sc0 3 rfl (sc0 7 rfl (sc0 9 rfl (sc0 60 rfl (sc0 61 rfl .nil)))))) ?_
 refine swl_nn ?_
 refine swp_seq ?_
 refine swp_cond (b := _) rfl (fun h61 => ?_) (fun h61 => ?_)
 ·skip
  have h61' : i < 3 := by have := of_decide_eq_true h61; omega
  refine swp_skip ?_
  refine then_n ?_
  refine swp_seq ?_
  refine swp_block ?_
  refine swp_sr ?_
  refine s_mv rfl ?_
  refine s_as rfl ?_
  refine swl_sub _ (sc0 0 rfl (sc0 3 rfl (sc0 7 rfl (sc0 9 rfl (sc0 12 rfl (sc0 60 rfl .nil)))))) ?_
  refine swl_nn ?_
  refine swp_sr ?_
  refine s_mv rfl ?_
  refine s_mv rfl ?_
  refine s_pu (pu_add_as ((i + 1 : Nat) : Int) rfl rfl om0 om0 om0) ?_
  refine s_pu (pu_conv_as rfl (IntWalk.u32_in _ ⟨by omega, by omega⟩)) ?_
  refine s_pu (pu_bld (qs := [(0, _), (1, _)]) rfl) ?_
  refine s_ef (ef_bldS (qs := [(0, _)]) rfl rfl rfl) ?_
  intro b68
  refine swl_share (b := b68) (μ := μ2) sp0 fun μ3 l3 k3 => ?_
  have r3 := row_of_blk (n := 2) (l := 1) (cs := ens [(⟨#[112]⟩, ((i + 1 : Nat) : Int))]) k3 (by rfl) (by decide)
  refine s_ef (ef_fn (ms_addT μ3 p W pd S B (2 * i) (hA.le l3) hm om0 hoks (.slice (some ⟨b68, 0, none⟩) 1 1) [(⟨#[112]⟩, ((i + 1 : Nat) : Int))] r3 (u32_lit i om0)) rfl rfl sp0) ?_
  rintro v69 L1 ⟨W1, n1, xs1, nv1, j1, hx1, hoks1, rfl, rfl⟩
  refine swl_app ?_
  refine swl_share_own (μ := μ3) (v := nv1) (e := 47) (n := 2) sp0 fun μ4 l4 r4 => ?_
  have hA1 := hx1.at_ hA (l3.trans l4) r4
  have hm1 := hm.tree [(⟨#[112]⟩, ((i + 1 : Nat) : Int))]
  refine swl_sub _ (sc0 0 rfl (sc0 3 rfl (sc0 7 rfl (sc0 9 rfl (sc0 12 rfl (sc0 60 rfl .nil)))))) ?_
  refine swl_nn ?_
  refine swp_sr ?_
  refine s_mv rfl ?_
  refine s_mv rfl ?_
  refine s_pu (pu_bld (qs := [(1, _)]) rfl) ?_
  refine s_ef (ef_fn (ms_addC μ4 p W1 pd _ _ (2 * i + 1) hA1 hm1 om0 hoks1 (.slice none 0 0) ([], ((i : Nat) : Int)) (Row.nil _ _)) rfl rfl sp0) ?_
  rintro v73 L1 ⟨W2, n2, xs2, nv2, j2, hx2, hoks2, rfl, rfl⟩
  refine swl_app ?_
  refine swl_share_own (μ := μ4) (v := nv2) (e := 3) (n := 1) sp0 fun μ5 l5 r5 => ?_
  have hA2 := hx2.at_ hA1 l5 r5
  have hm2 := hm1.com ([], ((i : Nat) : Int))
  refine swl_sub _ (sc0 0 rfl (sc0 3 rfl (sc0 7 rfl (sc0 9 rfl (sc0 12 rfl (sc0 60 rfl .nil)))))) ?_
  refine swl_nn ?_
  refine swp_sr ?_
  refine s_mv rfl ?_
  refine s_mv rfl ?_
  refine s_pu (pu_add_as ((i + 1 : Nat) : Int) rfl rfl om0 om0 om0) ?_
  refine s_pu (pu_conv_as rfl (IntWalk.u32_in _ ⟨by omega, by omega⟩)) ?_
  refine s_pu (pu_bld (qs := [(0, _), (1, _)]) rfl) ?_
  refine s_ef (ef_bldS (qs := [(0, _)]) rfl rfl rfl) ?_
  intro b79
  refine swl_share (b := b79) (μ := μ5) sp0 fun μ6 l6 k6 => ?_
  have r6 := row_of_blk (n := 2) (l := 1) (cs := ens [(⟨#[112]⟩, ((i + 1 : Nat) : Int))]) k6 (by rfl) (by decide)
  refine s_ef (ef_fn (mw_addT μ6 w V pr S B (2 * i) (hB.le (l3.trans (l4.trans (l5.trans l6)))) hm om0 hokw (.slice (some ⟨b79, 0, none⟩) 1 1) [(⟨#[112]⟩, ((i + 1 : Nat) : Int))] r6 (u32_lit i om0)) rfl rfl sp0) ?_
  rintro v80 L1 ⟨V1, μ7, j3, l7, hB1, hokw1, rfl, rfl⟩
  refine swl_app ?_
  refine swl_sub _ (sc0 0 rfl (sc0 3 rfl (sc0 7 rfl (sc0 9 rfl (sc0 12 rfl (sc0 60 rfl .nil)))))) ?_
  refine swl_nn ?_
  refine swp_region ?_
  refine s_mv rfl ?_
  refine s_mv rfl ?_
  refine s_pu (pu_bld (qs := [(1, _)]) rfl) ?_
  refine s_ef (ef_fn (mw_addC μ7 w V1 pr _ _ (2 * i + 1) hB1 hm1 om0 hokw1 (.slice none 0 0) ([], ((i : Nat) : Int)) (Row.nil _ _)) rfl rfl sp0) ?_
  rintro v84 L1 ⟨V2, μ8, j4, l8, hB2, hokw2, rfl, rfl⟩
  refine swl_app ?_
  refine swl_sub _ (sc0 0 rfl (sc0 3 rfl (sc0 7 rfl (sc0 9 rfl (sc0 60 rfl .nil))))) ?_
  refine swl_nil ?_
  refine block_n ?_
  refine then_n ?_
  refine swp_region ?_
  refine s_pu (pu_add_as ((i + 1 : Nat) : Int) rfl rfl om0 om0 om0) ?_
  refine s_mv rfl ?_
  refine swl_sub _ (sc0 0 rfl (sc0 3 rfl (sc0 7 rfl (sc0 9 rfl (sc0 60 rfl .nil))))) ?_
  refine swl_nil ?_
  exact then_n ⟨i + 1, ⟨_, _, W2, V2, μ8, ⟨rfl, rfl, rfl, rfl, rfl, trivial⟩, Split.ent' sp0, h61', hle.trans (l3.trans (l4.trans (l5.trans (l6.trans (l7.trans l8))))), hm2.mono om0, hA2.le (l6.trans (l7.trans l8)), hB2, hoks2, hokw2⟩, by omega⟩
 ·skip
  have h61' : i = 3 := by have := of_decide_eq_false h61; omega
  subst h61'
  have hrow1 := hrow0.le hle
  have hrc1 := hrc0.le hle
  refine swp_exit ?_
  refine then_x ?_
  refine then_x ?_
  refine block_hit rfl ?_
  refine then_n ?_
  refine swp_sr ?_
  refine s_mv rfl ?_
  refine s_pu (pu_len_row hrow1 rfl) ?_
  refine s_pu (pu_add_as ((t.length + 2 : Nat) : Int) rfl rfl om0 om0 om0) ?_
  refine s_ef (ef_make0 (e := 47) (n := 2) rfl rfl om0 om0 (by simp only [maxLen]; omega)) ?_
  rintro v89
  skip
  refine s_mv rfl ?_
  refine s_ef (ef_append_ro hrow1 rfl rfl sp0 (ens_one t) (by simp only [maxLen]; omega) om0) ?_
  rintro v91 -
  rw [Nat.zero_add, List.nil_append]
  refine s_as rfl ?_
  refine swl_sub _ (sc0 0 rfl (sc0 3 rfl (sc0 7 rfl (sc0 9 rfl (sc0 13 rfl .nil))))) ?_
  refine swl_nn ?_
  refine swp_seq ?_
  refine swp_draw [1, 6] ([blk b3 25 [.slice cA c.1.length cc, .int .i64 c.2]]) ([own 47 2 v91 t.length (ens t), FSA pd (lg qM B), stH p W, ttA W, ccA W, RDA pr (dN qM B), rsH w V, ttA V, ccA V, ro μ2]) (Split.ent sp0) kr0 ?_
  first | refine d_pu 0 rfl (pu_fieldAddr0 rfl) kr0 kr0 kr0 ?_ | refine d_pu 0 rfl (pu_fieldAddr rfl) kr0 kr0 kr0 ?_
  refine d_rd 1 rfl (rd_load rfl rfl) rfl kr0 kr0 kr0 ?_
  refine d_pu 2 rfl (pu_len rfl) kr0 kr0 kr0 ?_
  refine d_pu 3 rfl (pu_add_as ((c.1.length + 2 : Nat) : Int) rfl rfl om0 om0 om0) kr0 kr0 kr0 ?_
  first | refine d_pu 5 rfl (pu_fieldAddr0 rfl) kr0 kr0 kr0 ?_ | refine d_pu 5 rfl (pu_fieldAddr rfl) kr0 kr0 kr0 ?_
  refine d_rd 6 rfl (rd_load rfl rfl) rfl kr0 kr0 kr0 ?_
  refine d_eft 4 rfl kr0 (ef_make0 (e := 3) (n := 1) rfl rfl om0 om0 (by simp only [maxLen]; omega)) ?_
  rintro v96
  refine ⟨_, Split.ent sp0, ?_⟩
  first | refine d_fint 7 rfl kr0 kr0 (ef_append_ro hrc1 rfl rfl sp0 (icsk_one _) (by simp only [maxLen]; omega) om0) ?_ | refine d_finf 7 rfl kr0 kr0 (ef_append_ro hrc1 rfl rfl sp0 (icsk_one _) (by simp only [maxLen]; omega) om0) ?_
  rintro v99 -
  rw [Nat.zero_add, List.nil_append]
  refine d_pu 8 rfl (pu_assign rfl) kr0 kr0 kr0 ?_
  refine d_sub _ (sc0 0 rfl (sc0 3 rfl (sc0 7 rfl (sc0 9 rfl (sc0 13 rfl (sc0 14 rfl .nil)))))) ?_
  first | refine d_nilt kr0 ?_ | refine d_nilf kr0 ?_
  refine then_n ?_
  refine swp_seq ?_
  refine swp_fact (fun m h => own_shape (e := 47) (n := 2) (v := v91) (l := t.length) (xs := ens t) tk0 h) fun hs91 => ?_
  refine swp_fact (fun m h => own_shape (e := 3) (n := 1) (v := v99) (l := c.1.length) (xs := c.1.flatMap (icsk .i64)) tk0 h) fun hs99 => ?_
  obtain ⟨mA, mc, rfl⟩ := shape_slice hs91
  obtain ⟨lA, lc, rfl⟩ := shape_slice hs99
  refine swp_region ?_
  refine s_mv rfl ?_
  refine s_mv rfl ?_
  refine swl_lend_own (v := .slice mA t.length mc) (μ := μ2) sp0 fun μ3 l3 rm back => ?_
  refine s_ef (ef_fn (ms_addT μ3 p W pd S B 6 (hA.le l3) hm om0 hoks (.slice mA t.length mc) t rm hu) rfl rfl sp0) ?_
  rintro v103 L1 ⟨W1, n1, xs1, nv1, j1, hx1, hoks1, rfl, rfl⟩
  refine swl_app ?_
  obtain ⟨μ4, l4, hb⟩ := back μ3 (Le.refl _)
  refine swl_ent ((Split.ent' (K := [ro μ3, own 47 2 nv1 n1 xs1, FSA pd (lg qM (adM S B t).1), stH p W1, ttA W1, ccA W1, RDA pr (dN qM B), rsH w V, ttA V, ccA V, own 3 1 (.slice lA c.1.length lc) c.1.length (c.1.flatMap (icsk .i64)), blk b3 25 [.slice cA c.1.length cc, .int .i64 c.2]]) sp0).trans (hb _)) ?_
  refine swl_share_own (μ := μ4) (v := nv1) (e := 47) (n := 2) sp0 fun μ5 l5 r5 => ?_
  have hA1 := hx1.at_ hA (l4.trans l5) r5
  have hm1 := hm.tree t
  refine s_mv rfl ?_
  first | refine s_pu (pu_extractL rfl) ?_ | refine s_pu (pu_extract rfl rfl) ?_
  first | refine s_pu (pu_extractL rfl) ?_ | refine s_pu (pu_extract rfl rfl) ?_
  refine s_as rfl ?_
  refine s_as rfl ?_
  refine swl_sub _ (sc0 0 rfl (sc0 3 rfl (sc0 7 rfl (sc0 9 rfl (sc0 13 rfl (sc0 14 rfl (sc0 16 rfl .nil))))))) ?_
  refine swl_nn ?_
  refine swp_sr ?_
  refine s_mv rfl ?_
  refine s_mv rfl ?_
  refine s_ef (ef_fn (mw_addT μ5 w V pr S B 6 (hB.le (l4.trans l5)) hm om0 hokw v0 t (hrow1.le (l4.trans l5)) hu) rfl rfl sp0) ?_
  rintro v109 L1 ⟨V1, μ6, j2, l6, hB1, hokw1, rfl, rfl⟩
  refine swl_app ?_
  refine s_mv rfl ?_
  first | refine s_pu (pu_extractL rfl) ?_ | refine s_pu (pu_extract rfl rfl) ?_
  first | refine s_pu (pu_extractL rfl) ?_ | refine s_pu (pu_extract rfl rfl) ?_
  refine s_as rfl ?_
  refine s_as rfl ?_
  refine swl_sub _ (sc0 0 rfl (sc0 3 rfl (sc0 7 rfl (sc0 9 rfl (sc0 13 rfl (sc0 14 rfl (sc0 16 rfl (sc0 18 rfl .nil)))))))) ?_
  refine swl_nn ?_
  refine swp_sr ?_
  refine s_mv rfl ?_
  refine s_mv rfl ?_
  first | refine s_pu (pu_fieldAddr0 rfl) ?_ | refine s_pu (pu_fieldAddr rfl) ?_
  refine s_rd (rd_load rfl rfl) ?_
  refine s_pu (pu_bld (qs := [(0, _), (1, _)]) rfl) ?_
  refine swl_lend_own (v := .slice lA c.1.length lc) (μ := μ6) sp0 fun μ7 l7 rl back => ?_
  refine s_ef (ef_fn (ms_addC μ7 p W1 pd _ _ 7 (hA1.le (l6.trans l7)) hm1 om0 hoks1 (.slice lA c.1.length lc) c rl) rfl rfl sp0) ?_
  rintro v118 L1 ⟨W2, n2, xs2, nv2, j3, hx2, hoks2, rfl, rfl⟩
  refine swl_app ?_
  obtain ⟨μ8, l8, hb⟩ := back μ7 (Le.refl _)
  refine swl_ent ((Split.ent' (K := [ro μ7, own 3 1 nv2 n2 xs2, FSA pd (lg qM (acM (adM S B t).2.1 (adM S B t).1 c).1), stH p W2, ttA W2, ccA W2, RDA pr (dN qM (adM S B t).1), rsH w V1, ttA V1, ccA V1, own 47 2 (.slice mA t.length mc) t.length (ens t), blk b3 25 [.slice cA c.1.length cc, .int .i64 c.2]]) sp0).trans (hb _)) ?_
  refine swl_share_own (μ := μ8) (v := nv2) (e := 3) (n := 1) sp0 fun μ9 l9 r9 => ?_
  have hA2 := hx2.at_ (hA1.le l6) (l8.trans l9) r9
  have hm2 := hm1.com c
  refine s_mv rfl ?_
  first | refine s_pu (pu_extractL rfl) ?_ | refine s_pu (pu_extract rfl rfl) ?_
  first | refine s_pu (pu_extractL rfl) ?_ | refine s_pu (pu_extract rfl rfl) ?_
  refine s_as rfl ?_
  refine s_as rfl ?_
  refine swl_sub _ (sc0 0 rfl (sc0 3 rfl (sc0 7 rfl (sc0 9 rfl (sc0 13 rfl (sc0 14 rfl (sc0 16 rfl (sc0 18 rfl (sc0 20 rfl .nil))))))))) ?_
  refine swl_nn ?_
  refine swp_sr ?_
  refine s_mv rfl ?_
  first | refine s_rd (rd_loadW rfl rfl) ?_ | refine s_rd (rd_loadX rfl rfl rfl) ?_
  refine s_ef (ef_fn (mw_addC μ9 w V1 pr _ _ 7 (hB1.le (l8.trans l9)) hm1 om0 hokw1 (.slice cA c.1.length cc) c (hrc1.le (l4.trans (l5.trans (l6.trans (l8.trans l9)))))) rfl rfl sp0) ?_
  rintro v124 L1 ⟨V2, μ10, j4, l10, hB2, hokw2, rfl, rfl⟩
  refine swl_app ?_
  refine s_mv rfl ?_
  first | refine s_pu (pu_extractL rfl) ?_ | refine s_pu (pu_extract rfl rfl) ?_
  first | refine s_pu (pu_extractL rfl) ?_ | refine s_pu (pu_extract rfl rfl) ?_
  refine s_as rfl ?_
  refine s_as rfl ?_
  refine swl_sub _ (sc0 0 rfl (sc0 3 rfl (sc0 7 rfl (sc0 9 rfl (sc0 13 rfl (sc0 14 rfl (sc0 16 rfl (sc0 18 rfl (sc0 20 rfl (sc0 22 rfl .nil)))))))))) ?_
  refine swl_nn ?_
  refine swp_seq ?_
  refine swp_seq ?_
  have h210 : Le μ2 μ10 := l4.trans (l5.trans (l6.trans (l8.trans (l9.trans l10))))
  replace hA2 := hA2.le l10
  clear hx1 hx2 hb back
  generalize acM (adM S B t).2.1 (adM S B t).1 c = y2 at *
  generalize (adM S B t).2.2 = e1 at *
  refine swp_region ?_
  refine s_mv rfl ?_
  refine s_mv rfl ?_
  refine s_pu (pu_neq rfl rfl) ?_
  refine s_mv rfl ?_
  refine s_split 130 rfl (fun h130 => by simp at h130) (fun h130 => ?_)
  refine s_on rfl rfl ?_
  refine s_mv rfl ?_
  refine s_on rfl rfl ?_
  refine s_mv rfl ?_
  refine s_on rfl rfl ?_
  refine s_pu (pu_neq rfl rfl) ?_
  first | refine s_pu (pu_pick_t rfl rfl) ?_ | refine s_pu (pu_pick_f rfl rfl) ?_
  refine s_mv rfl ?_
  refine s_split 135 rfl (fun h135 => by simp at h135) (fun h135 => ?_)
  refine s_on rfl rfl ?_
  refine s_mv rfl ?_
  refine s_on rfl rfl ?_
  refine s_mv rfl ?_
  refine swl_lend_own (v := .slice mA t.length mc) (μ := μ10) sp0 fun μ11 l11 rm2 back => ?_
  refine s_on rfl rfl ?_
  refine s_ef (ef_fn (same_spec μ11 (.slice mA t.length mc) v0 t t rm2 (hrow1.le (h210.trans l11))) rfl rfl sp0) ?_
  rintro v138 L1 ⟨rfl, rfl⟩
  refine swl_app ?_
  obtain ⟨μ12, l12, hb⟩ := back μ11 (Le.refl _)
  refine swl_ent ((Split.ent' (K := [ro μ11, FSA pd (lg qM y2.1), stH p W2, ttA W2, ccA W2, RDA pr (dN qM y2.1), rsH w V2, ttA V2, ccA V2, own 3 1 (.slice lA c.1.length lc) c.1.length (c.1.flatMap (icsk .i64)), blk b3 25 [.slice cA c.1.length cc, .int .i64 c.2]]) sp0).trans (hb _)) ?_
  refine s_on rfl rfl ?_
  refine s_pu (pu_not rfl) ?_
  first | refine s_pu (pu_pick_t rfl rfl) ?_ | refine s_pu (pu_pick_f rfl rfl) ?_
  refine s_mv rfl ?_
  refine s_split 141 rfl (fun h141 => by simp at h141) (fun h141 => ?_)
  refine s_on rfl rfl ?_
  refine s_mv rfl ?_
  refine s_on rfl rfl ?_
  first | refine s_pu (pu_fieldAddr0 rfl) ?_ | refine s_pu (pu_fieldAddr rfl) ?_
  refine s_on rfl rfl ?_
  refine s_rd (rd_load rfl rfl) ?_
  refine s_on rfl rfl ?_
  refine s_pu (pu_bld (qs := [(0, _), (1, _)]) rfl) ?_
  refine s_on rfl rfl ?_
  first | refine s_rd (rd_loadW rfl rfl) ?_ | refine s_rd (rd_loadX rfl rfl rfl) ?_
  refine swl_lend_own (v := .slice lA c.1.length lc) (μ := μ12) sp0 fun μ13 l13 rl2 back2 => ?_
  refine s_on rfl rfl ?_
  refine s_ef (ef_fn (samec_spec μ13 (.slice lA c.1.length lc) (.slice cA c.1.length cc) c c rl2 (hrc1.le (h210.trans (l12.trans l13)))) rfl rfl sp0) ?_
  rintro v147 L1 ⟨rfl, rfl⟩
  refine swl_app ?_
  obtain ⟨μ14, l14, hb2⟩ := back2 μ13 (Le.refl _)
  refine swl_ent ((Split.ent' (K := [ro μ13, FSA pd (lg qM y2.1), stH p W2, ttA W2, ccA W2, RDA pr (dN qM y2.1), rsH w V2, ttA V2, ccA V2, own 47 2 (.slice mA t.length mc) t.length (ens t)]) sp0).trans (hb2 _)) ?_
  refine s_on rfl rfl ?_
  refine s_pu (pu_not rfl) ?_
  first | refine s_pu (pu_pick_t rfl rfl) ?_ | refine s_pu (pu_pick_f rfl rfl) ?_
  refine swl_sub _ (sc0 7 rfl (sc0 9 rfl (sc0 13 rfl (sc0 14 rfl (sc0 149 rfl .nil))))) ?_
  refine swl_nn ?_
  refine swp_cond (b := _) rfl (fun h149 => by simp at h149) (fun h149 => ?_)
  refine swp_skip ?_
  refine then_n ?_
  refine swp_seq ?_
  refine swp_seq ?_
  have h2 : Le μ μ14 := hle.trans (h210.trans (l12.trans l14))
  replace hA2 := hA2.le (l12.trans l14)
  replace hB2 := hB2.le (l12.trans l14)
  have hsm := hm2.d
  clear hb hb2 back back2 l13 l11 rm2 rl2
  refine swp_region ?_
  refine s_mv rfl ?_
  refine s_pu (pu_len rfl) ?_
  refine s_mv rfl ?_
  refine swl_sub _ (sc0 7 rfl (sc0 9 rfl (sc0 13 rfl (sc0 14 rfl (sc0 151 rfl (sc0 152 rfl .nil)))))) ?_
  refine swl_nn ?_
  refine swp_block ?_
  refine swp_loop (ι := Nat) (fun i env L => ∃ ys : List Value, ys.length = t.length * 2 ∧ Sub env [(7, pv p), (9, pv w), (13, .slice mA t.length mc), (14, .slice lA c.1.length lc), (151, .int .i64 (t.length : Nat)), (152, .int .i64 (i : Nat))] ∧ Ent L [own 47 2 (.slice mA t.length mc) t.length ys, own 3 1 (.slice lA c.1.length lc) c.1.length (c.1.flatMap (icsk .i64)), FSA pd (lg qM y2.1), stH p W2, ttA W2, ccA W2, RDA pr (dN qM y2.1), rsH w V2, ttA V2, ccA V2, ro μ14] ∧ i ≤ t.length) (fun i => t.length - i) 0 ⟨ens t, flat_length (f := enc1) (k := 2) (fun _ => rfl) _, ⟨rfl, rfl, rfl, rfl, rfl, rfl, trivial⟩, Split.ent' sp0, Nat.zero_le _⟩ ?_
  rintro i env L ⟨ys, hys, hsub, hE, hi2⟩
  refine swp_sub _ hsub ?_
  refine swp_ent hE ?_
  clear hsub hE env L
  refine swp_sr ?_
  refine s_pu (pu_lss rfl rfl) ?_
  refine swl_sub _ (sc0 7 rfl (sc0 9 rfl (sc0 13 rfl (sc0 14 rfl (sc0 151 rfl (sc0 152 rfl (sc0 153 rfl .nil))))))) ?_
  refine swl_nn ?_
  refine swp_seq ?_
  refine swp_cond (b := _) rfl (fun h153 => ?_) (fun h153 => ?_)
  ·skip
   have h153' : i < t.length := by have := of_decide_eq_true h153; omega
   obtain ⟨mb, rfl⟩ := shape_some hs91 om0
   refine swp_skip ?_
   refine then_n ?_
   refine swp_seq ?_
   refine swp_block ?_
   refine swp_sr ?_
   refine s_mv rfl ?_
   refine s_as rfl ?_
   refine swl_sub _ (sc0 7 rfl (sc0 9 rfl (sc0 13 rfl (sc0 14 rfl (sc0 23 rfl (sc0 151 rfl (sc0 152 rfl .nil))))))) ?_
   refine swl_nn ?_
   refine swp_region ?_
   refine s_mv rfl ?_
   refine s_mv rfl ?_
   refine s_pu (pu_bld (qs := [(0, _), (1, _)]) rfl) ?_
   refine s_pu (pu_indexAddr (0 + i * 2) rfl rfl om0 om0 (by rw [Int.toNat_natCast])) ?_
   refine s_ef0 (ef_store_ownA (vs := enc1 (⟨#[115, 112, 111, 105, 108, 116]⟩, 9)) rfl rfl sp0 (by show 0 + i * 2 + 2 ≤ _; omega) rfl rfl) ?_
   refine swl_sub _ (sc0 7 rfl (sc0 9 rfl (sc0 13 rfl (sc0 14 rfl (sc0 151 rfl (sc0 152 rfl .nil)))))) ?_
   refine swl_nil ?_
   refine block_n ?_
   refine then_n ?_
   refine swp_region ?_
   refine s_pu (pu_add_as ((i + 1 : Nat) : Int) rfl rfl om0 om0 om0) ?_
   refine s_mv rfl ?_
   refine swl_sub _ (sc0 7 rfl (sc0 9 rfl (sc0 13 rfl (sc0 14 rfl (sc0 151 rfl (sc0 152 rfl .nil)))))) ?_
   refine swl_nil ?_
   exact then_n ⟨i + 1, ⟨over ys (enc1 (⟨#[115, 112, 111, 105, 108, 116]⟩, 9)) (0 + i * 2), by rw [over_len (by show 0 + i * 2 + 2 ≤ _; omega)]; exact hys, ⟨rfl, rfl, rfl, rfl, rfl, rfl, trivial⟩, Split.ent' sp0, h153'⟩, by omega⟩
  ·skip
   refine swp_exit ?_
   refine then_x ?_
   refine then_x ?_
   refine block_hit rfl ?_
   refine then_n ?_
   refine swp_seq ?_
   refine swp_sr ?_
   refine s_mv rfl ?_
   refine s_pu (pu_len rfl) ?_
   refine s_mv rfl ?_
   refine swl_sub _ (sc0 7 rfl (sc0 9 rfl (sc0 14 rfl (sc0 161 rfl (sc0 162 rfl .nil))))) ?_
   refine swl_nn ?_
   refine swp_block ?_
   refine swp_loop (ι := Nat) (fun i env L => ∃ ys : List Value, ys.length = c.1.length * 1 ∧ Sub env [(7, pv p), (9, pv w), (14, .slice lA c.1.length lc), (161, .int .i64 (c.1.length : Nat)), (162, .int .i64 (i : Nat))] ∧ Ent L [own 3 1 (.slice lA c.1.length lc) c.1.length ys, FSA pd (lg qM y2.1), stH p W2, ttA W2, ccA W2, RDA pr (dN qM y2.1), rsH w V2, ttA V2, ccA V2, ro μ14] ∧ i ≤ c.1.length) (fun i => c.1.length - i) 0 ⟨c.1.flatMap (icsk .i64), flat_length (f := icsk .i64) (k := 1) (fun _ => rfl) _, ⟨rfl, rfl, rfl, rfl, rfl, trivial⟩, Split.ent' sp0, Nat.zero_le _⟩ ?_
   rintro i env L ⟨ys, hys, hsub, hE, hi2⟩
   refine swp_sub _ hsub ?_
   refine swp_ent hE ?_
   clear hsub hE env L
   refine swp_sr ?_
   refine s_pu (pu_lss rfl rfl) ?_
   refine swl_sub _ (sc0 7 rfl (sc0 9 rfl (sc0 14 rfl (sc0 161 rfl (sc0 162 rfl (sc0 163 rfl .nil)))))) ?_
   refine swl_nn ?_
   refine swp_seq ?_
   refine swp_cond (b := _) rfl (fun h163 => ?_) (fun h163 => ?_)
   ·skip
    have h163' : i < c.1.length := by have := of_decide_eq_true h163; omega
    obtain ⟨lb, rfl⟩ := shape_some hs99 om0
    refine swp_skip ?_
    refine then_n ?_
    refine swp_seq ?_
    refine swp_block ?_
    refine swp_sr ?_
    refine s_mv rfl ?_
    refine s_as rfl ?_
    refine swl_sub _ (sc0 7 rfl (sc0 9 rfl (sc0 14 rfl (sc0 24 rfl (sc0 161 rfl (sc0 162 rfl .nil)))))) ?_
    refine swl_nn ?_
    refine swp_region ?_
    refine s_mv rfl ?_
    refine s_mv rfl ?_
    refine s_pu (pu_indexAddr (0 + i * 1) rfl rfl om0 om0 (by rw [Int.toNat_natCast])) ?_
    refine s_ef0 (ef_store_own rfl rfl sp0 om0 rfl) ?_
    refine swl_sub _ (sc0 7 rfl (sc0 9 rfl (sc0 14 rfl (sc0 161 rfl (sc0 162 rfl .nil))))) ?_
    refine swl_nil ?_
    refine block_n ?_
    refine then_n ?_
    refine swp_region ?_
    refine s_pu (pu_add_as ((i + 1 : Nat) : Int) rfl rfl om0 om0 om0) ?_
    refine s_mv rfl ?_
    refine swl_sub _ (sc0 7 rfl (sc0 9 rfl (sc0 14 rfl (sc0 161 rfl (sc0 162 rfl .nil))))) ?_
    refine swl_nil ?_
    exact then_n ⟨i + 1, ⟨ys.set (0 + i * 1) (.int .i64 (-5)), by rw [List.length_set]; exact hys, ⟨rfl, rfl, rfl, rfl, rfl, trivial⟩, Split.ent' sp0, h163'⟩, by omega⟩
   ·skip
    refine swp_exit ?_
    refine then_x ?_
    refine then_x ?_
    refine block_hit rfl ?_
    refine then_n ?_
    refine swp_seq ?_
    refine swp_sr ?_
    refine s_mv rfl ?_
    refine swl_sub _ (sc0 7 rfl (sc0 9 rfl (sc0 169 rfl .nil))) ?_
    refine swl_nn ?_
    refine swp_block ?_
    refine swp_loop (ι := Nat) (fun i env L => ∃ μ2 : PH, Sub env [(7, pv p), (9, pv w), (169, .int .i64 (i : Nat))] ∧ Ent L [FSA pd (lg qM y2.1), stH p W2, ttA W2, ccA W2, RDA pr (dN qM y2.1), rsH w V2, ttA V2, ccA V2, ro μ2] ∧ i ≤ 2 ∧ Le μ14 μ2) (fun i => 2 - i) 0 ⟨μ14, ⟨rfl, rfl, rfl, trivial⟩, Split.ent' sp0, Nat.zero_le _, Le.refl _⟩ ?_
    rintro i3 env L ⟨μ15, hsub, hE, hi3, h15⟩
    refine swp_sub _ hsub ?_
    refine swp_ent hE ?_
    clear hsub hE env L
    have hSm : W2.Small := SmallS.w (by rw [hA2.2.2.1]; exact hsm)
    refine swp_sr ?_
    refine s_pu (pu_lss rfl rfl) ?_
    refine swl_sub _ (sc0 7 rfl (sc0 9 rfl (sc0 169 rfl (sc0 170 rfl .nil)))) ?_
    refine swl_nn ?_
    refine swp_seq ?_
    refine swp_cond (b := _) rfl (fun h170 => ?_) (fun h170 => ?_)
    ·skip
     have h170' : i3 < 2 := by have := of_decide_eq_true h170; omega
     refine swp_skip ?_
     refine then_n ?_
     refine swp_seq ?_
     refine swp_block ?_
     refine swp_seq ?_
     refine swp_sr ?_
     refine s_mv rfl ?_
     refine s_mv rfl ?_
     refine s_ef (ef_fn (ml_same μ15 p w pd pr W2 V2 y2.2.1 (hA2.le h15) (hB2.le h15) hsm) rfl rfl sp0) ?_
     rintro v173 L1 ⟨μ16, l16, rfl, rfl⟩
     refine swl_app ?_
     refine s_pu (pu_not rfl) ?_
     refine swl_sub _ (sc0 7 rfl (sc0 9 rfl (sc0 169 rfl (sc0 174 rfl .nil)))) ?_
     refine swl_nn ?_
     refine swp_cond (b := _) rfl (fun h174 => by cases h174) (fun h174 => ?_)
     refine swp_skip ?_
     refine then_n ?_
     refine swp_sr ?_
     refine s_mv rfl ?_
     refine s_ef (ef_fn (graphO_spec p W2 μ16 (hA2.1.le (h15.trans l16)) hSm.2) rfl rfl sp0) ?_
     rintro v176 L1 ⟨G, hG, rfl⟩
     refine swl_app ?_
     refine s_as rfl ?_
     refine swl_sub _ (sc0 7 rfl (sc0 9 rfl (sc0 25 rfl (sc0 169 rfl .nil)))) ?_
     refine swl_nn ?_
     refine swp_seq ?_
     refine swp_seq ?_
     refine swp_fact (fun m h => own_shape (e := 23) (n := 1) (v := v176) (l := G.length) (xs := G.flatMap gcs) tk0 h) fun hsG => ?_
     obtain ⟨gA, gc, rfl⟩ := shape_slice hsG
     have hGl : ∀ x ∈ G, x.2.length ≤ 1048576 := fun x hx => by
      have h1 : x.2 ∈ nums G := List.mem_map.2 ⟨x, hx, rfl⟩
      rw [hG] at h1
      obtain ⟨y, hy, hy2⟩ := List.mem_map.1 h1
      rw [← hy2]
      rw [hA2.2.2.1] at hy
      exact hsm.2 y hy
     have hGm : G.length ≤ 65536 := by
      have h1 := congrArg List.length hG
      unfold nums parS SW.pl at h1
      simp only [List.length_map] at h1
      have := hA2.1.cl
      omega
     clear hG
     refine swp_region ?_
     refine s_mv rfl ?_
     refine s_pu (pu_len rfl) ?_
     refine s_mv rfl ?_
     refine swl_sub _ (sc0 7 rfl (sc0 9 rfl (sc0 25 rfl (sc0 169 rfl (sc0 177 rfl (sc0 178 rfl (sc0 179 rfl .nil))))))) ?_
     refine swl_nn ?_
     refine swp_block ?_
     refine swp_loop (ι := Nat) (fun i env L => ∃ cs : List Value, cs.length = G.length ∧ (∀ j x, i ≤ j → G[j]? = some x → cs[j]? = some x.1) ∧ Sub env [(7, pv p), (9, pv w), (25, .slice gA G.length gc), (169, .int .i64 (i3 : Nat)), (177, .slice gA G.length gc), (178, .int .i64 (G.length : Nat)), (179, .int .i64 (i : Nat))] ∧ Ent L [own 23 1 (.slice gA G.length gc) G.length cs, rowsA (G.drop i), FSA pd (lg qM y2.1), stH p W2, ttA W2, ccA W2, RDA pr (dN qM y2.1), rsH w V2, ttA V2, ccA V2, ro μ16] ∧ i ≤ G.length) (fun i => G.length - i) 0 ⟨G.flatMap gcs, by rw [flat_length (f := gcs) (k := 1) (fun _ => rfl) _, Nat.mul_one], fun j x _ hx => ?_, ⟨rfl, rfl, rfl, rfl, rfl, rfl, rfl, trivial⟩, Split.ent' (K := [own 23 1 (.slice gA G.length gc) G.length (G.flatMap gcs), rowsA G, FSA pd (lg qM y2.1), stH p W2, ttA W2, ccA W2, RDA pr (dN qM y2.1), rsH w V2, ttA V2, ccA V2, ro μ16]) sp0, Nat.zero_le _⟩ ?_
     ·have := flat_at (f := gcs) (n := 1) (fun _ => rfl) hx 0 x.1 rfl
      simpa using this
     rintro i env L ⟨cs, hcs, hcj, hsub, hE, hi4⟩
     refine swp_sub _ hsub ?_
     refine swp_ent hE ?_
     clear hsub hE env L
     refine swp_sr ?_
     refine s_pu (pu_lss rfl rfl) ?_
     refine swl_sub _ (sc0 7 rfl (sc0 9 rfl (sc0 25 rfl (sc0 169 rfl (sc0 177 rfl (sc0 178 rfl (sc0 179 rfl (sc0 180 rfl .nil)))))))) ?_
     refine swl_nn ?_
     refine swp_seq ?_
     refine swp_cond (b := _) rfl (fun h180 => ?_) (fun h180 => ?_)
     ·skip
      have h180' : i < G.length := by have := of_decide_eq_true h180; omega
      obtain ⟨x, hx⟩ : ∃ x, G[i]? = some x := ⟨_, List.getElem?_eq_getElem h180'⟩
      have hcx := hcj i x (Nat.le_refl _) hx
      have hxl := hGl x (List.mem_of_getElem? hx)
      have hdr : G.drop i = x :: G.drop (i + 1) := by
       rw [List.drop_eq_getElem_cons h180']
       congr 1
       exact (List.getElem?_eq_some_iff.1 hx).2
      rw [hdr]
      refine swp_ent ((Split.ent' (K := [rowsA (x :: G.drop (i + 1)), own 23 1 (.slice gA G.length gc) G.length cs, FSA pd (lg qM y2.1), stH p W2, ttA W2, ccA W2, RDA pr (dN qM y2.1), rsH w V2, ttA V2, ccA V2, ro μ16]) sp0).trans rows_take) ?_
      obtain ⟨gb, rfl⟩ := shape_some hsG om0
      refine swp_fact (fun m h => own_shape (e := 3) (n := 1) (v := x.1) (l := x.2.length) (xs := x.2.flatMap (icsk .i64)) tk0 h) fun hsx => ?_
      obtain ⟨xv, ws⟩ := x
      dsimp only at hcx hxl hsx ⊢
      obtain ⟨xA, xc, rfl⟩ := shape_slice hsx
      refine swp_skip ?_
      refine then_n ?_
      refine swp_seq ?_
      refine swp_block ?_
      refine swp_sr ?_
      refine s_mv rfl ?_
      refine s_pu (pu_indexAddr (0 + i * 1) rfl rfl om0 om0 (by rw [Int.toNat_natCast])) ?_
      refine s_rd (rd_of_ld rfl (by rw [Nat.zero_add, Nat.mul_one]; exact ld_ownN (e := 23) (n := 1) tk0 hcx)) ?_
      refine s_as rfl ?_
      refine s_as rfl ?_
      refine swl_sub _ (sc0 7 rfl (sc0 9 rfl (sc0 25 rfl (sc0 26 rfl (sc0 27 rfl (sc0 169 rfl (sc0 177 rfl (sc0 178 rfl (sc0 179 rfl .nil))))))))) ?_
      refine swl_nn ?_
      refine swp_seq ?_
      refine swp_sr ?_
      refine s_mv rfl ?_
      refine s_pu (pu_len rfl) ?_
      refine s_mv rfl ?_
      refine swl_sub _ (sc0 7 rfl (sc0 9 rfl (sc0 25 rfl (sc0 26 rfl (sc0 27 rfl (sc0 169 rfl (sc0 177 rfl (sc0 178 rfl (sc0 179 rfl (sc0 185 rfl (sc0 186 rfl .nil))))))))))) ?_
      refine swl_nn ?_
      refine swp_block ?_
      refine swp_loop (ι := Nat) (fun k env L => ∃ ys : List Value, ys.length = ws.length * 1 ∧ Sub env [(7, pv p), (9, pv w), (25, .slice (some ⟨gb, 0, none⟩) G.length gc), (26, .int .i64 (i : Nat)), (27, .slice xA ws.length xc), (169, .int .i64 (i3 : Nat)), (177, .slice (some ⟨gb, 0, none⟩) G.length gc), (178, .int .i64 (G.length : Nat)), (179, .int .i64 (i : Nat)), (185, .int .i64 (ws.length : Nat)), (186, .int .i64 (k : Nat))] ∧ Ent L [own 3 1 (.slice xA ws.length xc) ws.length ys, own 23 1 (.slice (some ⟨gb, 0, none⟩) G.length gc) G.length cs, rowsA (G.drop (i + 1)), FSA pd (lg qM y2.1), stH p W2, ttA W2, ccA W2, RDA pr (dN qM y2.1), rsH w V2, ttA V2, ccA V2, ro μ16] ∧ k ≤ ws.length) (fun k => ws.length - k) 0 ⟨ws.flatMap (icsk .i64), flat_length (f := icsk .i64) (k := 1) (fun _ => rfl) _, ⟨rfl, rfl, rfl, rfl, rfl, rfl, rfl, rfl, rfl, rfl, rfl, trivial⟩, Split.ent' sp0, Nat.zero_le _⟩ ?_
      rintro k env L ⟨ys, hys, hsub, hE, hk⟩
      refine swp_sub _ hsub ?_
      refine swp_ent hE ?_
      clear hsub hE env L
      refine swp_sr ?_
      refine s_pu (pu_lss rfl rfl) ?_
      refine swl_sub _ (sc0 7 rfl (sc0 9 rfl (sc0 25 rfl (sc0 26 rfl (sc0 27 rfl (sc0 169 rfl (sc0 177 rfl (sc0 178 rfl (sc0 179 rfl (sc0 185 rfl (sc0 186 rfl (sc0 187 rfl .nil)))))))))))) ?_
      refine swl_nn ?_
      refine swp_seq ?_
      refine swp_cond (b := _) rfl (fun h187 => ?_) (fun h187 => ?_)
      ·skip
       have h187' : k < ws.length := by have := of_decide_eq_true h187; omega
       obtain ⟨xb, rfl⟩ := shape_some hsx om0
       refine swp_skip ?_
       refine then_n ?_
       refine swp_seq ?_
       refine swp_block ?_
       refine swp_sr ?_
       refine s_mv rfl ?_
       refine s_as rfl ?_
       refine swl_sub _ (sc0 7 rfl (sc0 9 rfl (sc0 25 rfl (sc0 26 rfl (sc0 27 rfl (sc0 28 rfl (sc0 169 rfl (sc0 177 rfl (sc0 178 rfl (sc0 179 rfl (sc0 185 rfl (sc0 186 rfl .nil)))))))))))) ?_
       refine swl_nn ?_
       refine swp_region ?_
       refine s_mv rfl ?_
       refine s_mv rfl ?_
       refine s_pu (pu_indexAddr (0 + k * 1) rfl rfl om0 om0 (by rw [Int.toNat_natCast])) ?_
       refine s_ef0 (ef_store_own rfl rfl sp0 om0 rfl) ?_
       refine swl_sub _ (sc0 7 rfl (sc0 9 rfl (sc0 25 rfl (sc0 26 rfl (sc0 27 rfl (sc0 169 rfl (sc0 177 rfl (sc0 178 rfl (sc0 179 rfl (sc0 185 rfl (sc0 186 rfl .nil))))))))))) ?_
       refine swl_nil ?_
       refine block_n ?_
       refine then_n ?_
       refine swp_region ?_
       refine s_pu (pu_add_as ((k + 1 : Nat) : Int) rfl rfl om0 om0 om0) ?_
       refine s_mv rfl ?_
       refine swl_sub _ (sc0 7 rfl (sc0 9 rfl (sc0 25 rfl (sc0 26 rfl (sc0 27 rfl (sc0 169 rfl (sc0 177 rfl (sc0 178 rfl (sc0 179 rfl (sc0 185 rfl (sc0 186 rfl .nil))))))))))) ?_
       refine swl_nil ?_
       exact then_n ⟨k + 1, ⟨ys.set (0 + k * 1) (.int .i64 (-6)), by rw [List.length_set]; exact hys, ⟨rfl, rfl, rfl, rfl, rfl, rfl, rfl, rfl, rfl, rfl, rfl, trivial⟩, Split.ent' sp0, h187'⟩, by omega⟩
      ·skip
       refine swp_exit ?_
       refine then_x ?_
       refine then_x ?_
       refine block_hit rfl ?_
       refine then_n ?_
       refine swp_region ?_
       refine s_mv rfl ?_
       refine s_mv rfl ?_
       refine s_mv rfl ?_
       refine s_ef (ef_bldS (qs := [(0, _)]) rfl rfl rfl) ?_
       intro b196
       refine s_ef (ef_append_lit (l := ws.length) (m := 1) rfl rfl sp0 (by simp only [maxLen]; omega) om0) ?_
       rintro v197 hv197
       obtain ⟨nb, nc, rfl⟩ := hv197 (by decide)
       refine s_pu (pu_indexAddr (0 + i * 1) rfl rfl om0 om0 (by rw [Int.toNat_natCast])) ?_
       refine s_ef0 (ef_store_own rfl rfl sp0 om0 rfl) ?_
       refine swl_sub _ (sc0 7 rfl (sc0 9 rfl (sc0 25 rfl (sc0 169 rfl (sc0 177 rfl (sc0 178 rfl (sc0 179 rfl .nil))))))) ?_
       refine swl_nil ?_
       refine block_n ?_
       refine then_n ?_
       refine swp_region ?_
       refine s_pu (pu_add_as ((i + 1 : Nat) : Int) rfl rfl om0 om0 om0) ?_
       refine s_mv rfl ?_
       refine swl_sub _ (sc0 7 rfl (sc0 9 rfl (sc0 25 rfl (sc0 169 rfl (sc0 177 rfl (sc0 178 rfl (sc0 179 rfl .nil))))))) ?_
       refine swl_nil ?_
       refine then_n ⟨i + 1, ⟨cs.set (0 + i * 1) (.slice (some ⟨nb, 0, none⟩) (ws.length + 1) nc), by rw [List.length_set]; exact hcs, fun j y hj hy => ?_, ⟨rfl, rfl, rfl, rfl, rfl, rfl, rfl, trivial⟩, Split.ent' sp0, h180'⟩, by omega⟩
       rw [List.getElem?_set_ne om0]
       exact hcj j y om0 hy
     ·skip
      refine swp_exit ?_
      refine then_x ?_
      refine then_x ?_
      refine block_hit rfl ?_
      refine then_n ?_
      refine swp_seq ?_
      refine swp_sr ?_
      refine s_mv rfl ?_
      refine s_ef (ef_fn (trees_spec p W2 μ16 (hA2.1.le (h15.trans l16))) rfl rfl sp0) ?_
      rintro v201 L1 ⟨rfl, rfl⟩
      refine swl_app ?_
      refine s_mv rfl ?_
      refine swl_sub _ (sc0 7 rfl (sc0 9 rfl (sc0 169 rfl (sc0 201 rfl (sc0 202 rfl .nil))))) ?_
      refine swl_nn ?_
      refine swp_block ?_
      refine swp_loop (ι := Nat) (fun i env L => Sub env [(7, pv p), (9, pv w), (169, .int .i64 (i3 : Nat)), (201, .int .i64 (W2.T.length : Nat)), (202, .int .i64 (i : Nat))] ∧ Ent L [FSA pd (lg qM y2.1), stH p W2, ttA W2, ccA W2, RDA pr (dN qM y2.1), rsH w V2, ttA V2, ccA V2, ro μ16] ∧ i ≤ W2.T.length) (fun i => W2.T.length - i) 0 ⟨⟨rfl, rfl, rfl, rfl, rfl, trivial⟩, Split.ent' sp0, Nat.zero_le _⟩ ?_
      rintro i env L ⟨hsub, hE, hi5⟩
      refine swp_sub _ hsub ?_
      refine swp_ent hE ?_
      clear hsub hE env L
      have hTl := hA2.1.tl
      refine swp_sr ?_
      refine s_pu (pu_lss rfl rfl) ?_
      refine swl_sub _ (sc0 7 rfl (sc0 9 rfl (sc0 169 rfl (sc0 201 rfl (sc0 202 rfl (sc0 203 rfl .nil)))))) ?_
      refine swl_nn ?_
      refine swp_seq ?_
      refine swp_cond (b := _) rfl (fun h203 => ?_) (fun h203 => ?_)
      ·skip
       have h203' : i < W2.T.length := by have := of_decide_eq_true h203; omega
       refine swp_skip ?_
       refine then_n ?_
       refine swp_seq ?_
       refine swp_block ?_
       refine swp_sr ?_
       refine s_mv rfl ?_
       refine s_as rfl ?_
       refine swl_sub _ (sc0 7 rfl (sc0 9 rfl (sc0 29 rfl (sc0 169 rfl (sc0 201 rfl (sc0 202 rfl .nil)))))) ?_
       refine swl_nn ?_
       refine swp_sr ?_
       refine s_mv rfl ?_
       refine s_mv rfl ?_
       refine s_ef (ef_fn (tree_spec p W2 μ16 (hA2.1.le (h15.trans l16)) hSm.1 ((i : Nat) : Int)) rfl rfl sp0) ?_
       rintro v208 L1 ⟨A3, c3, rfl, rfl⟩
       refine swl_app ?_
       refine s_mv rfl ?_
       first | refine s_pu (pu_extractL rfl) ?_ | refine s_pu (pu_extract rfl rfl) ?_
       first | refine s_pu (pu_extractL rfl) ?_ | refine s_pu (pu_extract rfl rfl) ?_
       refine s_as rfl ?_
       refine s_as rfl ?_
       refine swl_sub _ (sc0 7 rfl (sc0 9 rfl (sc0 30 rfl (sc0 169 rfl (sc0 201 rfl (sc0 202 rfl .nil)))))) ?_
       refine swl_nn ?_
       refine swp_seq ?_
       refine swp_seq ?_
       have htal : (treeAt W2.pl.1 ((i : Nat) : Int)).1.length ≤ 1048576 := treeAt_small (fun t ht => by rw [hA2.2.2.1] at ht; exact hsm.1 t ht) _
       generalize treeAt W2.pl.1 ((i : Nat) : Int) = ta at *
       refine swp_fact (fun m h => own_shape (e := 47) (n := 2) (v := .slice A3 ta.1.length c3) (l := ta.1.length) (xs := ens ta.1) tk0 h) fun hsx => ?_
       refine swp_region ?_
       refine s_mv rfl ?_
       refine s_pu (pu_len rfl) ?_
       refine s_mv rfl ?_
       refine swl_sub _ (sc0 7 rfl (sc0 9 rfl (sc0 30 rfl (sc0 169 rfl (sc0 201 rfl (sc0 202 rfl (sc0 212 rfl (sc0 213 rfl .nil)))))))) ?_
       refine swl_nn ?_
       refine swp_block ?_
       refine swp_loop (ι := Nat) (fun k env L => ∃ ys : List Value, ys.length = ta.1.length * 2 ∧ Sub env [(7, pv p), (9, pv w), (30, .slice A3 ta.1.length c3), (169, .int .i64 (i3 : Nat)), (201, .int .i64 (W2.T.length : Nat)), (202, .int .i64 (i : Nat)), (212, .int .i64 (ta.1.length : Nat)), (213, .int .i64 (k : Nat))] ∧ Ent L [own 47 2 (.slice A3 ta.1.length c3) ta.1.length ys, FSA pd (lg qM y2.1), stH p W2, ttA W2, ccA W2, RDA pr (dN qM y2.1), rsH w V2, ttA V2, ccA V2, ro μ16] ∧ k ≤ ta.1.length) (fun k => ta.1.length - k) 0 ⟨ens ta.1, flat_length (f := enc1) (k := 2) (fun _ => rfl) _, ⟨rfl, rfl, rfl, rfl, rfl, rfl, rfl, rfl, trivial⟩, Split.ent' sp0, Nat.zero_le _⟩ ?_
       rintro k env L ⟨ys, hys, hsub, hE, hk⟩
       refine swp_sub _ hsub ?_
       refine swp_ent hE ?_
       clear hsub hE env L
       refine swp_sr ?_
       refine s_pu (pu_lss rfl rfl) ?_
       refine swl_sub _ (sc0 7 rfl (sc0 9 rfl (sc0 30 rfl (sc0 169 rfl (sc0 201 rfl (sc0 202 rfl (sc0 212 rfl (sc0 213 rfl (sc0 214 rfl .nil))))))))) ?_
       refine swl_nn ?_
       refine swp_seq ?_
       refine swp_cond (b := _) rfl (fun h214 => ?_) (fun h214 => ?_)
       ·skip
        have h214' : k < ta.1.length := by have := of_decide_eq_true h214; omega
        obtain ⟨xb, rfl⟩ := shape_some hsx om0
        refine swp_skip ?_
        refine then_n ?_
        refine swp_seq ?_
        refine swp_block ?_
        refine swp_sr ?_
        refine s_mv rfl ?_
        refine s_as rfl ?_
        refine swl_sub _ (sc0 7 rfl (sc0 9 rfl (sc0 30 rfl (sc0 32 rfl (sc0 169 rfl (sc0 201 rfl (sc0 202 rfl (sc0 212 rfl (sc0 213 rfl .nil))))))))) ?_
        refine swl_nn ?_
        refine swp_region ?_
        refine s_mv rfl ?_
        refine s_mv rfl ?_
        refine s_pu (pu_indexAddr (0 + k * 2) rfl rfl om0 om0 (by rw [Int.toNat_natCast])) ?_
        first | refine s_pu (pu_fieldAddr0 rfl) ?_ | refine s_pu (pu_fieldAddr rfl) ?_
        refine s_ef0 (ef_store_own rfl rfl sp0 (by show 0 + k * 2 + 1 < _; omega) rfl) ?_
        refine swl_sub _ (sc0 7 rfl (sc0 9 rfl (sc0 30 rfl (sc0 169 rfl (sc0 201 rfl (sc0 202 rfl (sc0 212 rfl (sc0 213 rfl .nil)))))))) ?_
        refine swl_nil ?_
        refine block_n ?_
        refine then_n ?_
        refine swp_region ?_
        refine s_pu (pu_add_as ((k + 1 : Nat) : Int) rfl rfl om0 om0 om0) ?_
        refine s_mv rfl ?_
        refine swl_sub _ (sc0 7 rfl (sc0 9 rfl (sc0 30 rfl (sc0 169 rfl (sc0 201 rfl (sc0 202 rfl (sc0 212 rfl (sc0 213 rfl .nil)))))))) ?_
        refine swl_nil ?_
        exact then_n ⟨k + 1, ⟨ys.set (0 + k * 2 + 1) (.int .u32 77), by rw [List.length_set]; exact hys, ⟨rfl, rfl, rfl, rfl, rfl, rfl, rfl, rfl, trivial⟩, Split.ent' sp0, h214'⟩, by omega⟩
       ·skip
        refine swp_exit ?_
        refine then_x ?_
        refine then_x ?_
        refine block_hit rfl ?_
        refine then_n ?_
        refine swp_region ?_
        refine s_mv rfl ?_
        refine s_pu (pu_bld (qs := [(0, _)]) rfl) ?_
        refine s_ef (ef_bldS (qs := [(0, _)]) rfl rfl rfl) ?_
        intro b223
        refine s_ef (ef_append_lit (l := ta.1.length) (m := 1) rfl rfl sp0 (by simp only [maxLen]; omega) om0) ?_
        rintro v224 -
        skip
        refine swl_sub _ (sc0 7 rfl (sc0 9 rfl (sc0 169 rfl (sc0 201 rfl (sc0 202 rfl .nil))))) ?_
        refine swl_nil ?_
        refine block_n ?_
        refine then_n ?_
        refine swp_region ?_
        refine s_pu (pu_add_as ((i + 1 : Nat) : Int) rfl rfl om0 om0 om0) ?_
        refine s_mv rfl ?_
        refine swl_sub _ (sc0 7 rfl (sc0 9 rfl (sc0 169 rfl (sc0 201 rfl (sc0 202 rfl .nil))))) ?_
        refine swl_nil ?_
        exact then_n ⟨i + 1, ⟨⟨rfl, rfl, rfl, rfl, rfl, trivial⟩, Split.ent' sp0, h203'⟩, by omega⟩
      ·skip
       refine swp_exit ?_
       refine then_x ?_
       refine then_x ?_
       refine block_hit rfl ?_
       refine then_n ?_
       refine swp_sr ?_
       refine s_mv rfl ?_
       refine s_ef (ef_fn (coms_spec p W2 μ16 (hA2.1.le (h15.trans l16))) rfl rfl sp0) ?_
       rintro v227 L1 ⟨rfl, rfl⟩
       refine swl_app ?_
       refine s_mv rfl ?_
       refine swl_sub _ (sc0 7 rfl (sc0 9 rfl (sc0 169 rfl (sc0 227 rfl (sc0 228 rfl .nil))))) ?_
       refine swl_nn ?_
       refine swp_block ?_
       refine swp_loop (ι := Nat) (fun i env L => Sub env [(7, pv p), (9, pv w), (169, .int .i64 (i3 : Nat)), (227, .int .i64 (W2.C.length : Nat)), (228, .int .i64 (i : Nat))] ∧ Ent L [FSA pd (lg qM y2.1), stH p W2, ttA W2, ccA W2, RDA pr (dN qM y2.1), rsH w V2, ttA V2, ccA V2, ro μ16] ∧ i ≤ W2.C.length) (fun i => W2.C.length - i) 0 ⟨⟨rfl, rfl, rfl, rfl, rfl, trivial⟩, Split.ent' sp0, Nat.zero_le _⟩ ?_
       rintro i env L ⟨hsub, hE, hi6⟩
       refine swp_sub _ hsub ?_
       refine swp_ent hE ?_
       clear hsub hE env L
       have hCl := hA2.1.cl
       refine swp_sr ?_
       refine s_pu (pu_lss rfl rfl) ?_
       refine swl_sub _ (sc0 7 rfl (sc0 9 rfl (sc0 169 rfl (sc0 227 rfl (sc0 228 rfl (sc0 229 rfl .nil)))))) ?_
       refine swl_nn ?_
       refine swp_seq ?_
       refine swp_cond (b := _) rfl (fun h229 => ?_) (fun h229 => ?_)
       ·skip
        have h229' : i < W2.C.length := by have := of_decide_eq_true h229; omega
        refine swp_skip ?_
        refine then_n ?_
        refine swp_seq ?_
        refine swp_block ?_
        refine swp_sr ?_
        refine s_mv rfl ?_
        refine s_as rfl ?_
        refine swl_sub _ (sc0 7 rfl (sc0 9 rfl (sc0 33 rfl (sc0 169 rfl (sc0 227 rfl (sc0 228 rfl .nil)))))) ?_
        refine swl_nn ?_
        refine swp_sr ?_
        refine s_mv rfl ?_
        refine s_mv rfl ?_
        refine s_ef (ef_fn (commit_spec p W2 μ16 (hA2.1.le (h15.trans l16)) hSm.2 ((i : Nat) : Int)) rfl rfl sp0) ?_
        rintro v234 L1 ⟨A3, c3, rfl, rfl⟩
        refine swl_app ?_
        refine s_mv rfl ?_
        first | refine s_pu (pu_extractL rfl) ?_ | refine s_pu (pu_extract rfl rfl) ?_
        first | refine s_pu (pu_extractL rfl) ?_ | refine s_pu (pu_extract rfl rfl) ?_
        refine s_ef (ef_alloc) ?_
        intro b34
        refine s_ef0 (ef_storeA rfl rfl rfl rfl) ?_
        refine s_as rfl ?_
        refine swl_sub _ (sc0 7 rfl (sc0 9 rfl (sc0 34 rfl (sc0 169 rfl (sc0 227 rfl (sc0 228 rfl .nil)))))) ?_
        refine swl_nn ?_
        refine swp_seq ?_
        refine swp_seq ?_
        have hcal : (comAt W2.pl.2 ((i : Nat) : Int)).1.1.length ≤ 1048576 := comAt_small (fun t ht => by rw [hA2.2.2.1] at ht; exact hsm.2 t ht) _
        generalize comAt W2.pl.2 ((i : Nat) : Int) = ca at *
        refine swp_fact (fun m h => own_shape (e := 3) (n := 1) (v := .slice A3 ca.1.1.length c3) (l := ca.1.1.length) (xs := ca.1.1.flatMap (icsk .i64)) tk0 h) fun hsx => ?_
        refine swp_region ?_
        first | refine s_pu (pu_fieldAddr0 rfl) ?_ | refine s_pu (pu_fieldAddr rfl) ?_
        refine s_rd (rd_load rfl rfl) ?_
        refine s_pu (pu_len rfl) ?_
        refine s_mv rfl ?_
        refine swl_sub _ (sc0 7 rfl (sc0 9 rfl (sc0 34 rfl (sc0 169 rfl (sc0 227 rfl (sc0 228 rfl (sc0 239 rfl (sc0 240 rfl .nil)))))))) ?_
        refine swl_nn ?_
        refine swp_block ?_
        refine swp_loop (ι := Nat) (fun k env L => ∃ ys : List Value, ys.length = ca.1.1.length * 1 ∧ Sub env [(7, pv p), (9, pv w), (34, pv b34), (169, .int .i64 (i3 : Nat)), (227, .int .i64 (W2.C.length : Nat)), (228, .int .i64 (i : Nat)), (239, .int .i64 (ca.1.1.length : Nat)), (240, .int .i64 (k : Nat))] ∧ Ent L [blk b34 25 [.slice A3 ca.1.1.length c3, .int .i64 ca.1.2], own 3 1 (.slice A3 ca.1.1.length c3) ca.1.1.length ys, FSA pd (lg qM y2.1), stH p W2, ttA W2, ccA W2, RDA pr (dN qM y2.1), rsH w V2, ttA V2, ccA V2, ro μ16] ∧ k ≤ ca.1.1.length) (fun k => ca.1.1.length - k) 0 ⟨ca.1.1.flatMap (icsk .i64), flat_length (f := icsk .i64) (k := 1) (fun _ => rfl) _, ⟨rfl, rfl, rfl, rfl, rfl, rfl, rfl, rfl, trivial⟩, Split.ent' sp0, Nat.zero_le _⟩ ?_
        rintro k env L ⟨ys, hys, hsub, hE, hk⟩
        refine swp_sub _ hsub ?_
        refine swp_ent hE ?_
        clear hsub hE env L
        refine swp_sr ?_
        refine s_pu (pu_lss rfl rfl) ?_
        refine swl_sub _ (sc0 7 rfl (sc0 9 rfl (sc0 34 rfl (sc0 169 rfl (sc0 227 rfl (sc0 228 rfl (sc0 239 rfl (sc0 240 rfl (sc0 241 rfl .nil))))))))) ?_
        refine swl_nn ?_
        refine swp_seq ?_
        refine swp_cond (b := _) rfl (fun h241 => ?_) (fun h241 => ?_)
        ·skip
         have h241' : k < ca.1.1.length := by have := of_decide_eq_true h241; omega
         obtain ⟨xb, rfl⟩ := shape_some hsx om0
         refine swp_skip ?_
         refine then_n ?_
         refine swp_seq ?_
         refine swp_block ?_
         refine swp_sr ?_
         refine s_mv rfl ?_
         refine s_as rfl ?_
         refine swl_sub _ (sc0 7 rfl (sc0 9 rfl (sc0 34 rfl (sc0 36 rfl (sc0 169 rfl (sc0 227 rfl (sc0 228 rfl (sc0 239 rfl (sc0 240 rfl .nil))))))))) ?_
         refine swl_nn ?_
         refine swp_region ?_
         first | refine s_pu (pu_fieldAddr0 rfl) ?_ | refine s_pu (pu_fieldAddr rfl) ?_
         refine s_rd (rd_load rfl rfl) ?_
         refine s_mv rfl ?_
         refine s_pu (pu_indexAddr (0 + k * 1) rfl rfl om0 om0 (by rw [Int.toNat_natCast])) ?_
         refine s_ef0 (ef_store_own rfl rfl sp0 om0 rfl) ?_
         refine swl_sub _ (sc0 7 rfl (sc0 9 rfl (sc0 34 rfl (sc0 169 rfl (sc0 227 rfl (sc0 228 rfl (sc0 239 rfl (sc0 240 rfl .nil)))))))) ?_
         refine swl_nil ?_
         refine block_n ?_
         refine then_n ?_
         refine swp_region ?_
         refine s_pu (pu_add_as ((k + 1 : Nat) : Int) rfl rfl om0 om0 om0) ?_
         refine s_mv rfl ?_
         refine swl_sub _ (sc0 7 rfl (sc0 9 rfl (sc0 34 rfl (sc0 169 rfl (sc0 227 rfl (sc0 228 rfl (sc0 239 rfl (sc0 240 rfl .nil)))))))) ?_
         refine swl_nil ?_
         exact then_n ⟨k + 1, ⟨ys.set (0 + k * 1) (.int .i64 (-8)), by rw [List.length_set]; exact hys, ⟨rfl, rfl, rfl, rfl, rfl, rfl, rfl, rfl, trivial⟩, Split.ent' sp0, h241'⟩, by omega⟩
        ·skip
         refine swp_exit ?_
         refine then_x ?_
         refine then_x ?_
         refine block_hit rfl ?_
         refine then_n ?_
         refine swp_region ?_
         first | refine s_pu (pu_fieldAddr0 rfl) ?_ | refine s_pu (pu_fieldAddr rfl) ?_
         refine s_rd (rd_load rfl rfl) ?_
         refine s_ef (ef_bldS (qs := [(0, _)]) rfl rfl rfl) ?_
         intro b250
         refine s_ef (ef_append_lit (l := ca.1.1.length) (m := 1) rfl rfl sp0 (by simp only [maxLen]; omega) om0) ?_
         rintro v251 -
         skip
         refine swl_sub _ (sc0 7 rfl (sc0 9 rfl (sc0 169 rfl (sc0 227 rfl (sc0 228 rfl .nil))))) ?_
         refine swl_nil ?_
         refine block_n ?_
         refine then_n ?_
         refine swp_region ?_
         refine s_pu (pu_add_as ((i + 1 : Nat) : Int) rfl rfl om0 om0 om0) ?_
         refine s_mv rfl ?_
         refine swl_sub _ (sc0 7 rfl (sc0 9 rfl (sc0 169 rfl (sc0 227 rfl (sc0 228 rfl .nil))))) ?_
         refine swl_nil ?_
         exact then_n ⟨i + 1, ⟨⟨rfl, rfl, rfl, rfl, rfl, trivial⟩, Split.ent' sp0, h229'⟩, by omega⟩
       ·skip
        refine swp_exit ?_
        refine then_x ?_
        refine then_x ?_
        refine block_hit rfl ?_
        refine block_n ?_
        refine then_n ?_
        refine swp_region ?_
        refine s_pu (pu_add_as ((i3 + 1 : Nat) : Int) rfl rfl om0 om0 om0) ?_
        refine s_mv rfl ?_
        refine swl_sub _ (sc0 7 rfl (sc0 9 rfl (sc0 169 rfl .nil))) ?_
        refine swl_nil ?_
        exact then_n ⟨i3 + 1, ⟨μ16, ⟨rfl, rfl, rfl, trivial⟩, Split.ent' sp0, h170', h15.trans l16⟩, by omega⟩
    ·skip
     refine swp_exit ?_
     refine then_x ?_
     refine then_x ?_
     refine block_hit rfl ?_
     refine then_n ?_
     refine swp_sr ?_
     refine s_mv rfl ?_
     refine s_mv rfl ?_
     refine s_ef (ef_fn (ml_same μ15 p w pd pr W2 V2 y2.2.1 (hA2.le h15) (hB2.le h15) hsm) rfl rfl sp0) ?_
     rintro v256 L1 ⟨μ16, l16, rfl, rfl⟩
     refine swl_app ?_
     refine s_as rfl ?_
     refine swl_sub _ (sc0 4 rfl .nil) ?_
     refine swl_nn ?_
     refine swp_ret ?_
     exact done_retE [ro μ16] (.tmp rfl .nil) ⟨rfl, μ16, [], h2.trans (h15.trans l16), rfl⟩ (Split.ent' sp0)
end SX
namespace Go.Proofs.YtllgakmdhjgmoaaGreat
open Go Go.ChangeShapes Go.WideShapes Go.ChangeAt Go.RowKit
theorem bulk_pos {H : Type} : ∀ d : DataW H, 1 ≤ Rows.uptoBulk d := fun d => by
  cases d with
  | lit l => cases l <;> simp only [Rows.uptoBulk] <;> omega
  | _ => simp only [Rows.uptoBulk] <;> omega
theorem bulk_len {H : Type} : ∀ ds : List (DataW H), ds.length ≤ Rows.uptoBulkAll ds
  | [] => by simp
  | d :: r => by
    have := bulk_pos d
    have := bulk_len r
    simp only [Rows.uptoBulkAll, List.length_cons]; omega
theorem bulk_at {H : Type} : ∀ {ds : List (DataW H)} {i : Nat} {d : DataW H}, ds[i]? = some d → Rows.uptoBulk d ≤ Rows.uptoBulkAll ds
  | [], _, _, h => by simp at h
  | x :: r, 0, d, h => by
    obtain rfl : x = d := by simpa using h
    simp only [Rows.uptoBulkAll]; omega
  | x :: r, i + 1, d, h => by
    have := bulk_at (ds := r) (i := i) (d := d) (by simpa using h)
    simp only [Rows.uptoBulkAll]; omega
/-- a list is short -/
theorem list_short {H : Type} {n : Nat} {d : DataW H} {ds : List (DataW H)} {i : Nat} (hi : ds[i]? = some d) (hk : Rows.uptoSmall H ds = true) (hd : (d = .nil ∧ n = 0) ∨ ∃ (Ds sp : List (DataW H)), d = .slice Ds sp ∧ Ds.length = n) : n ≤ 1048576 := by
  have h : Rows.uptoBulkAll ds ≤ 1048576 := of_decide_eq_true hk
  have hb := bulk_at hi
  rcases hd with ⟨_, rfl⟩ | ⟨Ds, sp, rfl, h2⟩
  · omega
  · have := bulk_len Ds
    simp only [Rows.uptoBulk] at hb
    omega
/-- the first part's list is short -/
theorem fst_short {H : Type} {n : Nat} {a b : DataW H} {ds : List (DataW H)} {i : Nat} (hi : ds[i]? = some (.agg [a, b])) (hk : Rows.uptoSmall H ds = true) (hd : (a = .nil ∧ n = 0) ∨ ∃ (Ds sp : List (DataW H)), a = .slice Ds sp ∧ Ds.length = n) : n ≤ 1048576 := by
  have h : Rows.uptoBulkAll ds ≤ 1048576 := of_decide_eq_true hk
  have hb := bulk_at hi
  rcases hd with ⟨_, rfl⟩ | ⟨Ds, sp, rfl, h2⟩
  · omega
  · have := bulk_len Ds
    simp only [Rows.uptoBulk, Rows.uptoBulkAll] at hb
    omega
end Go.Proofs.YtllgakmdhjgmoaaGreat
