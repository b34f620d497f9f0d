/- A part of the proof: walks of the program's functions, and the rules by which they go. -/
import Derived.Test.YtllgakmdhjgmoaaGreatB6d08e8f7
import Derived.Test.YtllgakmdhjgmoaaGreatBd9eac427
import Derived.Test.YtllgakmdhjgmoaaGreatB4978209c
namespace SX
open Go Go.Proofs
/-- paths that rise, behind the last one -/
def upE : Bool → List UInt8 → List En → Prop
  | _, _, [] => True
  | first, last, e :: t => (first = false → strLt (str last) (str (bts e)) = true) ∧ upE false (bts e) t
theorem decL_enc : ∀ (t : List En) (A B : List UInt8) (first : Bool) (last : List UInt8), (∀ e ∈ t, (bts e).length ≤ 255 ∧ e.2 ≠ 0 ∧ U32 e.2) → upE first last t → decL (A ++ (encEs last t ++ B)) t.length first last A.length = some (t, A.length + (encEs last t).length)
  | [], A, B, first, last, _, _ => rfl
  | e :: t, A, B, first, last, h, hu => by
    obtain ⟨h1, h2, h3⟩ := h e (List.mem_cons_self ..)
    unfold U32 at h3
    have es : A ++ (encEs last (e :: t) ++ B) = A ++ (encE1 last e ++ (encEs (bts e) t ++ B)) := by
      show A ++ ((encE1 last e ++ encEs (bts e) t) ++ B) = _; rw [List.append_assoc (encE1 last e)]
    have es2 : A ++ (encE1 last e ++ (encEs (bts e) t ++ B)) = (A ++ encE1 last e) ++ (encEs (bts e) t ++ B) := by rw [List.append_assoc]
    have he := entP_enc (A := A) (B := encEs (bts e) t ++ B) (last := last) (e := e) (first := first) h1 h2 h3.1 om0 hu.1
    have ih := decL_enc t (A ++ encE1 last e) B false (bts e) (fun x hx => h x (List.mem_cons_of_mem _ hx)) hu.2
    show decL _ (t.length + 1) _ _ _ = _
    rw [decL, es, he]
    dsimp only
    rw [es2, ← List.length_append, ih]
    dsimp only
    have e0 : enOf (bts e, e.2.toNat) = e := by
      show ((str (bts e), ((e.2.toNat : Nat) : Int)) : En) = e
      rw [show ((e.2.toNat : Nat) : Int) = e.2 by omega]
    rw [e0]
    show some (e :: t, _) = some (e :: t, A.length + (encE1 last e ++ encEs (bts e) t).length)
    rw [List.length_append, List.length_append]
    congr 2
    omega
theorem up_of {t : List En} (h : ∀ i, i < t.length → wrongE t i = 0) : ∀ k, k ≤ t.length → upE (decide (k = 0)) (lastT t k) (t.drop k) := by
  intro k
  generalize hn : t.length - k = n
  induction n generalizing k with
  | zero =>
    intro hk
    rw [List.drop_eq_nil_of_le om0]
    trivial
  | succ n ih =>
    intro hk
    obtain ⟨e, he⟩ : ∃ e, t[k]? = some e := ⟨_, List.getElem?_eq_getElem om0⟩
    have hd : t.drop k = e :: t.drop (k + 1) := by
      rw [List.drop_eq_getElem_cons om0]
      congr 1
      exact (List.getElem?_eq_some_iff.1 he).2
    rw [hd]
    have ih' := ih (k + 1) om0 om0
    rw [lastT_succ he, decide_eq_false om0] at ih'
    refine ⟨fun hf => ?_, ih'⟩
    have hk0 : 0 < k := by have := of_decide_eq_false hf; omega
    obtain ⟨d, hdd⟩ : ∃ d, t[k - 1]? = some d := ⟨_, List.getElem?_eq_getElem om0⟩
    have hl : lastT t k = bts d := by
      obtain ⟨j, rfl⟩ : ∃ j, k = j + 1 := ⟨k - 1, by omega⟩
      exact lastT_succ hdd
    have hz := h k om0
    obtain ⟨w1, w2, _, w4⟩ := wrongE_at he
    have g1 : ¬ 255 < e.1.size := fun q => by rw [w1 q] at hz; cases hz
    have g2 : ¬ e.2 = 0 := fun q => by rw [w2 g1 q] at hz; cases hz
    rw [w4 d g1 g2 hk0 hdd] at hz
    split at hz
    · cases hz
    · split at hz
      · cases hz
      · rename_i q1 q2
        rw [hl]
        show strLt d.1 e.1 = true
        rcases strLt_total e.1 d.1 with k | k | k
        · exact absurd k q2
        · exact absurd (strEq_iff.2 k) q1
        · exact k
theorem decT_enc {t : List En} (h : encErr t = 0) (hu : U32s t) : decT (encT t) = some t := by
  obtain ⟨h1, h2⟩ := encErr_ok h
  have hp := check_paths h2
  have v2 : valB ((encT t).take 2) = t.length := by
    unfold encT
    rw [List.take_left' (numB_len _ _)]
    exact val_num (by decide) (by show t.length < 256 ^ 2; omega)
  have hl : (encT t).length = 2 + (encEs [] t).length := by unfold encT; rw [List.length_append, numB_len]
  have hd := decL_enc t (numB 2 t.length) [] true [] (fun e he => ⟨(hp e he).1, (hp e he).2, hu e he⟩) (by
    have := up_of (wrongE_all h2) 0 (Nat.zero_le _)
    rw [List.drop_zero] at this
    exact this)
  rw [List.append_nil, numB_len] at hd
  unfold decT
  rw [if_neg om0, v2, if_neg om0]
  rw [show encT t = numB 2 t.length ++ encEs [] t from rfl, hd]
  dsimp only
  rw [if_pos (by rw [List.length_append, numB_len])]
theorem stand_tree {s : St2} {t : List En} (h : encErr t = 0) (hu : U32s t) (hn : s.1.length < 65536) : stand1 s (1, encT t) = some (s.1 ++ [t], s.2) := by
  unfold stand1
  rw [if_pos rfl, decT_enc h hu]
  dsimp only
  rw [if_neg om0]
theorem stand_com {s : St2} {c : Cm} (h : checkC c = 0) (hk : knownS s.1.length s.2.length c = true) (hn : s.2.length < 65536) : stand1 s (2, encC' c) = some (s.1, s.2 ++ [c]) := by
  unfold stand1
  rw [if_neg (show ¬ (2 : Nat) = 1 by decide), if_pos rfl, decC_enc h]
  dsimp only
  rw [if_neg (by rw [hk]; rintro (k | k); cases k; omega)]
theorem good_tree {t : List En} (h : encErr t = 0) : GoodF (1, encT t) := ⟨show 0 < 1 by decide, show 1 < 256 by decide, by have := encT_len h; show (encT t).length ≤ _; omega⟩
theorem good_com {c : Cm} (h : checkC c = 0) : GoodF (2, encC' c) := ⟨show 0 < 2 by decide, show 2 < 256 by decide, by have := encC_len h; show (encC' c).length ≤ _; omega⟩
/-- a disk with the log alone: its bytes, how many of them are safe -/
abbrev dl (q : Int) (B : List UInt8) (k : Nat) (fa : Int) (off : Bool) : Dk := one1 q logN ⟨B, k⟩ fa off
def dec1 (fa : Int) : Int := if 0 < fa then fa - 1 else fa
section
variable {q : Int} {B : List UInt8} {k : Nat} {fa : Int}
theorem dl_append {t : List UInt8} (h : (B.length : Int) + t.length ≤ q) : appendD (dl q B k fa false) logN t = if fa = 1 then (dl q B k 0 true, 8) else (dl q (B ++ t) k (dec1 fa) false, 0) := one_append h
theorem dl_full {t : List UInt8} (h : q < (B.length : Int) + t.length) (h0 : 0 < t.length) : appendD (dl q B k fa false) logN t = (dl q B k fa false, 7) := by
  unfold appendD onFile
  have e : findN (dl q B k fa false).seen logN = some 0 := one_find logN
  rw [if_neg (show ¬ (dl q B k fa false).off = true by show ¬ false = true; decide), e]
  dsimp only
  rw [if_pos ⟨h0, by rw [one_used]; exact h⟩]
theorem dl_sync : syncD (dl q B k fa false) logN = if fa = 1 then (dl q B k 0 true, 8) else (dl q B B.length (dec1 fa) false, 0) := by
  unfold syncD onFile
  have e : findN (dl q B k fa false).seen logN = some 0 := one_find logN
  rw [if_neg (show ¬ (dl q B k fa false).off = true by show ¬ false = true; decide), e]
  dsimp only
  by_cases h1 : fa = 1
  · rw [if_pos h1, atStep1 (show (dl q B k fa false).falls = 1 from h1)]; rfl
  · rw [if_neg h1, atStepN (show (dl q B k fa false).falls ≠ 1 from h1)]; rfl
theorem dl_names : syncNamesD (dl q B k fa false) = if fa = 1 then (dl q B k 0 true, 8) else (dl q B k (dec1 fa) false, 0) := by
  unfold syncNamesD
  rw [if_neg (show ¬ (dl q B k fa false).off = true by show ¬ false = true; decide)]
  by_cases h1 : fa = 1
  · rw [if_pos h1, atStep1 (show (dl q B k fa false).falls = 1 from h1)]; rfl
  · rw [if_neg h1, atStepN (show (dl q B k fa false).falls ≠ 1 from h1)]; rfl
theorem dl_cut {n : Nat} (hn : n ≤ B.length) : cutD (dl q B k fa false) logN (n : Nat) = if fa = 1 then (dl q B k 0 true, 8) else (dl q (B.take n) (min k n) (dec1 fa) false, 0) := by
  unfold cutD onFile
  have e : findN (dl q B k fa false).seen logN = some 0 := one_find logN
  rw [if_neg (show ¬ (dl q B k fa false).off = true by show ¬ false = true; decide), e]
  dsimp only
  rw [if_neg (show ¬ ((n : Int) < 0 ∨ (((dl q B k fa false).fl 0).bytes.length : Int) < n) by show ¬ ((n : Int) < 0 ∨ (B.length : Int) < n); omega)]
  by_cases h1 : fa = 1
  · rw [if_pos h1, atStep1 (show (dl q B k fa false).falls = 1 from h1)]; rfl
  · rw [if_neg h1, atStepN (show (dl q B k fa false).falls ≠ 1 from h1)]; rfl
theorem dl_crash (off : Bool) (n : Int) (keep : List Int) : crashD (dl q B k fa off) n keep = dl q (B.take (k + moreF keep 0 ⟨B, k⟩)) (k + moreF keep 0 ⟨B, k⟩) 0 false := by
  have e1 : namesAt (dl q B k fa off) n = [(logN, 0)] := by
    show (([] : List Cg).take _).foldl chgN [(logN, 0)] = _
    rw [List.take_nil]; rfl
  unfold crashD
  rw [e1]
  show (⟨q, [if _ then _ else _], [(logN, 0)], [(logN, 0)], [], 0, false⟩ : Dk) = _
  rw [if_pos (by simp)]
  rfl
theorem more_le (keep : List Int) (h : k ≤ B.length) : k + moreF keep 0 ⟨B, k⟩ ≤ B.length := by
  unfold moreF
  split
  · omega
  · dsimp only; omega
theorem dl_crash_all (off : Bool) (n : Int) (keep : List Int) : crashD (dl q B B.length fa off) n keep = dl q B B.length 0 false := by
  have := more_le (B := B) keep (Nat.le_refl _)
  have e : moreF keep 0 ⟨B, B.length⟩ = 0 := by omega
  rw [dl_crash, e, Nat.add_zero, List.take_length]
theorem dl_crash_part (A F : List UInt8) (off : Bool) (n : Int) (keep : List Int) : ∃ j, j ≤ F.length ∧ crashD (dl q (A ++ F) A.length fa off) n keep = dl q (A ++ F.take j) (A ++ F.take j).length 0 false := by
  have hm := more_le (k := A.length) (B := A ++ F) keep (by rw [List.length_append]; omega)
  rw [List.length_append] at hm
  refine ⟨moreF keep 0 ⟨A ++ F, A.length⟩, by omega, ?_⟩
  rw [dl_crash]
  have e : (A ++ F).take (A.length + moreF keep 0 ⟨A ++ F, A.length⟩) = A ++ F.take (moreF keep 0 ⟨A ++ F, A.length⟩) := by rw [List.take_length_add_append]
  rw [e, List.length_append, List.length_take, Nat.min_eq_left om0]
end
theorem dl_settle2 {q : Int} {A : List UInt8} {fa : Int} {k : Nat} (hk : k = A.length) : ∃ d e, (if (syncD (dl q A k fa false) logN).2 ≠ 0 then syncD (dl q A k fa false) logN else syncNamesD (syncD (dl q A k fa false) logN).1) = (d, e) ∧ ((∃ fa', d = dl q A A.length fa' false ∧ e = 0 ∧ (fa = 0 → fa' = 0)) ∨ (fa ≠ 0 ∧ e = 8 ∧ d = dl q A A.length 0 true)) := by
  subst hk
  rw [dl_sync]
  by_cases h1 : fa = 1
  · rw [if_pos h1, if_pos (by show (8 : Int) ≠ 0; decide)]
    exact ⟨_, _, rfl, .inr ⟨by omega, rfl, rfl⟩⟩
  · rw [if_neg h1, if_neg (fun k => k rfl)]
    dsimp only
    rw [dl_names]
    by_cases h2 : dec1 fa = 1
    · rw [if_pos h2]
      refine ⟨_, _, rfl, .inr ⟨fun h0 => ?_, rfl, rfl⟩⟩
      subst h0; cases h2
    · rw [if_neg h2]
      exact ⟨_, _, rfl, .inl ⟨_, rfl, rfl, fun h0 => by subst h0; rfl⟩⟩
theorem dl_settle {q : Int} {B A R : List UInt8} {fa : Int} (hB : B = A ++ R) : ∃ d e, settleD (dl q B B.length fa false) A.length B.length = (d, e) ∧
    ((∃ fa', d = dl q A A.length fa' false ∧ e = 0 ∧ (fa = 0 → fa' = 0)) ∨ (fa ≠ 0 ∧ e = 8 ∧ ∃ B', d = dl q B' B'.length 0 true ∧ (B' = B ∨ B' = A))) := by
  have hle : A.length ≤ B.length := by rw [hB, List.length_append]; omega
  unfold settleD cutRest
  by_cases hl : A.length = B.length
  · have hR : R = [] := by
      have : B.length = A.length + R.length := by rw [hB, List.length_append]
      exact List.eq_nil_of_length_eq_zero om0
    subst hR
    rw [List.append_nil] at hB
    subst hB
    rw [if_pos rfl, if_neg (fun k => k rfl)]
    obtain ⟨d, e, h1, h2⟩ := dl_settle2 (q := q) (A := B) (fa := fa) rfl
    refine ⟨d, e, h1, ?_⟩
    rcases h2 with h2 | ⟨h3, h4, h5⟩
    · exact .inl h2
    · exact .inr ⟨h3, h4, B, h5, .inl rfl⟩
  · rw [if_neg hl, dl_cut hle]
    by_cases h1 : fa = 1
    · rw [if_pos h1, if_pos (by show (8 : Int) ≠ 0; decide)]
      exact ⟨_, _, rfl, .inr ⟨by omega, rfl, B, rfl, .inl rfl⟩⟩
    · rw [if_neg h1, if_neg (fun k => k rfl)]
      have ht : B.take A.length = A := by rw [hB, List.take_left]
      have hm : min B.length A.length = A.length := by omega
      rw [ht, hm]
      obtain ⟨d, e, h1, h2⟩ := dl_settle2 (q := q) (A := A) (fa := dec1 fa) rfl
      refine ⟨d, e, h1, ?_⟩
      rcases h2 with ⟨fa', h2, h3, h4⟩ | ⟨h3, h4, h5⟩
      · exact .inl ⟨fa', h2, h3, fun h0 => h4 (by rw [h0]; rfl)⟩
      · exact .inr ⟨fun h0 => h3 (by rw [h0]; rfl), h4, A, h5, .inr rfl⟩
/-- records of which a store's trees and commits are made -/
def LogOf (s : St2) (l : List Fm) : Prop := stands ([], []) l = some s ∧ ∀ f ∈ l, GoodF f
theorem LogOf.nil : LogOf ([], []) [] := ⟨rfl, fun f hf => by cases hf⟩
theorem LogOf.snoc {s s' : St2} {l : List Fm} {f : Fm} (h : LogOf s l) (hf : GoodF f) (hs : stand1 s f = some s') : LogOf s' (l ++ [f]) := ⟨stands_snoc h.1 hs, fun g hg => by
  rcases List.mem_append.1 hg with hg | hg
  · exact h.2 g hg
  · obtain rfl : g = f := by simpa using hg
    exact hf⟩
/-- bytes that begin with whole records, and of which no more can be read -/
def CL (l : List Fm) (B : List UInt8) : Prop := (∃ R, B = encL l ++ R) ∧ scan B = l
theorem CL.enc {s : St2} {l : List Fm} (h : LogOf s l) : CL l (encL l) := ⟨⟨[], (List.append_nil _).symm⟩, scan_encl h.2⟩
theorem CL.torn {s s' : St2} {l : List Fm} {f : Fm} (h : LogOf s l) (hf : GoodF f) (hs : stand1 s f = some s') {j : Nat} : CL l (encL l ++ (encFm f).take j) ∨ (CL (l ++ [f]) (encL l ++ (encFm f).take j) ∧ LogOf s' (l ++ [f])) := by
  by_cases hj : j < f.2.length + 9
  · exact .inl ⟨⟨_, rfl⟩, scan_torn h.2 hf hj⟩
  · rw [List.take_of_length_le (by rw [encFm_len]; omega), ← encL_one, ← encL_app]
    exact .inr ⟨CL.enc (h.snoc hf hs), h.snoc hf hs⟩
theorem CL.openS {q : Int} {s : St2} {l : List Fm} {B : List UInt8} {fa : Int} {k : Nat} (h : CL l B) (hs : LogOf s l) : openS (dl q B k fa false) = s := by
  unfold SX.openS
  rw [one_read]
  dsimp only
  rw [h.2, runS_all hs.1]
theorem CL.openD {q : Int} {s : St2} {l : List Fm} {B : List UInt8} {fa : Int} (h : CL l B) (hs : LogOf s l) : ∃ d e, openD (dl q B B.length fa false) = (d, e) ∧
    ((∃ fa', d = dl q (encL l) (encL l).length fa' false ∧ e = 0 ∧ (fa = 0 → fa' = 0)) ∨ (fa ≠ 0 ∧ e = 8 ∧ ∃ B', d = dl q B' B'.length 0 true ∧ CL l B')) := by
  have hh := h
  obtain ⟨⟨R, hB⟩, hsc⟩ := h
  unfold SX.openD
  rw [one_read]
  dsimp only
  rw [if_neg (by decide), if_neg (fun k => k rfl), hsc, runS_all hs.1]
  dsimp only
  rw [← encL_len]
  obtain ⟨d, e, h1, h2⟩ := dl_settle (q := q) (fa := fa) hB
  refine ⟨d, e, h1, ?_⟩
  rcases h2 with h2 | ⟨h3, h4, B', h5, h6⟩
  · exact .inl h2
  · refine .inr ⟨h3, h4, B', h5, ?_⟩
    rcases h6 with rfl | rfl
    · exact hh
    · exact CL.enc hs
/-- no more than a store takes -/
def Fit (s : St2) : Prop := s.1.length ≤ 65536 ∧ s.2.length ≤ 65536 ∧ SmallS s
/-- what a call that adds leaves of the log -/
def OpQ (q : Int) (s s' : St2) (y : PSt × Int × Int) : Prop :=
  (∃ l fa, y.1.d = dl q (encL l) (encL l).length fa false ∧ y.1.dead = false ∧ LogOf y.1.s l ∧ ((y.2.2 = 0 ∧ y.1.s = s' ∧ Fit s') ∨ (y.2.2 ≠ 0 ∧ y.1.s = s))) ∨
  (y.2.2 = 8 ∧ y.1.dead = true ∧ y.1.d.off = true ∧ Fit s' ∧ ∀ n keep, ∃ l B t, crashD y.1.d n keep = dl q B B.length 0 false ∧ CL l B ∧ LogOf t l ∧ (t = s ∨ t = s'))
theorem op_log {q : Int} {s s' : St2} {l : List Fm} {fa : Int} {e0 : Int} {n : Nat} {f : Fm} (hl : LogOf s l) (hf : e0 = 0 → n < 65536 → GoodF f ∧ stand1 s f = some s' ∧ Fit s') :
    OpQ q s s' (addR ⟨dl q (encL l) (encL l).length fa false, s, false⟩ e0 n f s') := by
  by_cases h0 : ¬ e0 = 0
  · rw [addR_err rfl h0]
    exact .inl ⟨l, fa, rfl, rfl, hl, .inr ⟨h0, rfl⟩⟩
  replace h0 := Decidable.not_not.1 h0
  by_cases hn : ¬ n < 65536
  · rw [addR_full rfl h0 om0]
    exact .inl ⟨l, fa, rfl, rfl, hl, .inr ⟨by show (7 : Int) ≠ 0; decide, rfl⟩⟩
  replace hn := Decidable.not_not.1 hn
  obtain ⟨hg, hst, hfit⟩ := hf h0 hn
  by_cases hq : ¬ (((encL l).length : Nat) : Int) + (encFm f).length ≤ q
  · have ha := dl_full (k := (encL l).length) (fa := fa) (t := encFm f) (B := encL l) (q := q) om0 (by rw [encFm_len]; omega)
    have hw : writeD (dl q (encL l) (encL l).length fa false) f = (dl q (encL l) (encL l).length fa false, 7) := by
      unfold writeD; rw [ha, if_pos (by show (7 : Int) ≠ 0; decide)]
    rw [addR_wr rfl h0 hn (by show (writeD (dl q (encL l) (encL l).length fa false) f).2 ≠ 0; rw [hw]; show (7 : Int) ≠ 0; decide)]
    dsimp only
    rw [hw]
    exact .inl ⟨l, fa, rfl, rfl, hl, .inr ⟨by show (7 : Int) ≠ 0; decide, rfl⟩⟩
  replace hq := Decidable.not_not.1 hq
  have ha := dl_append (k := (encL l).length) (fa := fa) hq
  by_cases h1 : fa = 1
  · rw [if_pos h1] at ha
    have hw : writeD (dl q (encL l) (encL l).length fa false) f = (dl q (encL l) (encL l).length 0 true, 8) := by
      unfold writeD; rw [ha, if_pos (by show (8 : Int) ≠ 0; decide)]
    rw [addR_wr rfl h0 hn (by show (writeD (dl q (encL l) (encL l).length fa false) f).2 ≠ 0; rw [hw]; show (8 : Int) ≠ 0; decide)]
    dsimp only
    rw [hw]
    exact .inr ⟨rfl, rfl, rfl, hfit, fun m keep => ⟨l, encL l, s, dl_crash_all _ _ _, CL.enc hl, hl, .inl rfl⟩⟩
  rw [if_neg h1] at ha
  have hsy := dl_sync (q := q) (B := encL l ++ encFm f) (k := (encL l).length) (fa := dec1 fa)
  by_cases h2 : dec1 fa = 1
  · rw [if_pos h2] at hsy
    have hw : writeD (dl q (encL l) (encL l).length fa false) f = (dl q (encL l ++ encFm f) (encL l).length 0 true, 8) := by
      unfold writeD; rw [ha, if_neg (fun k => k rfl)]; exact hsy
    rw [addR_wr rfl h0 hn (by show (writeD (dl q (encL l) (encL l).length fa false) f).2 ≠ 0; rw [hw]; show (8 : Int) ≠ 0; decide)]
    dsimp only
    rw [hw]
    refine .inr ⟨rfl, rfl, rfl, hfit, fun m keep => ?_⟩
    obtain ⟨j, _, hj⟩ := dl_crash_part (q := q) (fa := 0) (encL l) (encFm f) true m keep
    rcases CL.torn hl hg hst (j := j) with hc | ⟨hc, hlg⟩
    · exact ⟨l, _, s, hj, hc, hl, .inl rfl⟩
    · exact ⟨l ++ [f], _, s', hj, hc, hlg, .inr rfl⟩
  rw [if_neg h2] at hsy
  have hw : writeD (dl q (encL l) (encL l).length fa false) f = (dl q (encL (l ++ [f])) (encL (l ++ [f])).length (dec1 (dec1 fa)) false, 0) := by
    unfold writeD; rw [ha, if_neg (fun k => k rfl)]; rw [encL_app, encL_one]; exact hsy
  rw [addR_ok rfl h0 hn (by show (writeD (dl q (encL l) (encL l).length fa false) f).2 = 0; rw [hw])]
  dsimp only
  rw [hw]
  exact .inl ⟨l ++ [f], _, rfl, rfl, hl.snoc hg hst, .inl ⟨rfl, rfl, hfit⟩⟩
theorem addT_log {q : Int} {s : St2} {l : List Fm} {fa : Int} (hl : LogOf s l) (h : Fit s) (t : List En) (hu : U32s t) : OpQ q s (s.1 ++ [t], s.2) (addT ⟨dl q (encL l) (encL l).length fa false, s, false⟩ t) :=
  op_log hl fun h0 hn => ⟨good_tree h0, stand_tree h0 hu hn, by have hn' : s.1.length < 65536 := hn; show (s.1 ++ [t]).length ≤ 65536; rw [List.length_append, List.length_singleton]; omega, h.2.1, h.2.2.addT (by have := (encErr_ok h0).1; omega)⟩
theorem addC_log {q : Int} {s : St2} {l : List Fm} {fa : Int} (hl : LogOf s l) (h : Fit s) (c : Cm) : OpQ q s (s.1, s.2 ++ [c]) (addC ⟨dl q (encL l) (encL l).length fa false, s, false⟩ c) := by
  refine op_log hl fun h0 hn => ?_
  have h1 : checkC c = 0 := by
    by_cases h : checkC c = 0
    · exact h
    · rw [if_pos h] at h0; exact absurd h0 h
  rw [if_neg (not_not_intro h1)] at h0
  have h2 : knownS s.1.length s.2.length c = true := by
    cases hk : knownS s.1.length s.2.length c with
    | true => rfl
    | false => rw [if_pos hk] at h0; cases h0
  exact ⟨good_com h1, stand_com h1 h2 hn, h.1, by have hn' : s.2.length < 65536 := hn; show (s.2 ++ [c]).length ≤ 65536; rw [List.length_append, List.length_singleton]; omega, h.2.2.addC (by have := (checkC_ok h1).1; omega)⟩
end SX
namespace SX
open Go Go.Proofs
/-- a store as it was opened: of the trees and commits that are said -/
def Fresh (μ : PH) (q : Nat) (s : St2) (W : SW) : Prop := W.Ok μ ∧ W.q = q ∧ W.pl = s ∧ W.dead = false
theorem Fresh.le {μ μ' : PH} {q : Nat} {s : St2} {W : SW} (h : Fresh μ q s W) (k : Le μ μ') : Fresh μ' q s W := ⟨h.1.le k, h.2⟩
set_option maxHeartbeats 2000000 in
theorem reopened_spec (μ : PH) (q : Nat) (d : Dk) (hd : d.Ok) (hw : Within 2 d) (n fat : Int) (hn : n ≤ 9223372036854775807) (kv : Value) (keep : List Int) (hk : Row μ kv 1 keep.length (keep.flatMap (icsk .i64))) (qt : Int) (B : List UInt8) (l : List Fm) (s : St2)
  (hcr : crashD d fat keep = dl qt B B.length 0 false) (hcl : CL l B) (hlg : LogOf s l) :
  Spec Tryz.prog 27 [pv q, .agg #[.int .i64 fat, kv], .int .i64 n] [FSA q d, ro μ] (fun r L => ∃ p W μ', Le μ μ' ∧ Fresh μ' q s W ∧ (dl qt (encL l) (encL l).length 0 false).Ok ∧ r = pv p ∧ L = [FSA q (dl qt (encL l) (encL l).length 0 false), stH p W, ttA W, ccA W, ro μ']) := by
 obtain ⟨kA, kc, rfl⟩ := hk.sl
 have hd1 := fallD_ok (crashD_ok hd fat keep) hn
 have hw1 := fallD_in (crashD_in hw fat keep) n
 refine Spec.of 41 Tryz.func27 rfl rfl rfl ?_
 refine swp_sr ?_
 refine s_ef (ef_box rfl rfl) ?_
 intro b4
 refine s_as rfl ?_
 refine swl_sub _ (sc0 0 rfl (sc0 2 rfl (sc0 4 rfl .nil))) ?_
 refine swl_nn ?_
 refine swp_sr ?_
 refine s_mv rfl ?_
 first | refine s_rd (rd_loadW rfl rfl) ?_ | refine s_rd (rd_loadX rfl rfl rfl) ?_
 refine s_ef (ef_fn (crash_spec μ q d hd fat (.slice kA keep.length kc) keep hk (few_of hw om0)) rfl rfl sp0) ?_
 rintro v13 L1 ⟨μ1, l1, rfl⟩
 refine swl_app ?_
 refine swl_sub _ (sc0 0 rfl (sc0 2 rfl (sc0 4 rfl .nil))) ?_
 refine swl_nn ?_
 refine swp_sr ?_
 refine s_mv rfl ?_
 refine s_mv rfl ?_
 refine s_ef (ef_fn (fall_spec q (crashD d fat keep) n) rfl rfl sp0) ?_
 rintro v16 L1 rfl
 refine swl_app ?_
 refine swl_sub _ (sc0 0 rfl (sc0 4 rfl .nil)) ?_
 refine swl_nn ?_
 refine swp_seq ?_
 refine swp_seq ?_
 have e2 : fallD (crashD d fat keep) n = dl qt B B.length (max n 0) false := by rw [hcr]; rfl
 rw [e2] at hd1 hw1
 rw [e2]
 refine swp_region ?_
 refine s_mv rfl ?_
 refine s_ef (ef_fn (open_spec μ1 q (dl qt B B.length (max n 0) false) hd1 (few_of hw1 om0)) rfl rfl sp0) ?_
 rintro v19 L1 ⟨p, W, μ2, e, hq, rfl, rfl⟩
 have hd3 := open_ok hd1
 have hw3 := open_in hw1
 obtain ⟨d3, e3, ho, hcase⟩ := hcl.openD (q := qt) (fa := max n 0) hlg
 obtain ⟨l2, hWo, hWq, hWd, he, hWp⟩ := hq
 rw [ho] at he hd3 hw3
 rw [ho]
 dsimp only at he hd3 hw3 ⊢
 subst he
 rw [hcl.openS hlg] at hWp
 refine swl_app ?_
 refine s_mv rfl ?_
 first | refine s_pu (pu_extractL rfl) ?_ | refine s_pu (pu_extract rfl rfl) ?_
 first | refine s_pu (pu_extractL rfl) ?_ | refine s_pu (pu_extract rfl rfl) ?_
 refine s_as rfl ?_
 refine s_as rfl ?_
 refine swl_sub _ (sc0 0 rfl (sc0 4 rfl (sc0 7 rfl (sc0 8 rfl .nil)))) ?_
 refine swl_nn ?_
 refine swp_sr ?_
 refine s_mv rfl ?_
 refine s_pu (pu_eql rfl rfl) ?_
 refine s_mv rfl ?_
 refine s_split 24 rfl (fun h24 => ?_) (fun h24 => ?_)
 ·skip
  have h24' : e = 0 := by simpa using h24
  subst h24'
  refine s_on rfl rfl ?_
  refine s_mv rfl ?_
  refine s_on rfl rfl ?_
  refine s_ef (ef_fn (off_spec q d3) rfl rfl sp0) ?_
  rintro v26 L1 ⟨rfl, rfl⟩
  refine swl_app ?_
  refine s_on rfl rfl ?_
  refine s_pu (pu_not rfl) ?_
  first | refine s_pu (pu_pick_t rfl rfl) ?_ | refine s_pu (pu_pick_f rfl rfl) ?_
  refine swl_sub _ (sc0 0 rfl (sc0 4 rfl (sc0 7 rfl (sc0 28 rfl .nil)))) ?_
  refine swl_nn ?_
  refine swp_cond (b := _) rfl (fun h28 => ?_) (fun h28 => by rcases hcase with ⟨fa', rfl, _, _⟩ | ⟨_, h, _⟩ <;> first | cases h28 | cases h)
  obtain ⟨fa', rfl, _, _⟩ : ∃ fa', d3 = dl qt (encL l) (encL l).length fa' false ∧ (0 : Int) = 0 ∧ (max n 0 = 0 → fa' = 0) := by
   rcases hcase with h | ⟨_, h, _⟩
   ·exact h
   ·cases h
  refine swp_sr ?_
  refine s_mv rfl ?_
  refine s_ef (ef_fn (fall_spec q (dl qt (encL l) (encL l).length fa' false) 0) rfl rfl sp0) ?_
  rintro v30 L1 rfl
  refine swl_app ?_
  refine swl_sub _ (sc0 7 rfl .nil) ?_
  refine swl_nn ?_
  refine swp_seq ?_
  rw [show fallD (dl qt (encL l) (encL l).length fa' false) 0 = dl qt (encL l) (encL l).length 0 false from rfl]
  refine swp_region ?_
  refine s_mv rfl ?_
  refine s_as rfl ?_
  refine swl_sub _ (sc0 6 rfl .nil) ?_
  refine swl_nn ?_
  refine swp_ret ?_
  refine then_r ?_
  exact done_ret [FSA q (dl qt (encL l) (encL l).length 0 false), stH p W, ttA W, ccA W, ro μ2] (.tmp rfl .nil) ⟨p, W, μ2, l1.trans l2, ⟨hWo, hWq, hWp rfl, hWd⟩, fallD_ok (n := 0) hd3 (by decide), rfl, rfl⟩ sp0
 ·skip
  have h24' : e ≠ 0 := by simpa using h24
  refine s_off rfl rfl rfl ?_
  refine s_off rfl rfl rfl ?_
  refine s_off rfl rfl rfl ?_
  first | refine s_pu (pu_pick_t rfl rfl) ?_ | refine s_pu (pu_pick_f rfl rfl) ?_
  refine swl_sub _ (sc0 0 rfl (sc0 4 rfl (sc0 7 rfl (sc0 28 rfl .nil)))) ?_
  refine swl_nn ?_
  refine swp_cond (b := _) rfl (fun h28 => by cases h28) (fun h28 => ?_)
  refine swp_skip ?_
  refine then_n ?_
  refine swp_seq ?_
  obtain ⟨B', rfl, hcl'⟩ : ∃ B', d3 = dl qt B' B'.length 0 true ∧ CL l B' := by
   rcases hcase with ⟨_, _, h, _⟩ | ⟨_, _, h⟩
   ·exact absurd h h24'
   ·exact h
  refine swp_region ?_
  refine s_mv rfl ?_
  first | refine s_rd (rd_loadW rfl rfl) ?_ | refine s_rd (rd_loadX rfl rfl rfl) ?_
  refine s_ef (ef_fn (crash_spec μ2 q (dl qt B' B'.length 0 true) hd3 fat (.slice kA keep.length kc) keep (hk.le (l1.trans l2)) (few_of hw3 om0)) rfl rfl sp0) ?_
  rintro v34 L1 ⟨μ3, l3, rfl⟩
  refine swl_app ?_
  refine swl_sub _ (sc0 0 rfl .nil) ?_
  refine swl_nn ?_
  refine swp_seq ?_
  have hd4 := crashD_ok hd3 fat keep
  have hw4 := crashD_in hw3 fat keep
  rw [dl_crash_all] at hd4 hw4
  rw [dl_crash_all]
  refine swp_region ?_
  refine s_mv rfl ?_
  refine s_ef (ef_fn (open_spec μ3 q (dl qt B' B'.length 0 false) hd4 (few_of hw4 om0)) rfl rfl sp0) ?_
  rintro v37 L1 ⟨p2, W2, μ4, e2, hq2, rfl, rfl⟩
  have hd5 := open_ok hd4
  obtain ⟨d5, e5, ho5, hcase5⟩ := hcl'.openD (q := qt) (fa := 0) hlg
  obtain ⟨l4, hWo2, hWq2, hWd2, he2, hWp2⟩ := hq2
  rw [ho5] at he2 hd5
  rw [ho5]
  dsimp only at he2 hd5 ⊢
  subst he2
  rw [hcl'.openS hlg] at hWp2
  obtain ⟨fa5, rfl, h5e, h5f⟩ : ∃ fa', d5 = dl qt (encL l) (encL l).length fa' false ∧ e2 = 0 ∧ ((0 : Int) = 0 → fa' = 0) := by
   rcases hcase5 with h | ⟨h, _⟩
   ·exact h
   ·exact absurd rfl h
  subst h5e
  obtain rfl := h5f rfl
  refine swl_app ?_
  refine s_mv rfl ?_
  first | refine s_pu (pu_extractL rfl) ?_ | refine s_pu (pu_extract rfl rfl) ?_
  first | refine s_pu (pu_extractL rfl) ?_ | refine s_pu (pu_extract rfl rfl) ?_
  refine s_as rfl ?_
  refine s_as rfl ?_
  refine swl_sub _ (sc0 9 rfl .nil) ?_
  refine swl_nn ?_
  refine swp_sr ?_
  refine s_mv rfl ?_
  refine s_as rfl ?_
  refine swl_sub _ (sc0 6 rfl .nil) ?_
  refine swl_nn ?_
  refine swp_ret ?_
  exact done_ret [FSA q (dl qt (encL l) (encL l).length 0 false), stH p2 W2, ttA W2, ccA W2, ro μ4] (.tmp rfl .nil) ⟨p2, W2, μ4, l1.trans (l2.trans (l3.trans l4)), ⟨hWo2, hWq2, hWp2 rfl, hWd2⟩, hd5, rfl, rfl⟩ sp0
end SX
namespace SX
open Go Go.Proofs
/-- tables that are only read, of any length -/
structure SW.Rof (μ : PH) (W : SW) (s : St2) : Prop where
  tt : Row μ W.tv 1 W.T.length (W.T.flatMap tcs)
  ct : Row μ W.cv 2 W.C.length (W.C.flatMap ccs)
  tr : ∀ x ∈ W.T, Row μ x.1 2 x.2.length (ens x.2)
  cr : ∀ x ∈ W.C, Row μ x.1 1 x.2.1.length (x.2.1.flatMap (icsk .i64))
  pl : W.pl = s
  dd : W.dead = false
theorem SW.Rof.le {μ μ' : PH} {W : SW} {s : St2} (h : W.Rof μ s) (k : Le μ μ') : W.Rof μ' s := ⟨h.tt.le k, h.ct.le k, fun x hx => (h.tr x hx).le k, fun x hx => (h.cr x hx).le k, h.pl, h.dd⟩
theorem SW.Rof.ok {μ : PH} {W : SW} {s : St2} (h : W.Rof μ s) (f : Fit s) : W.Rok μ := ⟨h.tt, h.ct, h.tr, h.cr, by have := f.1; rw [← h.pl, pl_len1] at this; exact this, by have := f.2.1; rw [← h.pl, pl_len2] at this; exact this⟩
theorem SW.Rof.small {μ : PH} {W : SW} {s : St2} (h : W.Rof μ s) (f : Fit s) : W.Small := SmallS.w (by rw [h.pl]; exact f.2.2)
theorem Fit.nil : Fit ([], []) := ⟨Nat.zero_le _, Nat.zero_le _, fun t h => (by cases h), fun t h => (by cases h)⟩
theorem dl_within (q : Int) (B : List UInt8) (k : Nat) (fa : Int) (off : Bool) : Within 1 (dl q B k fa off) := ⟨Nat.le_refl 1, Nat.zero_le 1⟩
/-- what stands behind a call that adds -/
def AddedQ (μ : PH) (Q : Int) (q : Nat) (s s' : St2) (y : PSt × Int × Int) (W' : SW) (μ' : PH) : Prop :=
  OpQ Q s s' y ∧ Le μ μ' ∧ W'.Ok μ' ∧ W'.pl = y.1.s ∧ W'.dead = y.1.dead ∧ y.1.d.Ok ∧ Within 2 y.1.d ∧ W'.q = q
theorem AddedQ.le {μ μ' μ'' : PH} {Q : Int} {q : Nat} {s s' : St2} {y : PSt × Int × Int} {W' : SW} (h : AddedQ μ Q q s s' y W' μ') (k : Le μ' μ'') : AddedQ μ Q q s s' y W' μ'' := ⟨h.1, h.2.1.trans k, h.2.2.1.le k, h.2.2.2⟩
theorem addtree_q (μ : PH) (Q : Int) (p q : Nat) (W : SW) (s : St2) (hF : Fresh μ q s W) (l : List Fm) (fa : Int) (hok : (dl Q (encL l) (encL l).length fa false).Ok) (hlg : LogOf s l) (hfit : Fit s) (v : Value) (t : List En) (hv : Row μ v 2 t.length (ens t)) (hu : U32s t) :
    Spec Tryz.prog 12 [pv p, v] [FSA q (dl Q (encL l) (encL l).length fa false), stH p W, ttA W, ccA W, ro μ] (fun r L => ∃ y W' μ', AddedQ μ Q q s (s.1 ++ [t], s.2) y W' μ' ∧ r = .tuple #[.int .i64 y.2.1, .int .i64 y.2.2] ∧ L = [FSA q y.1.d, stH p W', ttA W', ccA W', ro μ']) := by
  obtain ⟨hWo, rfl, rfl, hWd⟩ := hF
  refine Spec.mono (addtree_spec μ p W hWo _ hok v t hv hu) ?_
  rintro r L ⟨W', μ', ⟨l1, h2, h3, h4, h5, rfl⟩, rfl⟩
  have hq := addT_log (q := Q) (fa := fa) hlg hfit t hu
  have ho := addT_ok (x := ⟨dl Q (encL l) (encL l).length fa false, W.pl, false⟩) hok t
  have hw := addT_in (x := ⟨dl Q (encL l) (encL l).length fa false, W.pl, false⟩) (dl_within _ _ _ _ _) t
  rw [hWd] at h4 h5 ⊢
  generalize addT ⟨dl Q (encL l) (encL l).length fa false, W.pl, false⟩ t = y at *
  exact ⟨y, W', μ', ⟨hq, l1, h2, h4, h5, ho, hw.mono om0, h3⟩, rfl, by rw [h3]⟩
theorem addcommit_q (μ : PH) (Q : Int) (p q : Nat) (W : SW) (s : St2) (hF : Fresh μ q s W) (l : List Fm) (fa : Int) (hok : (dl Q (encL l) (encL l).length fa false).Ok) (hlg : LogOf s l) (hfit : Fit s) (v : Value) (c : Cm) (hv : Row μ v 1 c.1.length (c.1.flatMap (icsk .i64))) :
    Spec Tryz.prog 13 [pv p, cmV v c.2] [FSA q (dl Q (encL l) (encL l).length fa false), stH p W, ttA W, ccA W, ro μ] (fun r L => ∃ y W' μ', AddedQ μ Q q s (s.1, s.2 ++ [c]) y W' μ' ∧ r = .tuple #[.int .i64 y.2.1, .int .i64 y.2.2] ∧ L = [FSA q y.1.d, stH p W', ttA W', ccA W', ro μ']) := by
  obtain ⟨hWo, rfl, rfl, hWd⟩ := hF
  refine Spec.mono (addcommit_spec μ p W hWo _ hok v c hv) ?_
  rintro r L ⟨W', μ', ⟨l1, h2, h3, h4, h5, rfl⟩, rfl⟩
  have hq := addC_log (q := Q) (fa := fa) hlg hfit c
  have ho := addC_ok (x := ⟨dl Q (encL l) (encL l).length fa false, W.pl, false⟩) hok c
  have hw := addC_in (x := ⟨dl Q (encL l) (encL l).length fa false, W.pl, false⟩) (dl_within _ _ _ _ _) c
  rw [hWd] at h4 h5 ⊢
  generalize addC ⟨dl Q (encL l) (encL l).length fa false, W.pl, false⟩ c = y at *
  exact ⟨y, W', μ', ⟨hq, l1, h2, h4, h5, ho, hw.mono om0, h3⟩, rfl, by rw [h3]⟩
theorem open_q (μ : PH) (Q : Int) (q : Nat) (s : St2) (l : List Fm) (hok : (dl Q (encL l) (encL l).length 0 false).Ok) (hlg : LogOf s l) :
    Spec Tryz.prog 9 [pv q] [FSA q (dl Q (encL l) (encL l).length 0 false), ro μ] (fun r L => ∃ p W μ', Le μ μ' ∧ Fresh μ' q s W ∧ r = .tuple #[pv p, .int .i64 0] ∧ L = [FSA q (dl Q (encL l) (encL l).length 0 false), stH p W, ttA W, ccA W, ro μ']) := by
  refine Spec.mono (open_spec μ q _ hok (few_of (dl_within _ _ _ _ _) om0)) ?_
  rintro r L ⟨p, W, μ', e, ⟨l4, hWo2, hWq2, hWd2, he2, hWp2⟩, rfl, rfl⟩
  obtain ⟨d5, e5, ho5, hcase5⟩ := (CL.enc hlg).openD (q := Q) (fa := 0) hlg
  rw [ho5] at he2
  rw [ho5]
  dsimp only at he2 ⊢
  subst he2
  rw [(CL.enc hlg).openS hlg] at hWp2
  obtain ⟨fa5, rfl, h5e, h5f⟩ : ∃ fa', d5 = dl Q (encL l) (encL l).length fa' false ∧ e = 0 ∧ ((0 : Int) = 0 → fa' = 0) := by
    rcases hcase5 with h | ⟨h, _⟩
    · exact h
    · exact absurd rfl h
  subst h5e
  obtain rfl := h5f rfl
  exact ⟨p, W, μ', l4, ⟨hWo2, hWq2, hWp2 rfl, hWd2⟩, rfl, rfl⟩
theorem same_q (μ : PH) (dv : Value) (p w : Nat) (Wa Wb : SW) (a b : St2) (hA : Wa.Ok μ) (hp : Wa.pl = a) (ha : Fit a) (hB : Wb.Rof μ b) (hb : Fit b) : Spec Tryz.prog 18 [pv p, pv w] [stH p Wa, ttA Wa, ccA Wa, rnH dv w Wb, ro μ]
    (fun r L => ∃ μ', Le μ μ' ∧ r = .bool (decide (a = b ∧ Wa.dead = false)) ∧ L = [stH p Wa, ttA Wa, ccA Wa, rnH dv w Wb, ro μ']) := by
  refine Spec.mono (lsameN_spec μ dv p w Wa Wb hA (hB.ok hb) (SmallS.w (by rw [hp]; exact ha.2.2)) (hB.small hb)) ?_
  rintro r L ⟨μ', l1, rfl, rfl⟩
  refine ⟨μ', l1, ?_, rfl⟩
  unfold sameW
  rw [hp, hB.pl, hB.dd]
theorem wrap_u8n {n : Nat} (h : n < 256) : IntKind.u8.wrap (n : Int) = n := IntWalk.u8_in _ ⟨by omega, by omega⟩
end SX
namespace SX
open Go Go.Proofs
set_option maxHeartbeats 16000000 in
theorem storerecovers_spec (μ : PH) (v0 : Value) (xs : List OpS) (v1 : Value) (fs : List Int) (fat : Int) (kv : Value) (keep : List Int) (hrow0 : Row μ v0 7 xs.length (xs.flatMap oscs)) (hops : ∀ o ∈ xs, o.Ok μ)
  (hfs : Row μ v1 1 fs.length (fs.flatMap (icsk .u8))) (hfw : ∀ x ∈ fs, 0 ≤ x ∧ x ≤ 255) (hkr : Row μ kv 1 keep.length (keep.flatMap (icsk .i64))) :
  Spec Tryz.prog 4 [v0, v1, .agg #[.int .i64 fat, kv]] [ro μ] (fun r L => r = .bool true ∧ ∃ μ' R, Le μ μ' ∧ L = ro μ' :: R) := by
 obtain ⟨hl0, A, cap, rfl, hlc, hcm, hnil, hpos⟩ := hrow0
 obtain ⟨KK, hKK⟩ : ∃ K, K = min xs.length 100 := ⟨_, rfl⟩
 simp only [maxLen] at hcm
 obtain ⟨kA, kc, rfl⟩ := hkr.sl
 obtain ⟨QQ, hQQ⟩ : ∃ Q : Int, Q = 16777216 := ⟨_, rfl⟩
 have hn0 : (newD 16777216).Ok := newD_ok (by decide)
 have ho0 : (dl 16777216 (encL []) (encL []).length 0 false).Ok := by have := open_ok hn0; rw [lg_open] at this; exact this
 refine Spec.of 183 Tryz.func4 rfl rfl rfl ?_
 refine swp_sr ?_
 refine s_ef (ef_box rfl rfl) ?_
 intro b5
 refine s_as rfl ?_
 refine swl_sub _ (sc0 0 rfl (sc0 1 rfl (sc0 5 rfl .nil))) ?_
 refine swl_nn ?_
 refine swp_seq ?_
 refine swp_sr ?_
 refine s_ef (ef_fn opens_spec rfl rfl sp0) ?_
 rintro v18 L1 ⟨rfl, rfl⟩
 refine swl_app ?_
 refine s_pu (pu_not rfl) ?_
 refine swl_sub _ (sc0 0 rfl (sc0 1 rfl (sc0 5 rfl (sc0 19 rfl .nil)))) ?_
 refine swl_nn ?_
 refine swp_cond (b := _) rfl (fun h19 => by cases h19) (fun h19 => ?_)
 refine swp_skip ?_
 refine then_n ?_
 refine swp_sr ?_
 refine s_ef (ef_fn (new_spec 16777216) rfl rfl sp0) ?_
 rintro v21 L1 hnw
 obtain ⟨q, rfl, rfl⟩ : ∃ q, v21 = .tuple #[pv q, .int .i64 0] ∧ L1 = [FSA q (newD 16777216)] := by
  rcases hnw with ⟨h, _⟩ | ⟨_, q, h1, h2⟩
  ·exact absurd (show newOk 16777216 from ⟨by decide, by decide⟩) h
  ·exact ⟨q, h1, h2⟩
 clear hnw
 refine swl_app ?_
 refine s_mv rfl ?_
 first | refine s_pu (pu_extractL rfl) ?_ | refine s_pu (pu_extract rfl rfl) ?_
 first | refine s_pu (pu_extractL rfl) ?_ | refine s_pu (pu_extract rfl rfl) ?_
 refine s_as rfl ?_
 refine s_as rfl ?_
 refine swl_sub _ (sc0 0 rfl (sc0 1 rfl (sc0 5 rfl (sc0 7 rfl .nil)))) ?_
 refine swl_nn ?_
 refine swp_sr ?_
 refine s_mv rfl ?_
 refine s_ef (ef_fn (open_spec μ q (newD 16777216) hn0 ⟨by decide, by decide⟩) rfl rfl sp0) ?_
 rintro v26 L1 ⟨p0, W0, μ0, e, hq, rfl, rfl⟩
 obtain ⟨l0, hW0, hq0, hd0, he, hpl⟩ := hq
 rw [lg_open] at he
 rw [lg_open]
 dsimp only at he ⊢
 subst he
 have hpl0 : W0.pl = ([], []) := by rw [hpl rfl, lg_openS]
 clear hpl
 refine swl_app ?_
 refine s_mv rfl ?_
 first | refine s_pu (pu_extractL rfl) ?_ | refine s_pu (pu_extract rfl rfl) ?_
 first | refine s_pu (pu_extractL rfl) ?_ | refine s_pu (pu_extract rfl rfl) ?_
 refine s_as rfl ?_
 refine s_as rfl ?_
 refine swl_sub _ (sc0 0 rfl (sc0 1 rfl (sc0 5 rfl (sc0 7 rfl (sc0 9 rfl (sc0 10 rfl .nil)))))) ?_
 refine swl_nn ?_
 refine swp_seq ?_
 refine swp_sr ?_
 refine s_mv rfl ?_
 refine s_pu (pu_ptr_eq_nil rfl rfl) ?_
 refine s_mv rfl ?_
 refine s_split 31 rfl (fun h31 => by cases h31) (fun h31 => ?_)
 refine s_on rfl rfl ?_
 refine s_mv rfl ?_
 refine s_on rfl rfl ?_
 refine s_pu (pu_neq rfl rfl) ?_
 first | refine s_pu (pu_pick_t rfl rfl) ?_ | refine s_pu (pu_pick_f rfl rfl) ?_
 refine swl_sub _ (sc0 0 rfl (sc0 1 rfl (sc0 5 rfl (sc0 7 rfl (sc0 9 rfl (sc0 34 rfl .nil)))))) ?_
 refine swl_nn ?_
 refine swp_cond (b := _) rfl (fun h34 => by cases h34) (fun h34 => ?_)
 refine swp_skip ?_
 refine then_n ?_
 refine swp_sr ?_
 refine s_pu (pu_bld (qs := []) rfl) ?_
 refine s_ef (ef_box rfl rfl) ?_
 intro b36
 refine s_as rfl ?_
 refine swl_sub _ (sc0 0 rfl (sc0 1 rfl (sc0 5 rfl (sc0 7 rfl (sc0 9 rfl (sc0 11 rfl .nil)))))) ?_
 refine swl_nn ?_
 refine swp_seq ?_
 refine swp_sr ?_
 refine s_mv rfl ?_
 refine s_mv rfl ?_
 refine s_pu (pu_len rfl) ?_
 refine s_pu (pu_min2 rfl rfl) ?_
 refine s_pu (pu_slice_hi KK rfl rfl (by rw [hKK]; omega) (by rw [hKK]; omega)) ?_
 refine s_pu (pu_len rfl) ?_
 refine s_mv rfl ?_
 refine swl_sub _ (sc0 1 rfl (sc0 5 rfl (sc0 7 rfl (sc0 9 rfl (sc0 11 rfl (sc0 41 rfl (sc0 42 rfl (sc0 43 rfl .nil)))))))) ?_
 refine swl_nn ?_
 refine swp_block ?_
 rw [show lg 16777216 [] = dl 16777216 (encL []) (encL []).length 0 false from rfl]
 rw [← hQQ]
 rw [← hQQ] at ho0
 clear hn0 h19 h31 h34
 refine swp_loop (ι := Nat) (fun i env L => ∃ (l : List Fm) (fa : Int) (s : St2) (p : Nat) (W : SW) (h : Nat) (μ2 : PH) (A1 : Option Addr) (c1 : Nat) (A2 : Option Addr) (c2 : Nat) (Tb : List (Value × List En)) (Cb : List (Value × Cm)), Sub env [(1, v1), (5, pv b5), (7, pv q), (9, pv p), (11, pv h), (41, .slice A KK cap), (42, .int .i64 (KK : Nat)), (43, .int .i64 (i : Nat))] ∧ Ent L [blk b5 63 [.int .i64 fat, .slice kA keep.length kc], FSA q (dl QQ (encL l) (encL l).length fa false), stH p W, ttA W, ccA W, rnH (.pointer none) h ⟨0, .slice A1 Tb.length c1, .slice A2 Cb.length c2, Tb, Cb, false⟩, ro μ2] ∧ i ≤ KK ∧ Le μ μ2 ∧ (dl QQ (encL l) (encL l).length fa false).Ok ∧ LogOf s l ∧ Fresh μ2 q s W ∧ SW.Rof μ2 ⟨0, .slice A1 Tb.length c1, .slice A2 Cb.length c2, Tb, Cb, false⟩ s ∧ Fit s) (fun i => KK - i) 0 ⟨[], 0, ([], []), p0, W0, b36, μ0, none, 0, none, 0, [], [], ⟨rfl, rfl, rfl, rfl, rfl, rfl, rfl, rfl, trivial⟩, by show Ent _ [blk b5 63 [.int .i64 fat, .slice kA keep.length kc], FSA q (dl QQ (encL []) (encL []).length 0 false), stH p0 W0, ttA W0, ccA W0, blk b36 39 [.pointer none, .slice none 0 0, .slice none 0 0, .bool false], ro μ0]; exact Split.ent' sp0, Nat.zero_le _, l0, ho0, LogOf.nil, ⟨hW0, hq0, hpl0, hd0⟩, ⟨Row.nil _ _, Row.nil _ _, fun x hx => (by cases hx), fun x hx => (by cases hx), rfl, rfl⟩, Fit.nil⟩ ?_
 clear l0 hW0 hq0 hpl0 hd0 ho0
 rintro i env L ⟨l, fa, s, p, W, h, μ2, A1, c1, A2, c2, Tb, Cb, hsub, hE, hi, hle, hok, hlg, hfr, hrb, hfit⟩
 refine swp_sub _ hsub ?_
 refine swp_ent hE ?_
 clear hsub hE env L
 refine swp_sr ?_
 refine s_pu (pu_lss rfl rfl) ?_
 refine swl_sub _ (sc0 1 rfl (sc0 5 rfl (sc0 7 rfl (sc0 9 rfl (sc0 11 rfl (sc0 41 rfl (sc0 42 rfl (sc0 43 rfl (sc0 44 rfl .nil))))))))) ?_
 refine swl_nn ?_
 refine swp_seq ?_
 refine swp_cond (b := _) rfl (fun h44 => ?_) (fun h44 => ?_)
 ·skip
  have h44' : i < KK := by have := of_decide_eq_true h44; omega
  have hix : i < xs.length := by omega
  obtain ⟨b, off, hA, hra⟩ := hpos om0
  subst hA
  obtain ⟨op, hq⟩ : ∃ op, xs[i]? = some op := ⟨_, List.getElem?_eq_getElem hix⟩
  have hel := (hra.elem (f := oscs) (n := 7) (fun _ => rfl) hq).le hle
  have hop := (hops op (List.mem_of_getElem? hq)).le hle
  have hk8 := hop.kd
  have hfs2 := hfs.le hle
  obtain ⟨tA, tc, htv⟩ := hop.tr.sl
  obtain ⟨cA, cc, hcv⟩ := hop.cr.sl
  obtain ⟨kA3, kc3, hkv⟩ := hop.kr.sl
  obtain ⟨kind, tv, t, cv, c, n1, fn, kv3, keep3⟩ := op
  dsimp only at htv hcv hkv hk8
  subst htv hcv hkv
  simp only [oscs] at hel
  refine swp_skip ?_
  refine then_n ?_
  refine swp_seq ?_
  refine swp_block ?_
  refine swp_sr ?_
  refine s_mv rfl ?_
  refine s_pu (pu_indexAddr (off + i * 7) rfl rfl om0 om0 (by rw [Int.toNat_natCast])) ?_
  refine s_rd (rd_roA rfl rfl hel) ?_
  refine s_ef (ef_alloc) ?_
  intro b13
  refine s_as rfl ?_
  refine s_ef0 (ef_storeA rfl rfl rfl rfl) ?_
  refine swl_sub _ (sc0 1 rfl (sc0 5 rfl (sc0 7 rfl (sc0 9 rfl (sc0 11 rfl (sc0 12 rfl (sc0 13 rfl (sc0 41 rfl (sc0 42 rfl (sc0 43 rfl .nil)))))))))) ?_
  refine swl_nn ?_
  refine swp_cut (fun env L => ∃ fa, (dl QQ (encL l) (encL l).length fa false).Ok ∧ Sub env [(1, v1), (5, pv b5), (7, pv q), (9, pv p), (11, pv h), (13, pv b13), (41, .slice (some ⟨b, off, none⟩) KK cap), (42, .int .i64 (KK : Nat)), (43, .int .i64 (i : Nat))] ∧ Ent L [blk b13 65 [.int .u8 (kind : Nat), .slice tA t.length tc, .slice cA c.1.length cc, .int .i64 c.2, .int .i64 n1, .int .i64 fn, .slice kA3 keep3.length kc3], blk b5 63 [.int .i64 fat, .slice kA keep.length kc], FSA q (dl QQ (encL l) (encL l).length fa false), stH p W, ttA W, ccA W, rnH (.pointer none) h ⟨0, .slice A1 Tb.length c1, .slice A2 Cb.length c2, Tb, Cb, false⟩, ro μ2]) ?_ ?_
  ·skip
   refine swp_sr ?_
   refine s_mv rfl ?_
   refine s_mv rfl ?_
   refine s_pu (pu_len_row hfs2 rfl) ?_
   refine s_pu (pu_lss rfl rfl) ?_
   refine swl_sub _ (sc0 1 rfl (sc0 5 rfl (sc0 7 rfl (sc0 9 rfl (sc0 11 rfl (sc0 12 rfl (sc0 13 rfl (sc0 41 rfl (sc0 42 rfl (sc0 43 rfl (sc0 51 rfl .nil))))))))))) ?_
   refine swl_nn ?_
   refine swp_cond (b := _) rfl (fun h51 => ?_) (fun h51 => ?_)
   ·skip
    have h51' : i < fs.length := by have := of_decide_eq_true h51; omega
    obtain ⟨x, hx⟩ : ∃ x, fs[i]? = some x := ⟨_, List.getElem?_eq_getElem h51'⟩
    obtain ⟨fb, fo, fc, hfv, hfx⟩ := Row.atk hfs2 hx
    have hxb := hfw x (List.mem_of_getElem? hx)
    refine swp_region ?_
    refine s_mv rfl ?_
    refine s_mv rfl ?_
    refine s_mv rfl ?_
    refine s_pu (pu_indexAddr (fo + i * 1) (congrArg some hfv) rfl om0 om0 (by rw [Int.toNat_natCast])) ?_
    refine s_rd (rd_ro rfl hfx) ?_
    refine s_pu (pu_conv_i64 rfl om0 om0) ?_
    refine s_ef (ef_fn (fall_spec q (dl QQ (encL l) (encL l).length fa false) x) rfl rfl sp0) ?_
    rintro v58 L1 rfl
    refine swl_app ?_
    refine swl_sub _ (sc0 1 rfl (sc0 5 rfl (sc0 7 rfl (sc0 9 rfl (sc0 11 rfl (sc0 13 rfl (sc0 41 rfl (sc0 42 rfl (sc0 43 rfl .nil))))))))) ?_
    refine swl_nil ?_
    exact then_n ⟨max x 0, fallD_ok (n := x) hok om0, ⟨rfl, rfl, rfl, rfl, rfl, rfl, rfl, rfl, rfl, trivial⟩, Split.ent' (K := [blk b13 65 [.int .u8 (kind : Nat), .slice tA t.length tc, .slice cA c.1.length cc, .int .i64 c.2, .int .i64 n1, .int .i64 fn, .slice kA3 keep3.length kc3], blk b5 63 [.int .i64 fat, .slice kA keep.length kc], FSA q (fallD (dl QQ (encL l) (encL l).length fa false) x), stH p W, ttA W, ccA W, rnH (.pointer none) h ⟨0, .slice A1 Tb.length c1, .slice A2 Cb.length c2, Tb, Cb, false⟩, ro μ2]) sp0⟩
   ·skip
    refine swp_skip ?_
    exact then_n ⟨fa, hok, ⟨rfl, rfl, rfl, rfl, rfl, rfl, rfl, rfl, rfl, trivial⟩, Split.ent' sp0⟩
  clear hok fa
  rintro env L ⟨fa, hok, hsub, hE⟩
  refine swp_sub _ hsub ?_
  refine swp_ent hE ?_
  clear hsub hE env L
  refine swp_seq ?_
  refine swp_draw [3, 7] ([rnH (.pointer none) h ⟨0, .slice A1 Tb.length c1, .slice A2 Cb.length c2, Tb, Cb, false⟩]) ([blk b13 65 [.int .u8 (kind : Nat), .slice tA t.length tc, .slice cA c.1.length cc, .int .i64 c.2, .int .i64 n1, .int .i64 fn, .slice kA3 keep3.length kc3], blk b5 63 [.int .i64 fat, .slice kA keep.length kc], FSA q (dl QQ (encL l) (encL l).length fa false), stH p W, ttA W, ccA W, ro μ2]) (Split.ent sp0) kr0 ?_
  refine d_pu 0 rfl (pu_move rfl) kr0 kr0 kr0 ?_
  first | refine d_pu 1 rfl (pu_nilCheck rfl) kr0 kr0 kr0 ?_ | refine d_pu 1 rfl (pu_nilCheck_fn rfl) kr0 kr0 kr0 ?_ | refine d_pu 1 rfl (pu_nilCheck_if rfl) kr0 kr0 kr0 ?_
  first | refine d_pu 2 rfl (pu_fieldAddr0 rfl) kr0 kr0 kr0 ?_ | refine d_pu 2 rfl (pu_fieldAddr rfl) kr0 kr0 kr0 ?_
  refine d_rd 3 rfl (rd_load rfl rfl) rfl kr0 kr0 kr0 ?_
  refine d_pu 4 rfl (pu_move rfl) kr0 kr0 kr0 ?_
  first | refine d_pu 5 rfl (pu_nilCheck rfl) kr0 kr0 kr0 ?_ | refine d_pu 5 rfl (pu_nilCheck_fn rfl) kr0 kr0 kr0 ?_ | refine d_pu 5 rfl (pu_nilCheck_if rfl) kr0 kr0 kr0 ?_
  first | refine d_pu 6 rfl (pu_fieldAddr0 rfl) kr0 kr0 kr0 ?_ | refine d_pu 6 rfl (pu_fieldAddr rfl) kr0 kr0 kr0 ?_
  refine d_rd 7 rfl (rd_load rfl rfl) rfl kr0 kr0 kr0 ?_
  refine d_pu 8 rfl (pu_bld (qs := [(1, _), (2, _)]) rfl) kr0 kr0 kr0 ?_
  first | refine d_fint 9 rfl kr0 kr0 (ef_box rfl rfl) ?_ | refine d_finf 9 rfl kr0 kr0 (ef_box rfl rfl) ?_
  intro b68
  refine d_pu 10 rfl (pu_assign rfl) kr0 kr0 kr0 ?_
  refine d_sub _ (sc0 1 rfl (sc0 5 rfl (sc0 7 rfl (sc0 9 rfl (sc0 11 rfl (sc0 13 rfl (sc0 14 rfl (sc0 41 rfl (sc0 42 rfl (sc0 43 rfl .nil)))))))))) ?_
  first | refine d_nilt kr0 ?_ | refine d_nilf kr0 ?_
  refine then_n ?_
  refine swp_sr ?_
  refine s_ef (ef_alloc) ?_
  intro b15
  refine swl_sub _ (sc0 1 rfl (sc0 5 rfl (sc0 7 rfl (sc0 9 rfl (sc0 11 rfl (sc0 13 rfl (sc0 14 rfl (sc0 15 rfl (sc0 41 rfl (sc0 42 rfl (sc0 43 rfl .nil))))))))))) ?_
  refine swl_nn ?_
  refine swp_seq ?_
  refine swp_draw [3, 7] ([rnH (.pointer none) h ⟨0, .slice A1 Tb.length c1, .slice A2 Cb.length c2, Tb, Cb, false⟩]) ([blk b15 39 [.pointer none, .slice none 0 0, .slice none 0 0, .bool false], rnH (.pointer none) b68 ⟨0, .slice A1 Tb.length c1, .slice A2 Cb.length c2, Tb, Cb, false⟩, blk b13 65 [.int .u8 (kind : Nat), .slice tA t.length tc, .slice cA c.1.length cc, .int .i64 c.2, .int .i64 n1, .int .i64 fn, .slice kA3 keep3.length kc3], blk b5 63 [.int .i64 fat, .slice kA keep.length kc], FSA q (dl QQ (encL l) (encL l).length fa false), stH p W, ttA W, ccA W, ro μ2]) (Split.ent sp0) kr0 ?_
  refine d_pu 0 rfl (pu_move rfl) kr0 kr0 kr0 ?_
  first | refine d_pu 1 rfl (pu_nilCheck rfl) kr0 kr0 kr0 ?_ | refine d_pu 1 rfl (pu_nilCheck_fn rfl) kr0 kr0 kr0 ?_ | refine d_pu 1 rfl (pu_nilCheck_if rfl) kr0 kr0 kr0 ?_
  first | refine d_pu 2 rfl (pu_fieldAddr0 rfl) kr0 kr0 kr0 ?_ | refine d_pu 2 rfl (pu_fieldAddr rfl) kr0 kr0 kr0 ?_
  refine d_rd 3 rfl (rd_load rfl rfl) rfl kr0 kr0 kr0 ?_
  refine d_pu 4 rfl (pu_move rfl) kr0 kr0 kr0 ?_
  first | refine d_pu 5 rfl (pu_nilCheck rfl) kr0 kr0 kr0 ?_ | refine d_pu 5 rfl (pu_nilCheck_fn rfl) kr0 kr0 kr0 ?_ | refine d_pu 5 rfl (pu_nilCheck_if rfl) kr0 kr0 kr0 ?_
  first | refine d_pu 6 rfl (pu_fieldAddr0 rfl) kr0 kr0 kr0 ?_ | refine d_pu 6 rfl (pu_fieldAddr rfl) kr0 kr0 kr0 ?_
  refine d_rd 7 rfl (rd_load rfl rfl) rfl kr0 kr0 kr0 ?_
  first | refine d_pu 8 rfl (pu_fieldAddr0 rfl) kr0 kr0 kr0 ?_ | refine d_pu 8 rfl (pu_fieldAddr rfl) kr0 kr0 kr0 ?_
  first | refine d_fin0t 9 rfl kr0 kr0 (ef_store rfl rfl rfl) ?_ | refine d_fin0f 9 rfl kr0 kr0 (ef_store rfl rfl rfl) ?_
  first | refine d_pu 10 rfl (pu_fieldAddr0 rfl) kr0 kr0 kr0 ?_ | refine d_pu 10 rfl (pu_fieldAddr rfl) kr0 kr0 kr0 ?_
  first | refine d_fin0t 11 rfl kr0 kr0 (ef_store rfl rfl rfl) ?_ | refine d_fin0f 11 rfl kr0 kr0 (ef_store rfl rfl rfl) ?_
  refine d_sub _ (sc0 1 rfl (sc0 5 rfl (sc0 7 rfl (sc0 9 rfl (sc0 11 rfl (sc0 13 rfl (sc0 14 rfl (sc0 15 rfl (sc0 41 rfl (sc0 42 rfl (sc0 43 rfl .nil))))))))))) ?_
  first | refine d_nilt kr0 ?_ | refine d_nilf kr0 ?_
  refine then_n ?_
  refine swp_sr ?_
  refine s_as rfl ?_
  refine swl_sub _ (sc0 1 rfl (sc0 5 rfl (sc0 7 rfl (sc0 9 rfl (sc0 11 rfl (sc0 13 rfl (sc0 14 rfl (sc0 15 rfl (sc0 41 rfl (sc0 42 rfl (sc0 43 rfl .nil))))))))))) ?_
  refine swl_nn ?_
  refine swp_cut (fun env L => ∃ (s' : St2) (y : PSt × Int × Int) (W' : SW) (μ3 : PH) (tu cu : Value) (Tu : List (Value × List En)) (Cu : List (Value × Cm)), AddedQ μ2 QQ q s s' y W' μ3 ∧ SW.Rof μ3 ⟨0, tu, cu, Tu, Cu, false⟩ s' ∧ Sub env [(1, v1), (5, pv b5), (7, pv q), (9, pv p), (11, pv h), (13, pv b13), (14, pv b68), (15, pv b15), (16, .int .i64 y.2.2), (41, .slice (some ⟨b, off, none⟩) KK cap), (42, .int .i64 (KK : Nat)), (43, .int .i64 (i : Nat))] ∧ Ent L [blk b13 65 [.int .u8 (kind : Nat), .slice tA t.length tc, .slice cA c.1.length cc, .int .i64 c.2, .int .i64 n1, .int .i64 fn, .slice kA3 keep3.length kc3], blk b5 63 [.int .i64 fat, .slice kA keep.length kc], FSA q y.1.d, stH p W', ttA W', ccA W', rnH (.pointer none) h ⟨0, .slice A1 Tb.length c1, .slice A2 Cb.length c2, Tb, Cb, false⟩, rnH (.pointer none) b68 ⟨0, .slice A1 Tb.length c1, .slice A2 Cb.length c2, Tb, Cb, false⟩, rnH (.pointer none) b15 ⟨0, tu, cu, Tu, Cu, false⟩, ro μ3]) ?_ ?_
  ·skip
   have hlT : Tb.length ≤ c1 := by obtain ⟨_, _, _, he, hh, _⟩ := hrb.tt; cases he; exact hh
   have hlC : Cb.length ≤ c2 := by obtain ⟨_, _, _, he, hh, _⟩ := hrb.ct; cases he; exact hh
   have hfT : Tb.length ≤ 65536 := by have := hfit.1; rw [← hrb.pl, pl_len1] at this; exact this
   have hfC : Cb.length ≤ 65536 := by have := hfit.2.1; rw [← hrb.pl, pl_len2] at this; exact this
   refine swp_sr ?_
   first | refine s_pu (pu_fieldAddr0 rfl) ?_ | refine s_pu (pu_fieldAddr rfl) ?_
   refine s_rd (rd_load rfl rfl) ?_
   refine s_pu (pu_rem_nat (a := kind) (b := 2) rfl rfl (by decide)) ?_
   refine s_pu (pu_eql rfl rfl) ?_
   refine swl_sub _ (sc0 1 rfl (sc0 5 rfl (sc0 7 rfl (sc0 9 rfl (sc0 11 rfl (sc0 13 rfl (sc0 14 rfl (sc0 15 rfl (sc0 41 rfl (sc0 42 rfl (sc0 43 rfl (sc0 82 rfl .nil)))))))))))) ?_
   refine swl_nn ?_
   refine swp_cond (b := _) rfl (fun h82 => ?_) (fun h82 => ?_)
   ·skip
    refine swp_sr ?_
    refine s_mv rfl ?_
    first | refine s_pu (pu_fieldAddr0 rfl) ?_ | refine s_pu (pu_fieldAddr rfl) ?_
    refine s_rd (rd_load rfl rfl) ?_
    refine s_ef (ef_fn (addtree_q μ2 QQ p q W s hfr l fa hok hlg hfit (.slice tA t.length tc) t hop.tr hop.tu) rfl rfl sp0) ?_
    rintro v87 L1 ⟨y, W', μ3, hadd, rfl, rfl⟩
    refine swl_app ?_
    refine s_mv rfl ?_
    first | refine s_pu (pu_extractL rfl) ?_ | refine s_pu (pu_extract rfl rfl) ?_
    first | refine s_pu (pu_extractL rfl) ?_ | refine s_pu (pu_extract rfl rfl) ?_
    refine s_as rfl ?_
    refine swl_sub _ (sc0 1 rfl (sc0 5 rfl (sc0 7 rfl (sc0 9 rfl (sc0 11 rfl (sc0 13 rfl (sc0 14 rfl (sc0 15 rfl (sc0 16 rfl (sc0 41 rfl (sc0 42 rfl (sc0 43 rfl .nil)))))))))))) ?_
    refine swl_nn ?_
    refine swp_draw [1, 3, 6, 10] ([blk b15 39 [.pointer none, .slice A1 Tb.length c1, .slice A2 Cb.length c2, .bool false], blk b13 65 [.int .u8 (kind : Nat), .slice tA t.length tc, .slice cA c.1.length cc, .int .i64 c.2, .int .i64 n1, .int .i64 fn, .slice kA3 keep3.length kc3]]) ([FSA q y.1.d, stH p W', ttA W', ccA W', ro μ3, rnH (.pointer none) h ⟨0, .slice A1 Tb.length c1, .slice A2 Cb.length c2, Tb, Cb, false⟩, rnH (.pointer none) b68 ⟨0, .slice A1 Tb.length c1, .slice A2 Cb.length c2, Tb, Cb, false⟩, blk b5 63 [.int .i64 fat, .slice kA keep.length kc]]) (Split.ent sp0) kr0 ?_
    first | refine d_pu 0 rfl (pu_fieldAddr0 rfl) kr0 kr0 kr0 ?_ | refine d_pu 0 rfl (pu_fieldAddr rfl) kr0 kr0 kr0 ?_
    refine d_rd 1 rfl (rd_load rfl rfl) rfl kr0 kr0 kr0 ?_
    first | refine d_pu 2 rfl (pu_fieldAddr0 rfl) kr0 kr0 kr0 ?_ | refine d_pu 2 rfl (pu_fieldAddr rfl) kr0 kr0 kr0 ?_
    refine d_rd 3 rfl (rd_load rfl rfl) rfl kr0 kr0 kr0 ?_
    refine d_pu 4 rfl (pu_len rfl) kr0 kr0 kr0 ?_
    first | refine d_pu 5 rfl (pu_fieldAddr0 rfl) kr0 kr0 kr0 ?_ | refine d_pu 5 rfl (pu_fieldAddr rfl) kr0 kr0 kr0 ?_
    refine d_rd 6 rfl (rd_load rfl rfl) rfl kr0 kr0 kr0 ?_
    refine d_pu 7 rfl (pu_len rfl) kr0 kr0 kr0 ?_
    refine d_pu 8 rfl (pu_slice3 Tb.length Tb.length rfl rfl rfl rfl rfl (Nat.le_refl _) hlT) kr0 kr0 kr0 ?_
    first | refine d_pu 9 rfl (pu_fieldAddr0 rfl) kr0 kr0 kr0 ?_ | refine d_pu 9 rfl (pu_fieldAddr rfl) kr0 kr0 kr0 ?_
    refine d_rd 10 rfl (rd_load rfl rfl) rfl kr0 kr0 kr0 ?_
    refine d_eft 11 rfl kr0 (ef_bldS (qs := [(0, _)]) rfl rfl rfl) ?_
    intro b101
    refine ⟨_, Split.ent sp0, ?_⟩
    first | refine d_fint 12 rfl kr0 kr0 (ef_append_full_lit (l := Tb.length) (m := 1) rfl (Row.full (hrb.tt.le hadd.2.1)) rfl rfl sp0 (Nat.le_refl _) (by decide) (by simp only [maxLen]; omega) om0) ?_ | refine d_finf 12 rfl kr0 kr0 (ef_append_full_lit (l := Tb.length) (m := 1) rfl (Row.full (hrb.tt.le hadd.2.1)) rfl rfl sp0 (Nat.le_refl _) (by decide) (by simp only [maxLen]; omega) om0) ?_
    rintro v102 μ4 l4 r4
    obtain ⟨A5, c5, rfl⟩ := r4.sl
    first | refine d_pu 13 rfl (pu_fieldAddr0 rfl) kr0 kr0 kr0 ?_ | refine d_pu 13 rfl (pu_fieldAddr rfl) kr0 kr0 kr0 ?_
    first | refine d_fin0t 14 rfl kr0 kr0 (ef_store rfl rfl rfl) ?_ | refine d_fin0f 14 rfl kr0 kr0 (ef_store rfl rfl rfl) ?_
    refine d_sub _ (sc0 1 rfl (sc0 5 rfl (sc0 7 rfl (sc0 9 rfl (sc0 11 rfl (sc0 13 rfl (sc0 14 rfl (sc0 15 rfl (sc0 16 rfl (sc0 41 rfl (sc0 42 rfl (sc0 43 rfl .nil)))))))))))) ?_
    first | refine d_nilt kr0 ?_ | refine d_nilf kr0 ?_
    refine then_n ⟨(s.1 ++ [t], s.2), y, W', μ4, .slice A5 (Tb.length + 1) c5, .slice A2 Cb.length c2, Tb ++ [(.slice tA t.length tc, t)], Cb, hadd.le l4, ⟨?_, hrb.ct.le (hadd.2.1.trans l4), fun x hx => ?_, fun x hx => (hrb.cr x hx).le (hadd.2.1.trans l4), ?_, rfl⟩, ⟨rfl, rfl, rfl, rfl, rfl, rfl, rfl, rfl, rfl, rfl, rfl, rfl, trivial⟩, Split.ent' sp0⟩
    ·show Row μ4 (.slice A5 (Tb.length + 1) c5) 1 (Tb ++ [((.slice tA t.length tc : Value), t)]).length ((Tb ++ [((.slice tA t.length tc : Value), t)]).flatMap tcs)
     rw [List.length_append, List.length_singleton, List.flatMap_append]
     exact r4
    ·rcases List.mem_append.1 hx with hx | hx
     ·exact (hrb.tr x hx).le (hadd.2.1.trans l4)
     ·obtain rfl : x = (.slice tA t.length tc, t) := by simpa using hx
      exact hop.tr.le (hadd.2.1.trans l4)
    ·have := hrb.pl
     unfold SW.pl at this ⊢
     subst this
     dsimp only
     rw [List.map_append]; rfl
   ·skip
    refine swp_sr ?_
    refine s_mv rfl ?_
    first | refine s_pu (pu_fieldAddr0 rfl) ?_ | refine s_pu (pu_fieldAddr rfl) ?_
    first | refine s_rd (rd_loadW rfl rfl) ?_ | refine s_rd (rd_loadX rfl rfl rfl) ?_
    refine s_ef (ef_fn (addcommit_q μ2 QQ p q W s hfr l fa hok hlg hfit (.slice cA c.1.length cc) c hop.cr) rfl rfl sp0) ?_
    rintro v108 L1 ⟨y, W', μ3, hadd, rfl, rfl⟩
    refine swl_app ?_
    refine s_mv rfl ?_
    first | refine s_pu (pu_extractL rfl) ?_ | refine s_pu (pu_extract rfl rfl) ?_
    first | refine s_pu (pu_extractL rfl) ?_ | refine s_pu (pu_extract rfl rfl) ?_
    refine s_as rfl ?_
    refine swl_sub _ (sc0 1 rfl (sc0 5 rfl (sc0 7 rfl (sc0 9 rfl (sc0 11 rfl (sc0 13 rfl (sc0 14 rfl (sc0 15 rfl (sc0 16 rfl (sc0 41 rfl (sc0 42 rfl (sc0 43 rfl .nil)))))))))))) ?_
    refine swl_nn ?_
    refine swp_draw [1, 3, 6, 10] ([blk b15 39 [.pointer none, .slice A1 Tb.length c1, .slice A2 Cb.length c2, .bool false], blk b13 65 [.int .u8 (kind : Nat), .slice tA t.length tc, .slice cA c.1.length cc, .int .i64 c.2, .int .i64 n1, .int .i64 fn, .slice kA3 keep3.length kc3]]) ([FSA q y.1.d, stH p W', ttA W', ccA W', ro μ3, rnH (.pointer none) h ⟨0, .slice A1 Tb.length c1, .slice A2 Cb.length c2, Tb, Cb, false⟩, rnH (.pointer none) b68 ⟨0, .slice A1 Tb.length c1, .slice A2 Cb.length c2, Tb, Cb, false⟩, blk b5 63 [.int .i64 fat, .slice kA keep.length kc]]) (Split.ent sp0) kr0 ?_
    first | refine d_pu 0 rfl (pu_fieldAddr0 rfl) kr0 kr0 kr0 ?_ | refine d_pu 0 rfl (pu_fieldAddr rfl) kr0 kr0 kr0 ?_
    refine d_rd 1 rfl (rd_load rfl rfl) rfl kr0 kr0 kr0 ?_
    first | refine d_pu 2 rfl (pu_fieldAddr0 rfl) kr0 kr0 kr0 ?_ | refine d_pu 2 rfl (pu_fieldAddr rfl) kr0 kr0 kr0 ?_
    refine d_rd 3 rfl (rd_load rfl rfl) rfl kr0 kr0 kr0 ?_
    refine d_pu 4 rfl (pu_len rfl) kr0 kr0 kr0 ?_
    first | refine d_pu 5 rfl (pu_fieldAddr0 rfl) kr0 kr0 kr0 ?_ | refine d_pu 5 rfl (pu_fieldAddr rfl) kr0 kr0 kr0 ?_
    refine d_rd 6 rfl (rd_load rfl rfl) rfl kr0 kr0 kr0 ?_
    refine d_pu 7 rfl (pu_len rfl) kr0 kr0 kr0 ?_
    refine d_pu 8 rfl (pu_slice3 Cb.length Cb.length rfl rfl rfl rfl rfl (Nat.le_refl _) hlC) kr0 kr0 kr0 ?_
    first | refine d_pu 9 rfl (pu_fieldAddr0 rfl) kr0 kr0 kr0 ?_ | refine d_pu 9 rfl (pu_fieldAddr rfl) kr0 kr0 kr0 ?_
    refine d_rd 10 rfl (rd_loadA (vs := [.slice cA c.1.length cc, .int .i64 c.2]) rfl rfl (fun j v h => by match j, h with | 0, h => exact h | 1, h => exact h)) rfl kr0 kr0 kr0 ?_
    refine d_eft 11 rfl kr0 (ef_bldS (qs := [(0, _)]) rfl rfl rfl) ?_
    intro b122
    refine ⟨_, Split.ent sp0, ?_⟩
    first | refine d_fint 12 rfl kr0 kr0 (ef_append_full_lit (l := Cb.length) (m := 1) rfl (Row.full (hrb.ct.le hadd.2.1)) rfl rfl sp0 (Nat.le_refl _) (by decide) (by simp only [maxLen]; omega) om0) ?_ | refine d_finf 12 rfl kr0 kr0 (ef_append_full_lit (l := Cb.length) (m := 1) rfl (Row.full (hrb.ct.le hadd.2.1)) rfl rfl sp0 (Nat.le_refl _) (by decide) (by simp only [maxLen]; omega) om0) ?_
    rintro v123 μ4 l4 r4
    obtain ⟨A5, c5, rfl⟩ := r4.sl
    first | refine d_pu 13 rfl (pu_fieldAddr0 rfl) kr0 kr0 kr0 ?_ | refine d_pu 13 rfl (pu_fieldAddr rfl) kr0 kr0 kr0 ?_
    first | refine d_fin0t 14 rfl kr0 kr0 (ef_store rfl rfl rfl) ?_ | refine d_fin0f 14 rfl kr0 kr0 (ef_store rfl rfl rfl) ?_
    refine d_sub _ (sc0 1 rfl (sc0 5 rfl (sc0 7 rfl (sc0 9 rfl (sc0 11 rfl (sc0 13 rfl (sc0 14 rfl (sc0 15 rfl (sc0 16 rfl (sc0 41 rfl (sc0 42 rfl (sc0 43 rfl .nil)))))))))))) ?_
    first | refine d_nilt kr0 ?_ | refine d_nilf kr0 ?_
    refine then_n ⟨(s.1, s.2 ++ [c]), y, W', μ4, .slice A1 Tb.length c1, .slice A5 (Cb.length + 1) c5, Tb, Cb ++ [(.slice cA c.1.length cc, c)], hadd.le l4, ⟨hrb.tt.le (hadd.2.1.trans l4), ?_, fun x hx => (hrb.tr x hx).le (hadd.2.1.trans l4), fun x hx => ?_, ?_, rfl⟩, ⟨rfl, rfl, rfl, rfl, rfl, rfl, rfl, rfl, rfl, rfl, rfl, rfl, trivial⟩, Split.ent' sp0⟩
    ·show Row μ4 (.slice A5 (Cb.length + 1) c5) 2 (Cb ++ [((.slice cA c.1.length cc : Value), c)]).length ((Cb ++ [((.slice cA c.1.length cc : Value), c)]).flatMap ccs)
     rw [List.length_append, List.length_singleton, List.flatMap_append]
     exact r4
    ·rcases List.mem_append.1 hx with hx | hx
     ·exact (hrb.cr x hx).le (hadd.2.1.trans l4)
     ·obtain rfl : x = (.slice cA c.1.length cc, c) := by simpa using hx
      exact hop.cr.le (hadd.2.1.trans l4)
    ·have := hrb.pl
     unfold SW.pl at this ⊢
     subst this
     dsimp only
     rw [List.map_append]; rfl
  clear hok hlg hfr
  rintro env L ⟨s', ⟨⟨dy, sy, deady⟩, ny, ey⟩, W', μ3, tu, cu, Tu, Cu, ⟨hopq, l3, hWo3, hWp3, hWd3, hyo, hyw, hWq3⟩, hru, hsub, hE⟩
  dsimp only at hWp3 hWd3 hyo hyw hsub hE
  obtain ⟨A5, c5, rfl⟩ : ∃ A5 c5, tu = .slice A5 Tu.length c5 := hru.tt.sl
  obtain ⟨A6, c6, rfl⟩ : ∃ A5 c5, cu = .slice A5 Cu.length c5 := hru.ct.sl
  refine swp_sub _ hsub ?_
  refine swp_ent hE ?_
  clear hsub hE env L
  refine swp_seq ?_
  refine swp_sr ?_
  refine s_mv rfl ?_
  refine s_pu (pu_eql rfl rfl) ?_
  refine swl_sub _ (sc0 1 rfl (sc0 5 rfl (sc0 7 rfl (sc0 9 rfl (sc0 11 rfl (sc0 13 rfl (sc0 14 rfl (sc0 15 rfl (sc0 16 rfl (sc0 41 rfl (sc0 42 rfl (sc0 43 rfl (sc0 126 rfl .nil))))))))))))) ?_
  refine swl_nn ?_
  refine swp_cond (b := _) rfl (fun h126 => ?_) (fun h126 => ?_)
  ·skip
   have e0 : ey = 0 := of_decide_eq_true h126
   subst e0
   obtain ⟨l', fa', rfl, rfl, hlg', rfl, hfit'⟩ : ∃ l' fa', dy = dl QQ (encL l') (encL l').length fa' false ∧ deady = false ∧ LogOf sy l' ∧ s' = sy ∧ Fit s' := by
    rcases hopq with ⟨l', fa', h1, h2, h3, h4⟩ | ⟨h1, _⟩
    ·rcases h4 with ⟨_, h5, h6⟩ | ⟨h5, _⟩
     ·exact ⟨l', fa', h1, h2, h3, h5.symm, h6⟩
     ·exact absurd rfl h5
    ·cases h1
   refine swp_region ?_
   refine s_as rfl ?_
   refine swl_sub _ (sc0 1 rfl (sc0 5 rfl (sc0 7 rfl (sc0 9 rfl (sc0 11 rfl (sc0 13 rfl (sc0 14 rfl (sc0 15 rfl (sc0 16 rfl (sc0 41 rfl (sc0 42 rfl (sc0 43 rfl .nil)))))))))))) ?_
   refine swl_nn ?_
   refine swp_seq ?_
   refine swp_sr ?_
   refine s_mv rfl ?_
   refine s_ef (ef_fn (off_spec q (dl QQ (encL l') (encL l').length fa' false)) rfl rfl sp0) ?_
   rintro v128 L1 ⟨rfl, rfl⟩
   refine swl_app ?_
   refine s_pu (pu_not rfl) ?_
   refine swl_sub _ (sc0 1 rfl (sc0 5 rfl (sc0 7 rfl (sc0 9 rfl (sc0 11 rfl (sc0 13 rfl (sc0 14 rfl (sc0 15 rfl (sc0 16 rfl (sc0 41 rfl (sc0 42 rfl (sc0 43 rfl (sc0 129 rfl .nil))))))))))))) ?_
   refine swl_nn ?_
   refine swp_cond (b := _) rfl (fun h129 => ?_) (fun h129 => by cases h129)
   refine swp_seq ?_
   refine swp_sr ?_
   refine s_mv rfl ?_
   refine s_mv rfl ?_
   refine s_ef (ef_fn (same_q μ3 (.pointer none) p b15 W' ⟨0, .slice A5 Tu.length c5, .slice A6 Cu.length c6, Tu, Cu, false⟩ s' s' hWo3 hWp3 hfit' hru hfit') rfl rfl sp0) ?_
   rintro v132 L1 ⟨μ4, l4, rfl, rfl⟩
   refine swl_app ?_
   refine s_pu (pu_not rfl) ?_
   refine swl_sub _ (sc0 1 rfl (sc0 5 rfl (sc0 7 rfl (sc0 9 rfl (sc0 11 rfl (sc0 41 rfl (sc0 42 rfl (sc0 43 rfl (sc0 133 rfl .nil))))))))) ?_
   refine swl_nn ?_
   refine swp_cond (b := _) rfl (fun h133 => by rw [decide_eq_true (⟨rfl, hWd3⟩ : s' = s' ∧ W'.dead = false)] at h133; cases h133) (fun h133 => ?_)
   refine swp_skip ?_
   refine then_n ?_
   refine swp_exit ?_
   refine then_x ?_
   refine block_hit rfl ?_
   refine then_n ?_
   refine swp_region ?_
   refine s_pu (pu_add_as ((i + 1 : Nat) : Int) rfl rfl om0 om0 om0) ?_
   refine s_mv rfl ?_
   refine swl_sub _ (sc0 1 rfl (sc0 5 rfl (sc0 7 rfl (sc0 9 rfl (sc0 11 rfl (sc0 41 rfl (sc0 42 rfl (sc0 43 rfl .nil)))))))) ?_
   refine swl_nil ?_
   exact then_n ⟨i + 1, ⟨l', fa', s', p, W', b15, μ4, A5, c5, A6, c6, Tu, Cu, ⟨rfl, rfl, rfl, rfl, rfl, rfl, rfl, rfl, trivial⟩, Split.ent' sp0, h44', hle.trans (l3.trans l4), hyo, hlg', ⟨hWo3.le l4, hWq3, hWp3, hWd3⟩, hru.le l4, hfit'⟩, by omega⟩
  ·skip
   have e0 : ey ≠ 0 := of_decide_eq_false h126
   refine swp_skip ?_
   refine then_n ?_
   refine swp_seq ?_
   refine swp_sr ?_
   refine s_mv rfl ?_
   refine s_ef (ef_fn (off_spec q dy) rfl rfl sp0) ?_
   rintro v128 L1 ⟨rfl, rfl⟩
   refine swl_app ?_
   refine s_pu (pu_not rfl) ?_
   refine swl_sub _ (sc0 1 rfl (sc0 5 rfl (sc0 7 rfl (sc0 9 rfl (sc0 11 rfl (sc0 13 rfl (sc0 14 rfl (sc0 15 rfl (sc0 16 rfl (sc0 41 rfl (sc0 42 rfl (sc0 43 rfl (sc0 129 rfl .nil))))))))))))) ?_
   refine swl_nn ?_
   refine swp_cond (b := _) rfl (fun h129 => ?_) (fun h129 => ?_)
   ·skip
    obtain ⟨l', fa', rfl, rfl, hlg', rfl⟩ : ∃ l' fa', dy = dl QQ (encL l') (encL l').length fa' false ∧ deady = false ∧ LogOf sy l' ∧ s = sy := by
     rcases hopq with ⟨l', fa', h1, h2, h3, h4⟩ | ⟨_, _, h1, _⟩
     ·rcases h4 with ⟨h5, _⟩ | ⟨_, h5⟩
      ·exact absurd h5 e0
      ·exact ⟨l', fa', h1, h2, h3, h5.symm⟩
     ·rw [show dy.off = true from h1] at h129; cases h129
    refine swp_seq ?_
    refine swp_sr ?_
    refine s_mv rfl ?_
    refine s_mv rfl ?_
    refine s_ef (ef_fn (same_q μ3 (.pointer none) p h W' ⟨0, .slice A1 Tb.length c1, .slice A2 Cb.length c2, Tb, Cb, false⟩ s s hWo3 hWp3 hfit (hrb.le l3) hfit) rfl rfl sp0) ?_
    rintro v132 L1 ⟨μ4, l4, rfl, rfl⟩
    refine swl_app ?_
    refine s_pu (pu_not rfl) ?_
    refine swl_sub _ (sc0 1 rfl (sc0 5 rfl (sc0 7 rfl (sc0 9 rfl (sc0 11 rfl (sc0 41 rfl (sc0 42 rfl (sc0 43 rfl (sc0 133 rfl .nil))))))))) ?_
    refine swl_nn ?_
    refine swp_cond (b := _) rfl (fun h133 => by rw [decide_eq_true (⟨rfl, hWd3⟩ : s = s ∧ W'.dead = false)] at h133; cases h133) (fun h133 => ?_)
    refine swp_skip ?_
    refine then_n ?_
    refine swp_exit ?_
    refine then_x ?_
    refine block_hit rfl ?_
    refine then_n ?_
    refine swp_region ?_
    refine s_pu (pu_add_as ((i + 1 : Nat) : Int) rfl rfl om0 om0 om0) ?_
    refine s_mv rfl ?_
    refine swl_sub _ (sc0 1 rfl (sc0 5 rfl (sc0 7 rfl (sc0 9 rfl (sc0 11 rfl (sc0 41 rfl (sc0 42 rfl (sc0 43 rfl .nil)))))))) ?_
    refine swl_nil ?_
    exact then_n ⟨i + 1, ⟨l', fa', s, p, W', h, μ4, A1, c1, A2, c2, Tb, Cb, ⟨rfl, rfl, rfl, rfl, rfl, rfl, rfl, rfl, trivial⟩, Split.ent' sp0, h44', hle.trans (l3.trans l4), hyo, hlg', ⟨hWo3.le l4, hWq3, hWp3, hWd3⟩, hrb.le (l3.trans l4), hfit⟩, by omega⟩
   ·skip
    obtain ⟨rfl, rfl, hfit', hcra⟩ : ey = 8 ∧ deady = true ∧ Fit s' ∧ ∀ n keep, ∃ l B t, crashD dy n keep = dl QQ B B.length 0 false ∧ CL l B ∧ LogOf t l ∧ (t = s ∨ t = s') := by
     rcases hopq with ⟨l', fa', h1, _⟩ | ⟨h1, h2, _, h4, h5⟩
     ·rw [show dy = _ from h1] at h129; cases h129
     ·exact ⟨h1, h2, h4, h5⟩
    refine swp_skip ?_
    refine then_n ?_
    refine swp_seq ?_
    refine swp_sr ?_
    refine s_mv rfl ?_
    refine s_pu (pu_neq rfl rfl) ?_
    refine s_mv rfl ?_
    refine s_on rfl rfl ?_
    refine s_mv rfl ?_
    refine s_on rfl rfl ?_
    refine s_ef (ef_fn (dead_spec p W') rfl rfl sp0) ?_
    rintro v138 L1 ⟨rfl, rfl⟩
    refine swl_app ?_
    refine s_on rfl rfl ?_
    refine s_pu (pu_not rfl) ?_
    first | refine s_pu (pu_pick_t rfl rfl) ?_ | refine s_pu (pu_pick_f rfl rfl) ?_
    refine swl_sub _ (sc0 1 rfl (sc0 5 rfl (sc0 7 rfl (sc0 13 rfl (sc0 14 rfl (sc0 15 rfl (sc0 41 rfl (sc0 42 rfl (sc0 43 rfl (sc0 140 rfl .nil)))))))))) ?_
    refine swl_nn ?_
    refine swp_cond (b := _) rfl (fun h140 => by rw [hWd3] at h140; cases h140) (fun h140 => ?_)
    refine swp_skip ?_
    refine then_n ?_
    refine swp_seq ?_
    refine swp_seq ?_
    obtain ⟨l2, B, st2, hcr, hcl, hlg2, hst2⟩ := hcra fat keep
    have hfit2 : Fit st2 := by
     rcases hst2 with rfl | rfl
     ·exact hfit
     ·exact hfit'
    refine swp_region ?_
    refine s_mv rfl ?_
    first | refine s_rd (rd_loadW rfl rfl) ?_ | refine s_rd (rd_loadX rfl rfl rfl) ?_
    first | refine s_pu (pu_fieldAddr0 rfl) ?_ | refine s_pu (pu_fieldAddr rfl) ?_
    refine s_rd (rd_load rfl rfl) ?_
    refine s_pu (pu_quo_nat (a := kind) (b := 8) rfl rfl (by decide) (wrap_u8n om0)) ?_
    refine s_pu (pu_conv_i64 rfl om0 om0) ?_
    refine s_ef (ef_fn (reopened_spec μ3 q dy hyo hyw ((kind / 8 : Nat) : Int) fat om0 (.slice kA keep.length kc) keep (hkr.le (hle.trans l3)) QQ B l2 st2 hcr hcl hlg2) rfl rfl sp0) ?_
    rintro v147 L1 ⟨p2, W2, μ4, l4, hF2, hok2, rfl, rfl⟩
    refine swl_app ?_
    refine s_as rfl ?_
    refine swl_sub _ (sc0 1 rfl (sc0 5 rfl (sc0 7 rfl (sc0 9 rfl (sc0 14 rfl (sc0 15 rfl (sc0 41 rfl (sc0 42 rfl (sc0 43 rfl .nil))))))))) ?_
    refine swl_nn ?_
    refine swp_sr ?_
    refine s_mv rfl ?_
    refine s_pu (pu_ptr_eq_nil rfl rfl) ?_
    refine swl_sub _ (sc0 1 rfl (sc0 5 rfl (sc0 7 rfl (sc0 9 rfl (sc0 14 rfl (sc0 15 rfl (sc0 41 rfl (sc0 42 rfl (sc0 43 rfl (sc0 149 rfl .nil)))))))))) ?_
    refine swl_nn ?_
    refine swp_cond (b := _) rfl (fun h149 => by cases h149) (fun h149 => ?_)
    refine swp_skip ?_
    refine then_n ?_
    refine swp_cut (fun env L => ∃ (hh : Nat) (μ5 : PH) (A7 : Option Addr) (c7 : Nat) (A8 : Option Addr) (c8 : Nat) (Th : List (Value × List En)) (Ch : List (Value × Cm)), Le μ4 μ5 ∧ SW.Rof μ5 ⟨0, .slice A7 Th.length c7, .slice A8 Ch.length c8, Th, Ch, false⟩ st2 ∧ Sub env [(1, v1), (5, pv b5), (7, pv q), (11, pv hh), (41, .slice (some ⟨b, off, none⟩) KK cap), (42, .int .i64 (KK : Nat)), (43, .int .i64 (i : Nat))] ∧ Ent L [blk b5 63 [.int .i64 fat, .slice kA keep.length kc], FSA q (dl QQ (encL l2) (encL l2).length 0 false), stH p2 W2, ttA W2, ccA W2, rnH (.pointer none) hh ⟨0, .slice A7 Th.length c7, .slice A8 Ch.length c8, Th, Ch, false⟩, ro μ5]) ?_ ?_
    ·skip
     refine swp_block ?_
     refine swp_sr ?_
     refine s_mv rfl ?_
     refine s_mv rfl ?_
     refine s_ef (ef_fn (same_q μ4 (.pointer none) p2 b68 W2 ⟨0, .slice A1 Tb.length c1, .slice A2 Cb.length c2, Tb, Cb, false⟩ st2 s hF2.1 hF2.2.2.1 hfit2 (hrb.le (l3.trans l4)) hfit) rfl rfl sp0) ?_
     rintro v153 L1 ⟨μ5, l5, rfl, rfl⟩
     refine swl_app ?_
     refine s_as rfl ?_
     refine swl_sub _ (sc0 1 rfl (sc0 5 rfl (sc0 7 rfl (sc0 9 rfl (sc0 14 rfl (sc0 15 rfl (sc0 41 rfl (sc0 42 rfl (sc0 43 rfl (sc0 150 rfl .nil)))))))))) ?_
     refine swl_nn ?_
     refine swp_cond (b := _) rfl (fun h150 => ?_) (fun h150 => ?_)
     ·skip
      obtain ⟨rfl, _⟩ := of_decide_eq_true h150
      refine swp_region ?_
      refine s_mv rfl ?_
      refine s_as rfl ?_
      refine swl_sub _ (sc0 1 rfl (sc0 5 rfl (sc0 7 rfl (sc0 11 rfl (sc0 41 rfl (sc0 42 rfl (sc0 43 rfl .nil))))))) ?_
      refine swl_nil ?_
      refine block_n ?_
      exact then_n ⟨b68, μ5, A1, c1, A2, c2, Tb, Cb, l5, hrb.le (l3.trans (l4.trans l5)), ⟨rfl, rfl, rfl, rfl, rfl, rfl, rfl, trivial⟩, Split.ent' sp0⟩
     ·skip
      have hne : ¬ st2 = s := fun e => of_decide_eq_false h150 ⟨e, hF2.2.2.2⟩
      obtain rfl : st2 = s' := by
       rcases hst2 with h | h
       ·exact absurd h hne
       ·exact h
      refine swp_sr ?_
      refine s_mv rfl ?_
      refine s_ef (ef_fn (same_q μ5 (.pointer none) p2 b15 W2 ⟨0, .slice A5 Tu.length c5, .slice A6 Cu.length c6, Tu, Cu, false⟩ st2 st2 (hF2.1.le l5) hF2.2.2.1 hfit2 (hru.le (l4.trans l5)) hfit2) rfl rfl sp0) ?_
      rintro v157 L1 ⟨μ6, l6, rfl, rfl⟩
      refine swl_app ?_
      refine s_as rfl ?_
      refine swl_sub _ (sc0 1 rfl (sc0 5 rfl (sc0 7 rfl (sc0 15 rfl (sc0 41 rfl (sc0 42 rfl (sc0 43 rfl (sc0 155 rfl .nil)))))))) ?_
      refine swl_nn ?_
      refine swp_cond (b := _) rfl (fun h155 => ?_) (fun h155 => by rw [decide_eq_true (⟨rfl, hF2.2.2.2⟩ : st2 = st2 ∧ W2.dead = false)] at h155; cases h155)
      refine swp_region ?_
      refine s_as rfl ?_
      refine swl_sub _ (sc0 1 rfl (sc0 5 rfl (sc0 7 rfl (sc0 11 rfl (sc0 41 rfl (sc0 42 rfl (sc0 43 rfl .nil))))))) ?_
      refine swl_nil ?_
      refine block_n ?_
      exact then_n ⟨b15, μ6, A5, c5, A6, c6, Tu, Cu, l5.trans l6, hru.le (l4.trans (l5.trans l6)), ⟨rfl, rfl, rfl, rfl, rfl, rfl, rfl, trivial⟩, Split.ent' sp0⟩
    rintro env L ⟨hh, μ5, A7, c7, A8, c8, Th, Ch, l5, hrh, hsub, hE⟩
    refine swp_sub _ hsub ?_
    refine swp_ent hE ?_
    clear hsub hE env L
    refine swp_sr ?_
    refine s_mv rfl ?_
    refine s_ef (ef_fn (open_q μ5 QQ q st2 l2 hok2 hlg2) rfl rfl sp0) ?_
    rintro v160 L1 ⟨p3, W3, μ6, l6, hF3, rfl, rfl⟩
    refine swl_app ?_
    refine s_mv rfl ?_
    first | refine s_pu (pu_extractL rfl) ?_ | refine s_pu (pu_extract rfl rfl) ?_
    first | refine s_pu (pu_extractL rfl) ?_ | refine s_pu (pu_extract rfl rfl) ?_
    refine s_as rfl ?_
    refine s_as rfl ?_
    refine swl_sub _ (sc0 1 rfl (sc0 5 rfl (sc0 7 rfl (sc0 11 rfl (sc0 16 rfl (sc0 17 rfl (sc0 41 rfl (sc0 42 rfl (sc0 43 rfl .nil))))))))) ?_
    refine swl_nn ?_
    refine swp_seq ?_
    refine swp_sr ?_
    refine s_mv rfl ?_
    refine s_pu (pu_neq rfl rfl) ?_
    refine s_mv rfl ?_
    refine s_on rfl rfl ?_
    refine s_mv rfl ?_
    refine s_on rfl rfl ?_
    refine s_mv rfl ?_
    refine s_on rfl rfl ?_
    refine s_ef (ef_fn (same_q μ6 (.pointer none) p3 hh W3 ⟨0, .slice A7 Th.length c7, .slice A8 Ch.length c8, Th, Ch, false⟩ st2 st2 hF3.1 hF3.2.2.1 hfit2 (hrh.le l6) hfit2) rfl rfl sp0) ?_
    rintro v168 L1 ⟨μ7, l7, rfl, rfl⟩
    refine swl_app ?_
    refine s_on rfl rfl ?_
    refine s_pu (pu_not rfl) ?_
    first | refine s_pu (pu_pick_t rfl rfl) ?_ | refine s_pu (pu_pick_f rfl rfl) ?_
    refine swl_sub _ (sc0 1 rfl (sc0 5 rfl (sc0 7 rfl (sc0 11 rfl (sc0 17 rfl (sc0 41 rfl (sc0 42 rfl (sc0 43 rfl (sc0 170 rfl .nil))))))))) ?_
    refine swl_nn ?_
    refine swp_cond (b := _) rfl (fun h170 => by rw [decide_eq_true (⟨rfl, hF3.2.2.2⟩ : st2 = st2 ∧ W3.dead = false)] at h170; cases h170) (fun h170 => ?_)
    refine swp_skip ?_
    refine then_n ?_
    refine swp_region ?_
    refine s_mv rfl ?_
    refine s_as rfl ?_
    refine swl_sub _ (sc0 1 rfl (sc0 5 rfl (sc0 7 rfl (sc0 9 rfl (sc0 11 rfl (sc0 41 rfl (sc0 42 rfl (sc0 43 rfl .nil)))))))) ?_
    refine swl_nil ?_
    refine block_n ?_
    refine then_n ?_
    refine swp_region ?_
    refine s_pu (pu_add_as ((i + 1 : Nat) : Int) rfl rfl om0 om0 om0) ?_
    refine s_mv rfl ?_
    refine swl_sub _ (sc0 1 rfl (sc0 5 rfl (sc0 7 rfl (sc0 9 rfl (sc0 11 rfl (sc0 41 rfl (sc0 42 rfl (sc0 43 rfl .nil)))))))) ?_
    refine swl_nil ?_
    exact then_n ⟨i + 1, ⟨l2, 0, st2, p3, W3, hh, μ7, A7, c7, A8, c8, Th, Ch, ⟨rfl, rfl, rfl, rfl, rfl, rfl, rfl, rfl, trivial⟩, Split.ent' sp0, h44', hle.trans (l3.trans (l4.trans (l5.trans (l6.trans l7)))), hok2, hlg2, hF3.le l7, hrh.le (l6.trans l7), hfit2⟩, by omega⟩
 ·skip
  refine swp_exit ?_
  refine then_x ?_
  refine then_x ?_
  refine block_hit rfl ?_
  refine then_n ?_
  refine swp_sr ?_
  refine s_mv rfl ?_
  first | refine s_rd (rd_loadW rfl rfl) ?_ | refine s_rd (rd_loadX rfl rfl rfl) ?_
  refine s_ef (ef_fn (reopened_spec μ2 q (dl QQ (encL l) (encL l).length fa false) hok ((dl_within _ _ _ _ _).mono om0) 1 fat (by decide) (.slice kA keep.length kc) keep (hkr.le hle) QQ (encL l) l s (dl_crash_all _ _ _) (CL.enc hlg) hlg) rfl rfl sp0) ?_
  rintro v175 L1 ⟨p2, W2, μ4, l4, hF2, hok2, rfl, rfl⟩
  refine swl_app ?_
  refine s_as rfl ?_
  refine swl_sub _ (sc0 9 rfl (sc0 11 rfl .nil)) ?_
  refine swl_nn ?_
  refine swp_sr ?_
  refine s_mv rfl ?_
  refine s_pu (pu_ptr_ne_nil rfl rfl) ?_
  refine s_mv rfl ?_
  refine s_on rfl rfl ?_
  refine s_mv rfl ?_
  refine s_on rfl rfl ?_
  refine s_mv rfl ?_
  refine s_on rfl rfl ?_
  refine s_ef (ef_fn (same_q μ4 (.pointer none) p2 h W2 ⟨0, .slice A1 Tb.length c1, .slice A2 Cb.length c2, Tb, Cb, false⟩ s s hF2.1 hF2.2.2.1 hfit (hrb.le l4) hfit) rfl rfl sp0) ?_
  rintro v181 L1 ⟨μ5, l5, rfl, rfl⟩
  refine swl_app ?_
  first | refine s_pu (pu_pick_t rfl rfl) ?_ | refine s_pu (pu_pick_f rfl rfl) ?_
  refine s_as rfl ?_
  refine swl_sub _ (sc0 6 rfl .nil) ?_
  refine swl_nn ?_
  refine swp_ret ?_
  exact done_retE [ro μ5] (.tmp rfl .nil) ⟨congrArg Value.bool (decide_eq_true ⟨rfl, hF2.2.2.2⟩), μ5, [], hle.trans (l4.trans l5), rfl⟩ (Split.ent' sp0)
end SX
