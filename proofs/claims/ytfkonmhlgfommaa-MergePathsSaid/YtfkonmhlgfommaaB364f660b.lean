/- A part of the proof: walks of the program's functions, and the rules by which they go. -/
import Derived.Test.YtfkonmhlgfommaaB60e1278a
import Derived.Lib.Bytealg
import Derived.Lib.Strings
import Derived.Shelf.Sort.Plain
import Derived.Shelf.Slices.CompactS
import Derived.Sort.EncStr
import Derived.Lib.RowBridge
import Derived.ArgAppend
import Derived.ChangeSame
import Derived.Test.YtfkonmhlgfommaaProg
import Derived.Shelf.Small.Bits
import Derived.Shelf.Small.Strs
import Derived.Shelf.Strconv.Itoa0
import Derived.Shelf.Slices.Cells
import Derived.Shelf.Slices.In.SortNone
namespace SX
open Go
theorem strEq_iff {a b : ByteArray} : strEq a b = true ↔ a = b := by
  unfold strEq
  rw [beq_iff_eq, Lib.toList_data, Lib.toList_data]
  constructor
  · intro h; cases a; cases b; congr 1; exact Array.toList_inj.1 h
  · rintro rfl; rfl
theorem strEq_refl (a : ByteArray) : strEq a a = true := strEq_iff.2 rfl
theorem strEq_false {a b : ByteArray} : strEq a b = false ↔ a ≠ b := by rw [← Bool.not_eq_true, strEq_iff]
theorem strLt_irrefl (a : ByteArray) : strLt a a = false := bl_irrefl _
theorem strLt_asym {a b : ByteArray} (h : strLt a b = true) : strLt b a = false := bl_asym h
theorem strLt_trans {a b c : ByteArray} (h1 : strLt a b = true) (h2 : strLt b c = true) : strLt a c = true := bl_trans _ _ _ h1 h2
theorem strLt_total (a b : ByteArray) : strLt a b = true ∨ a = b ∨ strLt b a = true := by
  rcases bl_total a.toList b.toList with h | h | h
  · exact .inl h
  · refine .inr (.inl (strEq_iff.1 ?_)); unfold strEq; rw [h]; exact beq_self_eq_true _
  · exact .inr (.inr h)
theorem strLt_ne {a b : ByteArray} (h : strLt a b = true) : a ≠ b := by rintro rfl; rw [strLt_irrefl] at h; cases h
/-- strings.Compare -/
def cmpS (a b : ByteArray) : Int := Lib.compareBytes a.data.toList b.data.toList
theorem cmpB (a b : List UInt8) : (Lib.compareBytes a b < 0 ↔ Op.bytesLess a b = true) ∧ (Lib.compareBytes a b = 0 ↔ a = b) ∧ -1 ≤ Lib.compareBytes a b ∧ Lib.compareBytes a b ≤ 1 := by
  induction a generalizing b with
  | nil => cases b <;> simp [Lib.compareBytes, Op.bytesLess]
  | cons x a ih =>
    cases b with
    | nil => simp [Lib.compareBytes, Op.bytesLess]
    | cons y b =>
      obtain ⟨i1, i2, i3, i4⟩ := ih b
      unfold Lib.compareBytes
      by_cases h1 : x < y
      · have hne : x ≠ y := by rintro rfl; exact UInt8.lt_irrefl _ h1
        simp [h1, Op.bytesLess, hne]
      · by_cases h2 : y < x
        · have hne : x ≠ y := by rintro rfl; exact UInt8.lt_irrefl _ h2
          simp [h1, h2, Op.bytesLess, hne]
        · have he : x = y := by
            rcases Nat.lt_trichotomy x.toNat y.toNat with h | h | h
            · exact absurd (UInt8.lt_iff_toNat_lt.2 h) h1
            · exact UInt8.toNat_inj.1 h
            · exact absurd (UInt8.lt_iff_toNat_lt.2 h) h2
          subst he
          simp [h1, Op.bytesLess, i1, i2, i3, i4]
theorem cmpS_neg (a b : ByteArray) : cmpS a b < 0 ↔ strLt a b = true := by
  unfold cmpS strLt; rw [Lib.toList_data, Lib.toList_data]; exact (cmpB _ _).1
theorem cmpS_zero (a b : ByteArray) : cmpS a b = 0 ↔ a = b := by
  unfold cmpS; rw [(cmpB _ _).2.1, ← strEq_iff]; unfold strEq; rw [beq_iff_eq, Lib.toList_data, Lib.toList_data]
theorem dcmpS_zero (a b : ByteArray) : decide (cmpS a b = 0) = strEq a b := by
  cases h : strEq a b with
  | true => exact decide_eq_true ((cmpS_zero a b).2 (strEq_iff.1 h))
  | false => refine decide_eq_false fun hh => ?_; rw [strEq_iff.2 ((cmpS_zero a b).1 hh)] at h; cases h
/-! ## entries -/
abbrev En : Type := ByteArray × Int
abbrev enc1 (e : En) : List Value := [.string e.1, .int .u32 e.2]
abbrev ens (l : List En) : List Value := l.flatMap enc1
/-- a conflict -/
abbrev Cf : Type := ByteArray × Int × Int × Int
abbrev encC (e : Cf) : List Value := [.string e.1, .int .u32 e.2.1, .int .u32 e.2.2.1, .int .u32 e.2.2.2]
theorem ens_one (l : List En) : (ens l).all Value.oneCell' = true := by
  rw [List.all_eq_true]
  intro v hv
  obtain ⟨e, _, he⟩ := List.mem_flatMap.1 hv
  simp only [enc1, List.mem_cons, List.not_mem_nil, or_false] at he
  rcases he with rfl | rfl <;> rfl
theorem enc1_len (e : En) : (enc1 e).length = 2 := rfl
/-- what a list has at a path: the first -/
def lookE : List En → ByteArray → Int
  | [], _ => 0
  | e :: l, p => if strEq e.1 p then e.2 else lookE l p
/-- the first that isn't less, by halves -/
def bsF (l : List En) (p : ByteArray) (i j : Nat) : Nat :=
  if _h : i < j then
    if (l[(i + j) / 2]?.map fun e => strLt e.1 p).getD false then bsF l p ((i + j) / 2 + 1) j else bsF l p i ((i + j) / 2)
  else i
termination_by j - i
decreasing_by all_goals omega
def bsB (l : List En) (p : ByteArray) : Nat := bsF l p 0 l.length
/-- what the search by halves finds -/
def lookB (l : List En) (p : ByteArray) : Int :=
  match l[bsB l p]? with
  | some e => if strEq e.1 p then e.2 else 0
  | none => 0
theorem bsF_stop (l : List En) (p : ByteArray) {i j : Nat} (h : ¬ i < j) : bsF l p i j = i := by unfold bsF; rw [dif_neg h]
theorem bsF_lo (l : List En) (p : ByteArray) {i j : Nat} {e : En} (h : i < j) (he : l[(i + j) / 2]? = some e) (hl : strLt e.1 p = true) : bsF l p i j = bsF l p ((i + j) / 2 + 1) j := by
  rw [bsF, dif_pos h, he]; simp [hl]
theorem bsF_hi (l : List En) (p : ByteArray) {i j : Nat} {e : En} (h : i < j) (he : l[(i + j) / 2]? = some e) (hl : strLt e.1 p = false) : bsF l p i j = bsF l p i ((i + j) / 2) := by
  rw [bsF, dif_pos h, he]; simp [hl]
/-- paths rise -/
abbrev Rises (l : List En) : Prop := l.Pairwise fun a b => strLt a.1 b.1 = true
theorem rises_get {l : List En} (h : Rises l) {i j : Nat} {a b : En} (hij : i < j) (ha : l[i]? = some a) (hb : l[j]? = some b) : strLt a.1 b.1 = true := by
  obtain ⟨h1, rfl⟩ := List.getElem?_eq_some_iff.1 ha
  obtain ⟨h2, rfl⟩ := List.getElem?_eq_some_iff.1 hb
  exact List.pairwise_iff_getElem.1 h i j h1 h2 hij
theorem bsF_spec (l : List En) (p : ByteArray) (hr : Rises l) : ∀ (n i j : Nat), j - i ≤ n → i ≤ j → j ≤ l.length → (∀ k e, k < i → l[k]? = some e → strLt e.1 p = true) → (∀ k e, j ≤ k → l[k]? = some e → strLt e.1 p = false) →
    (∀ k e, k < bsF l p i j → l[k]? = some e → strLt e.1 p = true) ∧ (∀ k e, bsF l p i j ≤ k → l[k]? = some e → strLt e.1 p = false) := by
  intro n
  induction n with
  | zero => intro i j h1 h2 _ ha hb; rw [bsF_stop l p (by omega)]; exact ⟨ha, fun k e hk => hb k e (by omega)⟩
  | succ n ih =>
    intro i j h1 h2 h3 ha hb
    by_cases h : i < j
    · have hm : (i + j) / 2 < l.length := by omega
      cases hl : strLt l[(i + j) / 2].1 p with
      | true =>
        rw [bsF_lo l p h (List.getElem?_eq_getElem hm) hl]
        refine ih _ _ (by omega) (by omega) h3 (fun k e hk he => ?_) hb
        by_cases hk2 : k = (i + j) / 2
        · subst hk2; rw [List.getElem?_eq_getElem hm] at he; cases he; exact hl
        · exact strLt_trans (rises_get hr (by omega) he (List.getElem?_eq_getElem hm)) hl
      | false =>
        rw [bsF_hi l p h (List.getElem?_eq_getElem hm) hl]
        refine ih _ _ (by omega) (by omega) (by omega) ha (fun k e hk he => ?_)
        by_cases hk2 : k = (i + j) / 2
        · subst hk2; rw [List.getElem?_eq_getElem hm] at he; cases he; exact hl
        · cases hh : strLt e.1 p with
          | false => rfl
          | true => rw [strLt_trans (rises_get hr (by omega) (List.getElem?_eq_getElem hm) he) hh] at hl; cases hl
    · rw [bsF_stop l p h]; exact ⟨ha, fun k e hk => hb k e (by omega)⟩
theorem lookE_none {l : List En} {p : ByteArray} (h : ∀ e ∈ l, strEq e.1 p = false) : lookE l p = 0 := by
  induction l with
  | nil => rfl
  | cons e l ih => unfold lookE; rw [h e (.head _)]; exact ih fun x hx => h x (.tail _ hx)
theorem lookE_at {l : List En} {p : ByteArray} : ∀ {k : Nat} {e : En}, l[k]? = some e → strEq e.1 p = true → (∀ j x, j < k → l[j]? = some x → strEq x.1 p = false) → lookE l p = e.2 := by
  induction l with
  | nil => intro k e h; simp at h
  | cons x l ih =>
    intro k e hk he hj
    cases k with
    | zero => simp at hk; subst hk; unfold lookE; rw [he]; rfl
    | succ k =>
      unfold lookE
      rw [hj 0 x (by omega) rfl]
      exact ih (k := k) (by simpa using hk) he fun j y h1 h2 => hj (j + 1) y (by omega) (by simpa using h2)
/-- in a rising list both find the same -/
theorem look_same {l : List En} (hr : Rises l) (p : ByteArray) : lookB l p = lookE l p := by
  obtain ⟨h1, h2⟩ := bsF_spec l p hr l.length 0 l.length (by omega) (by omega) (Nat.le_refl _) (fun k e hk => by omega) (fun k e hk he => by have := (List.getElem?_eq_some_iff.1 he).1; omega)
  unfold lookB
  change ∀ k e, k < bsB l p → _ at h1
  change ∀ k e, bsB l p ≤ k → _ at h2
  cases hb : l[bsB l p]? with
  | none =>
    refine (lookE_none fun e he => ?_).symm
    obtain ⟨k, hk⟩ := List.mem_iff_getElem?.1 he
    have : k < bsB l p := by have := (List.getElem?_eq_some_iff.1 hk).1; have := List.getElem?_eq_none_iff.1 hb; omega
    exact strEq_false.2 (strLt_ne (h1 k e this hk))
  | some e =>
    simp only []
    cases he : strEq e.1 p with
    | true => exact (lookE_at hb he fun j x hj hx => strEq_false.2 (strLt_ne (h1 j x hj hx))).symm
    | false =>
      refine (lookE_none fun x hx => ?_).symm
      obtain ⟨k, hk⟩ := List.mem_iff_getElem?.1 hx
      refine strEq_false.2 fun hxe => ?_
      rcases Nat.lt_trichotomy k (bsB l p) with h | h | h
      · exact strLt_ne (h1 k x h hk) hxe
      · subst h; rw [hb] at hk; cases hk; rw [hxe, strEq_refl] at he; cases he
      · have := rises_get hr h hb hk
        rw [hxe] at this
        rw [h2 _ _ (Nat.le_refl _) hb] at this; cases this
end SX
namespace SX
open Go
def ltP (p : ByteArray) (e : En) : Bool := strLt e.1 p
/-- without the entry at p, if it is the first -/
def cutE (p : ByteArray) : List En → List En
  | [] => []
  | e :: l => if strEq e.1 p then l else e :: l
theorem cutE_cons (p : ByteArray) (e : En) (l : List En) : cutE p (e :: l) = if strEq e.1 p = true then l else e :: l := rfl
def putE (t : List En) (p : ByteArray) (b : Int) : List En :=
  if 255 < p.size then t else t.takeWhile (ltP p) ++ (if b = 0 then [] else [(p, b)]) ++ cutE p (t.dropWhile (ltP p))
def makeE (l : List En) : List En := l.foldl (fun t e => putE t e.1 e.2) []
def cutP (e : En) : En := (e.1.extract 0 (min e.1.size 255), e.2)
/-- the good tree of any list -/
def goodE (x : List En) : List En := makeE ((x.take 100).map cutP)
theorem while_at {p : ByteArray} {t : List En} : ∀ {i : Nat}, i ≤ t.length → (t.take i).all (ltP p) = true → (∀ e, t[i]? = some e → ltP p e = false) → t.takeWhile (ltP p) = t.take i ∧ t.dropWhile (ltP p) = t.drop i := by
  induction t with
  | nil => intro i hi _ _; simp
  | cons e t ih =>
    intro i hi h1 h2
    cases i with
    | zero => have := h2 e rfl; simp [this]
    | succ i =>
      simp only [List.take_succ_cons, List.all_cons, Bool.and_eq_true] at h1
      obtain ⟨k1, k2⟩ := ih (by simpa using hi) h1.2 (fun x hx => h2 x (by simpa using hx))
      simp [h1.1, k1, k2]
theorem cutE_len (p : ByteArray) (l : List En) : (cutE p l).length ≤ l.length := by
  cases l with
  | nil => simp [cutE]
  | cons e l => rw [cutE_cons]; split <;> simp
theorem putE_len (t : List En) (p : ByteArray) (b : Int) : (putE t p b).length ≤ t.length + 1 := by
  unfold putE
  split
  · omega
  · have h1 := cutE_len p (t.dropWhile (ltP p))
    have h2 : (t.takeWhile (ltP p)).length + (t.dropWhile (ltP p)).length = t.length := by rw [← List.length_append, List.takeWhile_append_dropWhile]
    rw [List.length_append, List.length_append]
    have h3 : (if b = 0 then [] else [(p, b)] : List En).length ≤ 1 := by split <;> simp
    omega
theorem makeE_lenF (l : List En) : ∀ t, (l.foldl (fun t e => putE t e.1 e.2) t).length ≤ t.length + l.length := by
  induction l with
  | nil => intro t; simp
  | cons e l ih => intro t; rw [List.foldl_cons]; have := ih (putE t e.1 e.2); have := putE_len t e.1 e.2; simp only [List.length_cons]; omega
theorem makeE_len (l : List En) : (makeE l).length ≤ l.length := by have := makeE_lenF l []; unfold makeE; simpa using this
theorem goodE_len (x : List En) : (goodE x).length ≤ 100 := by
  have := makeE_len ((x.take 100).map cutP)
  unfold goodE
  rw [List.length_map, List.length_take] at this
  omega
/-- a good tree -/
structure GoodT (t : List En) : Prop where
  rises : Rises t
  short : ∀ e ∈ t, e.1.size ≤ 255
  full : ∀ e ∈ t, e.2 ≠ 0
theorem mem_take_while {q : En → Bool} {l : List En} {e : En} (h : e ∈ l.takeWhile q) : q e = true := by
  induction l with
  | nil => simp at h
  | cons x l ih =>
    rw [List.takeWhile_cons] at h
    split at h
    · rename_i hx
      rcases List.mem_cons.1 h with rfl | h
      · exact hx
      · exact ih h
    · cases h
theorem drop_while_head {q : En → Bool} {l : List En} {e : En} {r : List En} (h : l.dropWhile q = e :: r) : q e = false := by
  induction l with
  | nil => simp at h
  | cons x l ih =>
    rw [List.dropWhile_cons] at h
    split at h
    · exact ih h
    · rename_i hx
      cases h
      simpa using hx
theorem cutE_mem {p : ByteArray} {l : List En} {e : En} (h : e ∈ cutE p l) : e ∈ l := by
  cases l with
  | nil => exact h
  | cons x l =>
    rw [cutE_cons] at h
    split at h
    · exact .tail _ h
    · exact h
theorem good_put {t : List En} (h : GoodT t) (p : ByteArray) (b : Int) : GoodT (putE t p b) := by
  unfold putE
  split
  · exact h
  · rename_i hp
    have hsplit : t.takeWhile (ltP p) ++ t.dropWhile (ltP p) = t := List.takeWhile_append_dropWhile
    have hr := h.rises
    rw [← hsplit] at hr
    obtain ⟨r1, r2, r3⟩ := List.pairwise_append.1 hr
    have hcut : ∀ e ∈ cutE p (t.dropWhile (ltP p)), strLt p e.1 = true := by
      intro e he
      cases hd : t.dropWhile (ltP p) with
      | nil => rw [hd] at he; cases he
      | cons x r =>
        rw [hd] at he r2
        have hx := drop_while_head hd
        obtain ⟨q1, q2⟩ := List.pairwise_cons.1 r2
        have hxp : x.1 = p ∨ strLt p x.1 = true := by
          rcases strLt_total x.1 p with k | k | k
          · unfold ltP at hx; rw [k] at hx; cases hx
          · exact .inl k
          · exact .inr k
        rw [cutE_cons] at he
        split at he
        · rename_i heq
          rw [strEq_iff] at heq
          rw [← heq]; exact q1 e he
        · rename_i heq
          rcases List.mem_cons.1 he with rfl | he
          · rcases hxp with k | k
            · rw [k, strEq_refl] at heq; exact absurd rfl heq
            · exact k
          · rcases hxp with k | k
            · rw [k, strEq_refl] at heq; exact absurd rfl heq
            · exact strLt_trans k (q1 e he)
    have hmid : ∀ e ∈ (if b = 0 then [] else [(p, b)] : List En), e = (p, b) ∧ b ≠ 0 := by
      intro e he
      split at he
      · cases he
      · rename_i hb; simp at he; exact ⟨he, hb⟩
    have hmem : ∀ e ∈ t.takeWhile (ltP p) ++ (if b = 0 then [] else [(p, b)]) ++ cutE p (t.dropWhile (ltP p)), e ∈ t ∨ (e = (p, b) ∧ b ≠ 0) := by
      intro e he
      rcases List.mem_append.1 he with he | he
      · rcases List.mem_append.1 he with he | he
        · exact .inl (hsplit ▸ List.mem_append_left _ he)
        · exact .inr (hmid e he)
      · exact .inl (hsplit ▸ List.mem_append_right _ (cutE_mem he))
    refine ⟨?_, fun e he => ?_, fun e he => ?_⟩
    · have hc : (cutE p (t.dropWhile (ltP p))).Pairwise fun a b => strLt a.1 b.1 = true := by
        cases hd : t.dropWhile (ltP p) with
        | nil => exact List.Pairwise.nil
        | cons x r =>
          rw [hd] at r2
          rw [cutE_cons]
          split
          · exact (List.pairwise_cons.1 r2).2
          · exact r2
      refine List.pairwise_append.2 ⟨List.pairwise_append.2 ⟨r1, ?_, fun a ha c hc => ?_⟩, hc, fun a ha c hc => ?_⟩
      · split
        · exact List.Pairwise.nil
        · exact List.pairwise_singleton _ _
      · have := mem_take_while ha
        rw [(hmid c hc).1]; exact this
      · rcases List.mem_append.1 ha with ha | ha
        · exact strLt_trans (mem_take_while ha) (hcut c hc)
        · rw [(hmid a ha).1]; exact hcut c hc
    · rcases hmem e he with k | ⟨rfl, _⟩
      · exact h.short e k
      · show p.size ≤ 255; omega
    · rcases hmem e he with k | ⟨rfl, k⟩
      · exact h.full e k
      · exact k
theorem good_nil : GoodT [] := ⟨List.Pairwise.nil, (fun _ h => by cases h), (fun _ h => by cases h)⟩
theorem good_makeF (l : List En) : ∀ t, GoodT t → GoodT (l.foldl (fun t e => putE t e.1 e.2) t) := by
  induction l with
  | nil => intro t h; exact h
  | cons e l ih => intro t h; rw [List.foldl_cons]; exact ih _ (good_put h _ _)
theorem good_make (l : List En) : GoodT (makeE l) := good_makeF l [] good_nil
theorem good_good (x : List En) : GoodT (goodE x) := good_make _
end SX
namespace SX
open Go

/-! what a row's check says -/
/-! sorted lists -/
/-! the numbers of a whole graph -/
end SX
namespace SX
open Go
section
variable {P : Program} {env : Env} {μ : PH} {L : List Assn} {rn : Option Nat} {Q : Post} {N : Nat}
end
section
variable {P : Program} {tG : Nat}
end
end SX
namespace SX
open Go
end SX
namespace SX
open Go Go.Sort
theorem H.grow {E : Ctx} {w : World} {L : List Assn} (h : H E w L) (os : Array Obj) : H E (Go.Sort.grow w os) L := by
  obtain ⟨h1, h2, h3, h4, h5⟩ := h
  refine ⟨h1, h2, h3, by simp only [Go.Sort.grow, Array.size_append]; omega, h5.mono fun b o hb => ?_⟩
  have hlt : b < w.heap.size := (Array.getElem?_eq_some_iff.1 hb).1
  show (w.heap ++ os)[b]? = some o
  rw [Array.getElem?_append_left hlt]; exact hb
section
variable {α : Type} [Inhabited α] {enc : α → Value}
theorem putCells_front (d : List α) (zs ex : List Value) (hl : zs.length = d.length) : putCells enc 0 d.toArray (zs ++ ex).toArray = (d.map enc ++ ex).toArray := by
  apply Array.ext_getElem?
  intro k
  unfold putCells
  rw [Array.getElem?_mapIdx]
  simp only [List.getElem?_toArray, List.size_toArray, Nat.zero_add, Nat.sub_zero, Nat.zero_le, true_and]
  by_cases hk : k < d.length
  · rw [List.getElem?_append_left (by omega), List.getElem?_append_left (by rw [List.length_map]; exact hk), List.getElem?_map, List.getElem?_eq_getElem hk, List.getElem?_eq_getElem (by omega)]
    simp [hk]
  · rw [List.getElem?_append_right (by omega), List.getElem?_append_right (by rw [List.length_map]; omega), List.length_map, hl]
    cases ex[k - d.length]? <;> simp [hk]
theorem holds_front {w : World} {b e : Nat} {d : List α} {ex : List Value} (h : w.heap[b]? = some (.cells (d.map enc ++ ex).toArray e (0, 0))) : Holds enc w b 0 d.toArray := by
  intro j hj
  have hj' : j < d.length := by simpa using hj
  rw [Nat.zero_add]
  refine ⟨?_, by simp [World.frozen?, h]⟩
  simp only [World.cell?, h]
  show (d.map enc ++ ex).toArray[j]? = _
  rw [List.getElem?_toArray, List.getElem?_append_left (by rw [List.length_map]; exact hj'), List.getElem?_map, List.getElem?_eq_getElem hj']
  simp [hj']
theorem H.sorted {E : Ctx} {w : World} {L : List Assn} {b e n : Nat} {d d' : List α} {ex : List Value} {os : Array Obj} (h : H E w (blk b e (d.map enc ++ ex) :: L)) (hl : d'.length = d.length) :
    H E (Go.Sort.grow (putRow enc (Go.Sort.ahead w n) b 0 d'.toArray) os) (blk b e (d'.map enc ++ ex) :: L) := by
  refine H.grow ?_ os
  have hb := h.one_get .here
  refine H.upd (o' := .cells (d'.map enc ++ ex).toArray e (0, 0)) h .here _ rfl rfl rfl ?_ ?_ ?_
  · simp [putRow, mapBlock, Go.Sort.ahead]
  · show ((Go.Sort.ahead w n).heap.modify b (onCells (putCells enc 0 d'.toArray)))[b]? = _
    rw [Array.getElem?_modify]
    have : (Go.Sort.ahead w n).heap[b]? = some (.cells (d.map enc ++ ex).toArray e (0, 0)) := hb
    rw [if_pos rfl, this]
    show some (Obj.cells (putCells enc 0 d'.toArray (d.map enc ++ ex).toArray) e (0, 0)) = _
    rw [putCells_front d' (d.map enc) ex (by rw [List.length_map]; exact hl.symm)]
  · intro k hk
    show ((Go.Sort.ahead w n).heap.modify b _)[k]? = _
    rw [Array.getElem?_modify, if_neg (fun e => hk e.symm)]
    rfl
end
end SX
namespace SX
open Go Go.Proofs Go.Sort Go.RowKit
abbrev toB (l : List UInt8) : ByteArray := ⟨l.toArray⟩
abbrev byL (x : ByteArray) : List UInt8 := x.data.toList
theorem toB_byL (x : ByteArray) : toB (byL x) = x := by cases x; rfl
def srtS (xs : List ByteArray) : List ByteArray := ((xs.map byL).mergeSort fun x y => decide (x ≤ y)).map toB
def cptS (xs : List ByteArray) : List ByteArray := (Lib.compact (xs.map byL)).map toB
theorem scsv_map (xs : List ByteArray) : xs.flatMap scsv = (xs.map byL).map encStr := by
  induction xs with
  | nil => rfl
  | cons x xs ih => rw [List.flatMap_cons, ih]; show Value.string x :: _ = Value.string (toB (byL x)) :: _; rw [toB_byL]; rfl
theorem scsv_map2 (ls : List (List UInt8)) : (ls.map toB).flatMap scsv = ls.map encStr := by
  induction ls with
  | nil => rfl
  | cons x xs ih => rw [List.map_cons, List.flatMap_cons, ih]; rfl
theorem srtS_len (xs : List ByteArray) : (srtS xs).length = xs.length := by
  unfold srtS; rw [List.length_map, (List.mergeSort_perm ..).length_eq, List.length_map]
theorem cptS_le (xs : List ByteArray) : (cptS xs).length ≤ xs.length := by
  unfold cptS; rw [List.length_map]; have := Lib.compact_length_le (xs.map byL); rw [List.length_map] at this; exact this
theorem sort_strs {P : Program} {f : FuncId} {e : TypeId}
    (h : ∀ (blk off cap : Nat) (ss : List (List UInt8)) (w : World), Holds encStr w blk off ss.toArray → blk < w.heap.size → ss.length < 4611686018427387904 →
      Calls P f #[.slice (some ⟨blk, off, none⟩) ss.length cap] w fun x w' => x = .returned (.tuple #[]) ∧ ∃ n os, w' = Go.Sort.grow (putRow encStr (Go.Sort.ahead w n) blk off (ss.mergeSort fun x y => decide (x ≤ y)).toArray) os)
    (h0 : ∀ (p : Option Addr) (cap : Nat) (w : World), Calls P f #[.slice p 0 cap] w fun x w' => x = .returned (.tuple #[]) ∧ w' = w)
    (v : Value) (xs : List ByteArray) (hl : xs.length ≤ 1099511627776) : Spec P f [v] [own e 1 v xs.length (xs.flatMap scsv)] (fun r L => r = .tuple #[] ∧ L = [own e 1 v xs.length ((srtS xs).flatMap scsv)]) := by
  refine Spec.own_cases (L := []) (fun hv h1 _ => ?_) (fun b cap ex hv h1 h2 h3 h4 => ?_)
  · subst hv
    obtain rfl := List.eq_nil_of_length_eq_zero h1
    intro E w hh
    refine (h0 none 0 w).mono fun x w' ⟨e1, e2⟩ => ?_
    subst e1 e2
    have e : srtS [] = [] := List.eq_nil_of_length_eq_zero (by rw [srtS_len]; rfl)
    rw [e]
    exact ⟨_, _, rfl, ⟨rfl, rfl⟩, hh.ent own_nil_ent⟩
  · subst hv
    intro E w hh
    rw [scsv_map] at hh
    have hb := hh.one_get .here
    have hcall := h b 0 cap (xs.map byL) w (holds_front hb) (Array.getElem?_eq_some_iff.1 hb).1 (by rw [List.length_map]; omega)
    rw [List.length_map] at hcall
    refine hcall.mono fun x w' ⟨e1, n, os, e2⟩ => ?_
    subst e1 e2
    refine ⟨_, _, rfl, ⟨rfl, rfl⟩, ?_⟩
    have := H.sorted (n := n) (os := os) (d' := (xs.map byL).mergeSort fun x y => decide (x ≤ y)) hh (List.mergeSort_perm ..).length_eq
    rw [← scsv_map2] at this
    exact this.ent (own_close (n := 1) (by rw [flat_length scsv_len]; show (srtS xs).length * 1 = _; rw [srtS_len]) h4 h1 h2)
theorem compact_strs {P : Program} {f : FuncId} {e : TypeId}
    (h : ∀ (blk off cap : Nat) (zs : List (List UInt8)) (w : World), Holds encStr w blk off zs.toArray → zs.length ≤ 9223372036854775807 → zs.length ≤ cap →
      Calls P f #[.slice (some ⟨blk, off, none⟩) zs.length cap] w fun x w' => x = .returned (.slice (some ⟨blk, off, none⟩) (Lib.compact zs).length cap) ∧ ∃ q, w' = putRow encStr (Go.Sort.ahead w q) blk off (Lib.compact zs ++ List.replicate (zs.length - (Lib.compact zs).length) []).toArray)
    (h0 : ∀ (p : Option Addr) (cap : Nat) (w : World), Calls P f #[.slice p 0 cap] w fun x w' => x = .returned (.slice p 0 cap) ∧ w' = w)
    (v : Value) (xs : List ByteArray) (hl : xs.length ≤ 1099511627776) : Spec P f [v] [own e 1 v xs.length (xs.flatMap scsv)] (fun r L => L = [own e 1 r (cptS xs).length ((cptS xs).flatMap scsv)]) := by
  refine Spec.own_cases (L := []) (fun hv h1 _ => ?_) (fun b cap ex hv h1 h2 h3 h4 => ?_)
  · subst hv
    obtain rfl := List.eq_nil_of_length_eq_zero h1
    intro E w hh
    refine (h0 none 0 w).mono fun x w' ⟨e1, e2⟩ => ?_
    subst e1 e2
    have e : cptS [] = [] := List.eq_nil_of_length_eq_zero (by have := cptS_le []; simpa using this)
    rw [e]
    exact ⟨_, _, rfl, rfl, hh.ent own_nil_ent⟩
  · subst hv
    intro E w hh
    rw [scsv_map] at hh
    have hb := hh.one_get .here
    have hcall := h b 0 cap (xs.map byL) w (holds_front hb) (by rw [List.length_map]; omega) (by rw [List.length_map]; exact h1)
    rw [List.length_map] at hcall
    refine hcall.mono fun x w' ⟨e1, q, e2⟩ => ?_
    subst e1 e2
    have hle := cptS_le xs
    unfold cptS at hle
    rw [List.length_map] at hle
    refine ⟨_, _, rfl, rfl, ?_⟩
    have := H.sorted (n := q) (os := #[]) (d' := Lib.compact (xs.map byL) ++ List.replicate (xs.length - (Lib.compact (xs.map byL)).length) []) hh (by rw [List.length_append, List.length_replicate, List.length_map]; omega)
    rw [grow_empty, List.map_append, List.append_assoc, ← scsv_map2] at this
    have hl2 : (cptS xs).length = (Lib.compact (xs.map byL)).length := by unfold cptS; rw [List.length_map]
    rw [← hl2]
    rw [← hl2] at this
    exact this.ent (own_close (n := 1) (by rw [flat_length scsv_len]; rfl) (by rw [List.length_append, List.length_map, List.length_replicate, h4]; omega) (by omega) h2)
/-! ## the paths, plainly -/
theorem blLt (a b : ByteArray) : strLt a b = true ↔ byL a < byL b := by
  unfold strLt; rw [Lib.toList_data, Lib.toList_data, bl_iff]; exact Iff.rfl
theorem le_bl (a b : List UInt8) : decide (a ≤ b) = true ↔ strLt (toB b) (toB a) = false := by
  rw [decide_eq_true_iff, ← Bool.not_eq_true, blLt]; exact Iff.rfl
theorem srtS_pw (xs : List ByteArray) : (srtS xs).Pairwise fun a b => strLt b a = false := by
  have := List.pairwise_mergeSort (le := fun x y : List UInt8 => decide (x ≤ y)) (fun a b c h1 h2 => ?_) (fun a b => ?_) (xs.map byL)
  · unfold srtS
    rw [List.pairwise_map]
    exact this.imp fun {a b} h => (le_bl a b).1 h
  · rw [le_bl] at *
    cases h : strLt (toB c) (toB a) with
    | false => rfl
    | true =>
      rcases strLt_total (toB a) (toB b) with k | k | k
      · rw [strLt_trans h k] at h2; cases h2
      · rw [← k] at h2; rw [h] at h2; cases h2
      · rw [k] at h1; cases h1
  · show (decide (a ≤ b) || decide (b ≤ a)) = true
    rw [Bool.or_eq_true, le_bl, le_bl]
    cases h : strLt (toB b) (toB a) with
    | false => exact .inl rfl
    | true => exact .inr (strLt_asym h)
theorem srtS_mem (xs : List ByteArray) (p : ByteArray) : p ∈ srtS xs ↔ p ∈ xs := by
  unfold srtS
  rw [List.mem_map]
  constructor
  · rintro ⟨l, hl, rfl⟩
    rw [(List.mergeSort_perm ..).mem_iff, List.mem_map] at hl
    obtain ⟨x, hx, rfl⟩ := hl
    rw [toB_byL]; exact hx
  · intro h
    exact ⟨byL p, by rw [(List.mergeSort_perm ..).mem_iff]; exact List.mem_map_of_mem h, toB_byL p⟩
theorem cpt_inv (d : List ByteArray) (hs : d.Pairwise fun a b => strLt b a = false) : ∀ m, m ≤ d.length → ((Lib.compactUpTo (d.map byL).toArray m).map toB).Pairwise (fun a b => strLt a b = true) ∧ (∀ p, p ∈ (Lib.compactUpTo (d.map byL).toArray m).map toB ↔ ∃ j, j < m ∧ d[j]? = some p) := by
  intro m
  induction m with
  | zero => intro _; exact ⟨List.Pairwise.nil, fun p => by simp [Lib.compactUpTo]⟩
  | succ m ih =>
    intro hm
    obtain ⟨i1, i2⟩ := ih (by omega)
    have hget : ∀ j, j < d.length → (d.map byL).toArray[j]! = byL d[j]! := fun j hj => by
      rw [getElem!_pos _ j (by simpa using hj), getElem!_pos d j hj]; simp
    rw [Lib.compactUpTo_succ, List.map_append]
    have hdm : d[m]? = some d[m]! := by rw [getElem!_pos d m (by omega), List.getElem?_eq_getElem]
    by_cases hk : Lib.keeps (d.map byL).toArray m = true
    · rw [if_pos hk, hget m (by omega)]
      simp only [List.map_cons, List.map_nil]
      rw [toB_byL]
      refine ⟨List.pairwise_append.2 ⟨i1, List.pairwise_singleton _ _, fun a ha b hb => ?_⟩, fun p => ?_⟩
      · simp only [List.mem_singleton] at hb
        subst hb
        obtain ⟨j, hj, hja⟩ := (i2 a).1 ha
        have hm0 : m ≠ 0 := by omega
        unfold Lib.keeps at hk
        rw [decide_eq_true_iff, hget m (by omega), hget (m - 1) (by omega)] at hk
        have hne := hk.resolve_left hm0
        have hne' : d[m]! ≠ d[m - 1]! := fun e => hne (by rw [e])
        have hp : d[m - 1]? = some d[m - 1]! := by rw [getElem!_pos d (m - 1) (by omega), List.getElem?_eq_getElem]
        have hle : ∀ i k x y, i < k → d[i]? = some x → d[k]? = some y → strLt y x = false := fun i k x y hik hx hy => by
          obtain ⟨h1, rfl⟩ := List.getElem?_eq_some_iff.1 hx
          obtain ⟨h2, rfl⟩ := List.getElem?_eq_some_iff.1 hy
          exact List.pairwise_iff_getElem.1 hs i k h1 h2 hik
        have k1 : strLt d[m - 1]! d[m]! = true := by
          rcases strLt_total d[m - 1]! d[m]! with k | k | k
          · exact k
          · exact absurd k.symm hne'
          · rw [hle _ _ _ _ (by omega) hp hdm] at k; cases k
        by_cases hj2 : j = m - 1
        · subst hj2; rw [hp] at hja; cases hja; exact k1
        · have k2 := hle j (m - 1) a _ (by omega) hja hp
          rcases strLt_total a d[m - 1]! with k | k | k
          · exact strLt_trans k k1
          · rw [k]; exact k1
          · rw [k] at k2; cases k2
      · rw [List.mem_append, i2, List.mem_singleton]
        constructor
        · rintro (⟨j, hj, h⟩ | rfl)
          · exact ⟨j, by omega, h⟩
          · exact ⟨m, by omega, hdm⟩
        · rintro ⟨j, hj, h⟩
          by_cases hjm : j = m
          · subst hjm; rw [hdm] at h; exact .inr (Option.some.inj h).symm
          · exact .inl ⟨j, by omega, h⟩
    · rw [if_neg hk, List.map_nil, List.append_nil]
      refine ⟨i1, fun p => ?_⟩
      rw [i2]
      constructor
      · rintro ⟨j, hj, h⟩; exact ⟨j, by omega, h⟩
      · rintro ⟨j, hj, h⟩
        by_cases hjm : j = m
        · subst hjm
          unfold Lib.keeps at hk
          rw [decide_eq_true_iff] at hk
          have hm0 : j ≠ 0 := fun e => hk (.inl e)
          have he : (d.map byL).toArray[j]! = (d.map byL).toArray[j - 1]! := Classical.byContradiction fun hne => hk (.inr hne)
          rw [hget j (by omega), hget (j - 1) (by omega)] at he
          have he' : d[j]! = d[j - 1]! := by rw [← toB_byL d[j]!, he, toB_byL]
          refine ⟨j - 1, by omega, ?_⟩
          rw [hdm, he'] at h
          rw [← h, getElem!_pos d (j - 1) (by omega), List.getElem?_eq_getElem]
        · exact ⟨j, by omega, h⟩
/-- sorted and made compact: the texts, each once, rising -/
def uniS (xs : List ByteArray) : List ByteArray := cptS (srtS xs)
theorem uniS_rises (xs : List ByteArray) : (uniS xs).Pairwise fun a b => strLt a b = true := by
  have := (cpt_inv (srtS xs) (srtS_pw xs) (srtS xs).length (Nat.le_refl _)).1
  unfold uniS cptS Lib.compact; rw [List.length_map]; exact this
theorem uniS_mem (xs : List ByteArray) (p : ByteArray) : p ∈ uniS xs ↔ p ∈ xs := by
  have := (cpt_inv (srtS xs) (srtS_pw xs) (srtS xs).length (Nat.le_refl _)).2 p
  unfold uniS cptS Lib.compact; rw [List.length_map, this, ← srtS_mem, List.mem_iff_getElem?]
  constructor
  · rintro ⟨j, _, h⟩; exact ⟨j, h⟩
  · rintro ⟨j, h⟩; exact ⟨j, (List.getElem?_eq_some_iff.1 h).1, h⟩
theorem uniS_len (xs : List ByteArray) : (uniS xs).length ≤ xs.length := by
  have h1 := cptS_le (srtS xs); rw [srtS_len] at h1; exact h1
end SX
namespace SX
open Go
/-- a number of 32 bits -/
def U32 (n : Int) : Prop := 0 ≤ n ∧ n ≤ 4294967295
theorem U32.bv {n : Int} (h : U32 n) : n = ((BitVec.ofInt 32 n).toNat : Int) := by
  obtain ⟨h1, h2⟩ := h
  rw [BitVec.toNat_ofInt]
  omega
def U32s (l : List En) : Prop := ∀ e ∈ l, U32 e.2
theorem u32_zero : U32 0 := ⟨by decide, by decide⟩
theorem U32s.lookE {l : List En} (h : U32s l) (p : ByteArray) : U32 (lookE l p) := by
  induction l with
  | nil => exact u32_zero
  | cons e l ih =>
    unfold SX.lookE
    split
    · exact h e (.head _)
    · exact ih fun x hx => h x (.tail _ hx)
theorem U32s.lookB {l : List En} (h : U32s l) (p : ByteArray) : U32 (lookB l p) := by
  unfold SX.lookB
  split
  · rename_i e he
    split
    · exact h e (List.mem_of_getElem? he)
    · exact u32_zero
  · exact u32_zero
def markZ (b o t : Int) : Int := ((markW (BitVec.ofInt 32 b) (BitVec.ofInt 32 o) (BitVec.ofInt 32 t)).toNat : Int)
/-- what stands at a path, and whether it is a conflict -/
def oneE (b o t : Int) : Int × Bool := if o = t ∨ b = t then (o, false) else if b = o then (t, false) else (markZ b o t, true)
/-- the rows of a merge: a path, and what the three have there -/
abbrev Rw : Type := ByteArray × Int × Int × Int
def outR1 (r : Rw) : List En := if (oneE r.2.1 r.2.2.1 r.2.2.2).1 = 0 then [] else [(r.1, (oneE r.2.1 r.2.2.1 r.2.2.2).1)]
def cfR1 (r : Rw) : List Cf := if (oneE r.2.1 r.2.2.1 r.2.2.2).2 = true then [r] else []
def outR (rs : List Rw) : List En := rs.flatMap outR1
def cfR (rs : List Rw) : List Cf := rs.flatMap cfR1
theorem outR_len (rs : List Rw) : (outR rs).length ≤ rs.length := by
  induction rs with
  | nil => exact Nat.le_refl _
  | cons r rs ih =>
    rw [outR, List.flatMap_cons, List.length_append, List.length_cons]
    have : (outR1 r).length ≤ 1 := by unfold outR1; split <;> simp
    unfold outR at ih; omega
theorem cfR_len (rs : List Rw) : (cfR rs).length ≤ rs.length := by
  induction rs with
  | nil => exact Nat.le_refl _
  | cons r rs ih =>
    rw [cfR, List.flatMap_cons, List.length_append, List.length_cons]
    have : (cfR1 r).length ≤ 1 := by unfold cfR1; split <;> simp
    unfold cfR at ih; omega
def pathsE (a b c : List En) : List ByteArray := uniS (a.map (·.1) ++ b.map (·.1) ++ c.map (·.1))
/-- ours -/
def rowsB (a b c : List En) : List Rw := (pathsE a b c).map fun p => (p, lookB a p, lookB b p, lookB c p)
/-! ## the document's -/
def less1 (m : Option ByteArray) (l : List En) : Option ByteArray :=
  match l with
  | [] => m
  | e :: _ => match m with
    | none => some e.1
    | some p => if strLt e.1 p then some e.1 else some p
def leastE (a b c : List En) : Option ByteArray := less1 (less1 (less1 none a) b) c
def atE (l : List En) (p : ByteArray) : Int × List En :=
  match l with
  | [] => (0, [])
  | e :: r => if strEq e.1 p then (e.2, r) else (0, e :: r)
def rowsF : Nat → List En → List En → List En → List Rw
  | 0, _, _, _ => []
  | n + 1, a, b, c => match leastE a b c with
    | none => []
    | some p => (p, (atE a p).1, (atE b p).1, (atE c p).1) :: rowsF n (atE a p).2 (atE b p).2 (atE c p).2
/-- what less1 says -/
theorem less1_spec (m : Option ByteArray) (l : List En) : (less1 m l = none ↔ m = none ∧ l = []) ∧
    (∀ p, less1 m l = some p → (m = some p ∨ ∃ e r, l = e :: r ∧ e.1 = p) ∧ (∀ q, m = some q → strLt q p = false) ∧ (∀ e r, l = e :: r → strLt e.1 p = false)) := by
  cases l with
  | nil =>
    refine ⟨by simp [less1], fun p hp => ?_⟩
    simp only [less1] at hp
    exact ⟨.inl hp, (fun q hq => by rw [hp] at hq; cases hq; exact strLt_irrefl _), (fun e r h => by cases h)⟩
  | cons e r =>
    cases m with
    | none =>
      refine ⟨by simp [less1], fun p hp => ?_⟩
      simp only [less1, Option.some.injEq] at hp
      exact ⟨.inr ⟨e, r, rfl, hp⟩, (fun q hq => by cases hq), (fun e' r' h => by cases h; rw [hp]; exact strLt_irrefl _)⟩
    | some q =>
      cases hc : strLt e.1 q with
      | true =>
        refine ⟨by simp [less1, hc], fun p hp => ?_⟩
        simp only [less1, hc, if_true, Option.some.injEq] at hp
        refine ⟨.inr ⟨e, r, rfl, hp⟩, (fun q' hq => ?_), (fun e' r' h => by cases h; rw [hp]; exact strLt_irrefl _)⟩
        cases hq; rw [← hp]; exact strLt_asym hc
      | false =>
        refine ⟨by simp [less1, hc], fun p hp => ?_⟩
        simp only [less1, hc, Bool.false_eq_true, if_false, Option.some.injEq] at hp
        refine ⟨.inl (by rw [hp]), (fun q' hq => ?_), (fun e' r' h => ?_)⟩
        · cases hq; rw [hp]; exact strLt_irrefl _
        · cases h; rw [← hp]; exact hc
/-- at the least path, of a rising list: what the list has there, and what is left rises above it -/
theorem at_spec {l : List En} {p : ByteArray} (hr : Rises l) (hp : ∀ e r, l = e :: r → strLt e.1 p = false) :
    (atE l p).1 = lookE l p ∧ Rises (atE l p).2 ∧ (∀ e ∈ (atE l p).2, strLt p e.1 = true) ∧ (∀ q, q ∈ l.map (·.1) ↔ (q ∈ (atE l p).2.map (·.1) ∨ (q = p ∧ q ∈ l.map (·.1)))) ∧ (∀ q, q ≠ p → lookE (atE l p).2 q = lookE l q) ∧ (atE l p).2.length ≤ l.length := by
  cases l with
  | nil => exact ⟨rfl, hr, (fun e h => by cases h), (fun q => by simp [atE]), (fun _ _ => rfl), Nat.le_refl _⟩
  | cons e r =>
    obtain ⟨k1, k2⟩ := List.pairwise_cons.1 hr
    cases he : strEq e.1 p with
    | true =>
      have hee := strEq_iff.1 he
      have h1 : atE (e :: r) p = (e.2, r) := by simp [atE, he]
      rw [h1]
      refine ⟨by simp [lookE, he], k2, (fun x hx => hee ▸ k1 x hx), (fun q => ?_), (fun q hq => ?_), by simp⟩
      · simp only [List.map_cons, List.mem_cons]
        constructor
        · rintro (h | h)
          · exact .inr ⟨h.trans hee, .inl h⟩
          · exact .inl h
        · rintro (h | ⟨_, h⟩)
          · exact .inr h
          · exact h
      · have : strEq e.1 q = false := strEq_false.2 fun h => hq (h.symm.trans hee)
        simp [lookE, this]
    | false =>
      have h1 : atE (e :: r) p = (0, e :: r) := by simp [atE, he]
      rw [h1]
      have hlt : strLt p e.1 = true := by
        rcases strLt_total p e.1 with k | k | k
        · exact k
        · rw [k, strEq_refl] at he; cases he
        · rw [hp e r rfl] at k; cases k
      have hall : ∀ x ∈ e :: r, strLt p x.1 = true := by
        intro x hx
        rcases List.mem_cons.1 hx with rfl | hx
        · exact hlt
        · exact strLt_trans hlt (k1 x hx)
      refine ⟨(lookE_none fun x hx => strEq_false.2 fun h => strLt_ne (hall x hx) h.symm).symm, hr, hall, (fun q => ?_), (fun _ _ => rfl), Nat.le_refl _⟩
      exact ⟨.inl, fun h => h.elim id And.right⟩
end SX
namespace SX
open Go
def pathIn (a b c : List En) (q : ByteArray) : Prop := q ∈ a.map (·.1) ∨ q ∈ b.map (·.1) ∨ q ∈ c.map (·.1)
theorem least_some {a b c : List En} {p : ByteArray} (h : leastE a b c = some p) : (∀ e r, a = e :: r → strLt e.1 p = false) ∧ (∀ e r, b = e :: r → strLt e.1 p = false) ∧ (∀ e r, c = e :: r → strLt e.1 p = false) ∧ ((∃ e r, a = e :: r ∧ e.1 = p) ∨ (∃ e r, b = e :: r ∧ e.1 = p) ∨ (∃ e r, c = e :: r ∧ e.1 = p)) := by
  unfold leastE at h
  generalize h1 : less1 none a = m1 at h
  generalize h2 : less1 m1 b = m2 at h
  obtain ⟨c1, c2, c3⟩ := (less1_spec m2 c).2 p h
  have tr : ∀ x y z : ByteArray, strLt y x = false → strLt z y = false → strLt z x = false := by
    intro x y z k1 k2
    cases hz : strLt z x with
    | false => rfl
    | true =>
      rcases strLt_total z y with k | k | k
      · rw [k] at k2; cases k2
      · rw [k] at hz; rw [hz] at k1; cases k1
      · rw [strLt_trans k hz] at k1; cases k1
  have hb : ∀ q, m2 = some q → (∀ e r, b = e :: r → strLt e.1 q = false) ∧ (∀ q', m1 = some q' → strLt q' q = false) := fun q hq => by
    rw [← h2] at hq
    obtain ⟨_, b2, b3⟩ := (less1_spec m1 b).2 q hq
    exact ⟨b3, b2⟩
  have ha : ∀ q, m1 = some q → (∀ e r, a = e :: r → strLt e.1 q = false) := fun q hq => by
    rw [← h1] at hq
    exact ((less1_spec none a).2 q hq).2.2
  refine ⟨fun e r he => ?_, fun e r he => ?_, c3, ?_⟩
  · cases hm1 : m1 with
    | none =>
      rw [hm1] at h1
      have := ((less1_spec none a).1.1 h1).2
      rw [this] at he; cases he
    | some q1 =>
      cases hm2 : m2 with
      | none =>
        rw [hm2] at h2
        have := ((less1_spec m1 b).1.1 h2).1
        rw [hm1] at this; cases this
      | some q2 => exact tr _ _ _ (c2 q2 hm2) (tr _ _ _ ((hb q2 hm2).2 q1 hm1) (ha q1 hm1 e r he))
  · cases hm2 : m2 with
    | none =>
      rw [hm2] at h2
      have := ((less1_spec m1 b).1.1 h2).2
      rw [this] at he; cases he
    | some q2 => exact tr _ _ _ (c2 q2 hm2) ((hb q2 hm2).1 e r he)
  · rcases c1 with k | k
    · rw [← h2] at k
      rcases ((less1_spec m1 b).2 p k).1 with k' | k'
      · rw [← h1] at k'
        rcases ((less1_spec none a).2 p k').1 with k'' | k''
        · cases k''
        · exact .inl k''
      · exact .inr (.inl k')
    · exact .inr (.inr k)
theorem least_none {a b c : List En} (h : leastE a b c = none) : a = [] ∧ b = [] ∧ c = [] := by
  unfold leastE at h
  obtain ⟨h1, h2⟩ := (less1_spec _ c).1.1 h
  obtain ⟨h3, h4⟩ := (less1_spec _ b).1.1 h1
  exact ⟨((less1_spec _ a).1.1 h3).2, h4, h2⟩
abbrev cfs (l : List Cf) : List Value := l.flatMap encC
theorem outR_succ (R : List Rw) (r : Rw) : outR (R ++ [r]) = outR R ++ outR1 r := by unfold outR; rw [List.flatMap_append]; simp
theorem cfR_succ (R : List Rw) (r : Rw) : cfR (R ++ [r]) = cfR R ++ cfR1 r := by unfold cfR; rw [List.flatMap_append]; simp
theorem rowsF_spec (n : Nat) : ∀ a b c : List En, Rises a → Rises b → Rises c → a.length + b.length + c.length ≤ n →
    ((rowsF n a b c).map (·.1)).Pairwise (fun x y => strLt x y = true) ∧ (∀ r ∈ rowsF n a b c, r = (r.1, lookE a r.1, lookE b r.1, lookE c r.1)) ∧ (∀ q, q ∈ (rowsF n a b c).map (·.1) ↔ pathIn a b c q) := by
  induction n with
  | zero =>
    intro a b c _ _ _ hl
    obtain rfl := List.eq_nil_of_length_eq_zero (show a.length = 0 by omega)
    obtain rfl := List.eq_nil_of_length_eq_zero (show b.length = 0 by omega)
    obtain rfl := List.eq_nil_of_length_eq_zero (show c.length = 0 by omega)
    exact ⟨List.Pairwise.nil, (fun r h => by cases h), fun q => by simp [rowsF, pathIn]⟩
  | succ n ih =>
    intro a b c ha hb hc hl
    unfold rowsF
    cases hm : leastE a b c with
    | none =>
      obtain ⟨rfl, rfl, rfl⟩ := least_none hm
      exact ⟨List.Pairwise.nil, (fun r h => by cases h), fun q => by simp [pathIn]⟩
    | some p =>
      simp only []
      obtain ⟨la, lb, lc, hex⟩ := least_some hm
      obtain ⟨a1, a2, a3, a4, a5, a6⟩ := at_spec ha la
      obtain ⟨b1, b2, b3, b4, b5, b6⟩ := at_spec hb lb
      obtain ⟨c1, c2, c3, c4, c5, c6⟩ := at_spec hc lc
      have hdrop : ∀ (l : List En), (∃ e r, l = e :: r ∧ e.1 = p) → (atE l p).2.length + 1 ≤ l.length := by
        rintro l ⟨e, r, rfl, he⟩
        have : strEq e.1 p = true := strEq_iff.2 he
        simp [atE, this]
      have hlen : (atE a p).2.length + (atE b p).2.length + (atE c p).2.length ≤ n := by
        rcases hex with h | h | h
        · have := hdrop _ h; omega
        · have := hdrop _ h; omega
        · have := hdrop _ h; omega
      obtain ⟨i1, i2, i3⟩ := ih _ _ _ a2 b2 c2 hlen
      have hgt : ∀ q, pathIn (atE a p).2 (atE b p).2 (atE c p).2 q → strLt p q = true := by
        rintro q (h | h | h)
        · obtain ⟨e, he, rfl⟩ := List.mem_map.1 h; exact a3 e he
        · obtain ⟨e, he, rfl⟩ := List.mem_map.1 h; exact b3 e he
        · obtain ⟨e, he, rfl⟩ := List.mem_map.1 h; exact c3 e he
      refine ⟨?_, fun r hr => ?_, fun q => ?_⟩
      · rw [List.map_cons, List.pairwise_cons]
        exact ⟨fun q hq => hgt q ((i3 q).1 hq), i1⟩
      · rcases List.mem_cons.1 hr with rfl | hr
        · show (p, _, _, _) = (p, _, _, _)
          rw [a1, b1, c1]
        · have hne : r.1 ≠ p := fun h => by
            have := hgt r.1 ((i3 r.1).1 (List.mem_map_of_mem hr))
            rw [h, strLt_irrefl] at this; cases this
          have := i2 r hr
          rw [a5 _ hne, b5 _ hne, c5 _ hne] at this
          exact this
      · rw [List.map_cons, List.mem_cons, i3]
        show q = p ∨ _ ↔ _
        have hpp : pathIn a b c p := by
          rcases hex with ⟨e, r, rfl, rfl⟩ | ⟨e, r, rfl, rfl⟩ | ⟨e, r, rfl, rfl⟩
          · exact .inl (by simp)
          · exact .inr (.inl (by simp))
          · exact .inr (.inr (by simp))
        constructor
        · rintro (rfl | h | h | h)
          · exact hpp
          · exact .inl ((a4 q).2 (.inl h))
          · exact .inr (.inl ((b4 q).2 (.inl h)))
          · exact .inr (.inr ((c4 q).2 (.inl h)))
        · rintro (h | h | h)
          · rcases (a4 q).1 h with k | ⟨k, _⟩
            · exact .inr (.inl k)
            · exact .inl k
          · rcases (b4 q).1 h with k | ⟨k, _⟩
            · exact .inr (.inr (.inl k))
            · exact .inl k
          · rcases (c4 q).1 h with k | ⟨k, _⟩
            · exact .inr (.inr (.inr k))
            · exact .inl k
/-- strictly rising lists with the same members are the same -/
theorem rise_ext : ∀ {x y : List ByteArray}, x.Pairwise (fun a b => strLt a b = true) → y.Pairwise (fun a b => strLt a b = true) → (∀ q, q ∈ x ↔ q ∈ y) → x = y
  | [], [], _, _, _ => rfl
  | [], b :: y, _, _, h => by have := (h b).2 (.head _); cases this
  | a :: x, [], _, _, h => by have := (h a).1 (.head _); cases this
  | a :: x, b :: y, hx, hy, h => by
    obtain ⟨x1, x2⟩ := List.pairwise_cons.1 hx
    obtain ⟨y1, y2⟩ := List.pairwise_cons.1 hy
    have hab : a = b := by
      rcases List.mem_cons.1 ((h a).1 (.head _)) with k | k
      · exact k
      · rcases List.mem_cons.1 ((h b).2 (.head _)) with k' | k'
        · exact k'.symm
        · have h1 := y1 a k
          have h2 := x1 b k'
          rw [strLt_asym h1] at h2; cases h2
    subst hab
    congr 1
    refine rise_ext x2 y2 fun q => ?_
    constructor
    · intro hq
      rcases List.mem_cons.1 ((h q).1 (.tail _ hq)) with k | k
      · have := x1 q hq; rw [k, strLt_irrefl] at this; cases this
      · exact k
    · intro hq
      rcases List.mem_cons.1 ((h q).2 (.tail _ hq)) with k | k
      · have := y1 q hq; rw [k, strLt_irrefl] at this; cases this
      · exact k
theorem rows_same {n : Nat} {a b c : List En} (ha : Rises a) (hb : Rises b) (hc : Rises c) (hn : a.length + b.length + c.length ≤ n) : rowsF n a b c = rowsB a b c := by
  obtain ⟨h1, h2, h3⟩ := rowsF_spec n a b c ha hb hc hn
  have hp : (rowsF n a b c).map (·.1) = pathsE a b c := by
    refine rise_ext h1 (uniS_rises _) fun q => ?_
    rw [h3, pathsE, uniS_mem, List.mem_append, List.mem_append, or_assoc]; rfl
  have e : rowsF n a b c = ((rowsF n a b c).map (·.1)).map fun p => (p, lookE a p, lookE b p, lookE c p) := by
    rw [List.map_map]
    conv => lhs; rw [← List.map_id (rowsF n a b c)]
    exact List.map_congr_left fun r hr => h2 r hr
  rw [e, hp]
  unfold rowsB
  exact List.map_congr_left fun p _ => by rw [look_same ha, look_same hb, look_same hc]
end SX
namespace SX
open Go Go.Proofs
theorem strLt_data (a b : ByteArray) : strLt a b = Op.bytesLess a.data.toList b.data.toList := by unfold strLt; rw [Lib.toList_data, Lib.toList_data]
theorem markW_top (b o t : W32) : (markW b o t).toNat / 2147483648 = 1 := by
  unfold markW
  generalize sumW (four b ++ four o ++ four t) = s
  have h : (s ||| 2147483648#32) >>> 31 = 1#32 := by
    apply BitVec.eq_of_getLsbD_eq
    intro i hi
    rw [BitVec.getLsbD_ushiftRight, BitVec.getLsbD_or]
    by_cases h0 : i = 0
    · subst h0
      have : (2147483648#32).getLsbD (31 + 0) = true := by decide
      rw [this, Bool.or_true]; decide
    · have h1 : s.getLsbD (31 + i) = false := BitVec.getLsbD_of_ge _ _ (by omega)
      have h2 : (2147483648#32).getLsbD (31 + i) = false := BitVec.getLsbD_of_ge _ _ (by omega)
      have h3 : (1#32).getLsbD i = false := by simp [BitVec.getLsbD_one, h0]
      rw [h1, h2, h3]; rfl
  have := congrArg BitVec.toNat h
  rw [BitVec.toNat_ushiftRight, Nat.shiftRight_eq_div_pow] at this
  exact this
theorem markZ_top (b o t : Int) : 2147483648 ≤ markZ b o t := by
  have := markW_top (BitVec.ofInt 32 b) (BitVec.ofInt 32 o) (BitVec.ofInt 32 t)
  unfold markZ; omega
def k1 : List En := [(⟨#[97]⟩, 1), (⟨#[98]⟩, 2), (⟨#[99]⟩, 3)]
def k2 : List En := [(⟨#[97]⟩, 1), (⟨#[98]⟩, 5), (⟨#[99]⟩, 3)]
def k3 : List En := [(⟨#[97]⟩, 4), (⟨#[98]⟩, 2)]
def k4 : List En := [(⟨#[97]⟩, 1)]
def k5 : List En := [(⟨#[97]⟩, 2)]
theorem lt_ab : strLt ⟨#[97]⟩ ⟨#[98]⟩ = true := by rw [strLt_data]; decide
theorem lt_ac : strLt ⟨#[97]⟩ ⟨#[99]⟩ = true := by rw [strLt_data]; decide
theorem lt_bc : strLt ⟨#[98]⟩ ⟨#[99]⟩ = true := by rw [strLt_data]; decide
theorem rises3 (a b c : Int) : Rises [(⟨#[97]⟩, a), (⟨#[98]⟩, b), (⟨#[99]⟩, c)] := by
  simp [Rises, lt_ab, lt_ac, lt_bc]
theorem rises2 (a b : Int) : Rises [(⟨#[97]⟩, a), (⟨#[98]⟩, b)] := by
  simp [Rises, lt_ab]
theorem rises1 (p : ByteArray) (a : Int) : Rises [(p, a)] := List.pairwise_singleton _ _
theorem rows_k1 : rowsB k1 k2 k3 = [(⟨#[97]⟩, 1, 1, 4), (⟨#[98]⟩, 2, 5, 2), (⟨#[99]⟩, 3, 3, 0)] := by
  rw [← rows_same (n := 8) (a := k1) (b := k2) (c := k3) (rises3 _ _ _) (rises3 _ _ _) (rises2 _ _) (by decide)]
  simp [rowsF, leastE, less1, k1, k2, k3, strLt_irrefl, strEq_refl, atE]
theorem rows_k4 : rowsB k4 k5 [] = [(⟨#[97]⟩, 1, 2, 0)] := by
  rw [← rows_same (n := 2) (a := k4) (b := k5) (c := []) (rises1 _ _) (rises1 _ _) List.Pairwise.nil (by decide)]
  simp [rowsF, leastE, less1, k4, k5, strLt_irrefl, strEq_refl, atE]
theorem out_k1 : outR (rowsB k1 k2 k3) = [(⟨#[97]⟩, 4), (⟨#[98]⟩, 5)] := by
  rw [rows_k1]; decide
theorem cf_k1 : cfR (rowsB k1 k2 k3) = [] := by
  rw [rows_k1]; decide
theorem one_k4 : oneE 1 2 0 = (markZ 1 2 0, true) := by
  unfold oneE; rw [if_neg (by decide), if_neg (by decide)]
theorem out_k4 : outR (rowsB k4 k5 []) = [(⟨#[97]⟩, markZ 1 2 0)] := by
  rw [rows_k4]
  have h : ¬ (oneE 1 2 0).1 = 0 := by rw [one_k4]; have := markZ_top 1 2 0; dsimp only; generalize markZ 1 2 0 = z at this; omega
  rw [outR, List.flatMap_cons, List.flatMap_nil, List.append_nil, outR1]
  dsimp only
  rw [if_neg h, one_k4]
theorem cf_k4 : cfR (rowsB k4 k5 []) = [(⟨#[97]⟩, 1, 2, 0)] := by
  rw [rows_k4]
  have h : (oneE 1 2 0).2 = true := by rw [one_k4]
  rw [cfR, List.flatMap_cons, List.flatMap_nil, List.append_nil, cfR1]
  dsimp only
  rw [if_pos h]
end SX
namespace SX
open Go
end SX
namespace SX
open Go
section
variable {P : Program} {env : Env} {L : List Assn} {μ : PH}
/-- a slice expression with three indexes, from the first element on -/
theorem pu_slice3 {t e n by_ : Nat} [h : TSl P t e n by_] {x y z : Operand} {A : Option Addr} {l c : Nat} {k1 k2 : IntKind} {hi mx : Int} (a b : Nat) (hx : evalE env x = some (.slice A l c)) (hy : evalE env y = some (.int k1 hi)) (hz : evalE env z = some (.int k2 mx)) (h1 : hi = (a : Int)) (h2 : mx = (b : Int)) (hab : a ≤ b) (hc : b ≤ c) :
    Pu P env (.slice t x none (some y) (some z)) (.slice A a b) := fun ρ hρ _ _ _ _ _ w => by
  obtain ⟨i, hu, hi, hin, hib⟩ := h.ok
  subst h1 h2
  have e2 : ¬ ((c : Int) < (b : Int)) := by omega
  have q1 : (0 : Int) ≤ (a : Int) ∧ (a : Int) ≤ (b : Int) := by omega
  have q2 : (0 : Int) ≤ (b : Int) ∧ (b : Int) ≤ (c : Int) := by omega
  simp [execOp, hρ x _ hx, hρ y _ hy, hρ z _ hz, Instr.sliceAt, Instr.slice, run_underlying hu, Instr.sliceBounds, Instr.sliceBound, asIntOf, Go.sizeOf, typeInfo, hi, q1, q2, hab, hc]
  intro _
  have h0 : ∀ a : Addr, a.add 0 = a := fun a => by unfold Addr.add; split <;> simp_all
  cases A <;> simp [h0]
/-- a slice that is full and only read, or one of the call's own -/
def Cat (μ : PH) (e n : Nat) (v : Value) (l : Nat) (xs : List Value) (L R : List Assn) : Prop :=
  (L = ro μ :: R ∧ Row μ v n l xs ∧ ∃ A, v = .slice A l l) ∨ L = own e n v l xs :: ro μ :: R
end
section
variable {P : Program} {env : Env} {L R : List Assn} {μ : PH}
theorem H.append_full {E : Ctx} {w : World} {t e : TypeId} {n by_ : Nat} (ht : TSl P t e n by_) {zs : List Value} (hz : TZero P e zs) (hzl : zs.length = n) (hn0 : 0 < n)
    {v s : Value} {l m : Nat} {xs news : List Value} {A : Option Addr} (hv : v = .slice A l l) (hr : Row μ v n l xs) (h : H E w (ro μ :: R)) (hs : Row μ s n m news) (h63 : l + m ≤ maxLen) (hby : (l + m) * by_ ≤ 140737488355328) (ty : TypeId) :
    ∃ v' w' L', (Builtin.append_ #[t, t] ty #[v, s]).run P w = .ok v' w' ∧ H E w' L' ∧ Cat μ e n v' (l + m) (xs ++ news) L' R := by
  obtain ⟨i, hu, hi, hin, hib⟩ := ht.ok
  obtain ⟨i', z, hi', hzz, hzc⟩ := hz.ok
  have : i' = i := Option.some.inj (hi'.symm.trans hi)
  subst this
  subst hv
  have hs' := hs
  obtain ⟨hsl, B, c, rfl, _, _, _, hpos⟩ := hs
  by_cases hm0 : m = 0
  · subst hm0
    have hnil : news = [] := List.eq_nil_of_length_eq_zero (by rw [hsl]; simp)
    subst hnil
    refine ⟨.slice A l l, w, _, ?_, h, .inl ⟨rfl, by simpa using hr, A, rfl⟩⟩
    have hld : ∀ B : Addr, (loadCells B 0).run P w = .ok #[] w := fun B => run_loadCells_list (P := P) w B [] (by simp)
    cases A <;> cases B <;> simp [Builtin.append_, run_underlying hu, Go.sizeOf, typeInfo, hi, Builtin.lenOf, Builtin.firstCells, storeCells, hld]
  · by_cases hl0 : l = 0
    · -- an empty slice: nil or not, what comes is new
      subst hl0
      have hxn : xs = [] := List.eq_nil_of_length_eq_zero (by rw [hr.1]; simp)
      subst hxn
      obtain ⟨ab, off, rfl, hrow⟩ := hpos (by omega)
      have hcells : ∀ j u, news[j]? = some u → w.cell? ((⟨ab, off, none⟩ : Addr).add j) = some u := fun j u hj => by
        rw [addr_add]; exact ro_cell (L := ro μ :: R) h (hrow j u hj)
      have hld : ∀ (w : World) (B : Addr), (loadCells B 0).run P w = .ok #[] w := fun w B => run_loadCells_list (P := P) w B [] (by simp)
      have hf := run_firstCells_some (P := P) w.drew i'.size m ⟨ab, off, none⟩ m c news (by rw [hsl, hin]) (by simpa using hcells)
      have h63' : ¬ (9223372036854775807 < (m : Int)) := by simp only [maxLen] at h63; omega
      have h48 : Builtin.nextslicecap (0 + m) 0 * i'.bytes ≤ 281474976710656 := growslice_fits (by omega) (by rw [hib]; exact hby)
      rw [Nat.zero_add] at h48
      have h48' : ¬ (281474976710656 < Builtin.nextslicecap m 0 * i'.bytes) := by omega
      have hge := grownCap_ge w m 0 e
      have hcm : grownCap w m 0 e ≤ maxLen := grownCap_le_maxLen w m 0 e (by omega)
      have hrun : (Builtin.append_ #[t, t] ty #[.slice A 0 0, .slice (some ⟨ab, off, none⟩) m c]).run P w = .ok (.slice (some ⟨w.heap.size, 0, none⟩) m (grownCap w m 0 e)) (w.drew.alloc (.cells (news.toArray ++ Builtin.zeroCells z.cells (grownCap w m 0 e - m)) e)) := by
        have hfo : (Builtin.firstCells i'.size 0 (.slice A 0 0)).run P w.drew = .ok #[] w.drew := by cases A <;> simp [Builtin.firstCells, hld]
        simp [Builtin.append_, run_underlying hu, Go.sizeOf, typeInfo, zeroValue, hi, hzz, Builtin.lenOf, hm0, h63', h48', Question.forced, hf, hfo, newRow, grownCap]
      rw [Nat.zero_add]
      refine ⟨_, _, own e n (.slice (some ⟨w.heap.size, 0, none⟩) m (grownCap w m 0 e)) m news :: ro μ :: R, hrun, ?_, .inr rfl⟩
      refine (H.alloc (w := w.drew) h.drew _).ent (Ent.imp fun mm hm => ⟨hsl, .inr ⟨w.heap.size, _, _, rfl, hm, hge, hcm, ?_, ?_⟩⟩)
      · simp only [Array.size_append, List.size_toArray, size_zeroCells, hzc, hzl, hsl, ← Nat.add_mul]
        congr 1
        omega
      · simp only [Array.toList_append]
        rw [← hsl]
        exact List.take_left
    · obtain ⟨hxl, A', cap, hA, hlc, hcm0, _, hpr⟩ := hr
      obtain ⟨rb, ro_, hA2, hrr⟩ := hpr (by omega)
      simp only [Value.slice.injEq] at hA
      obtain ⟨hA3, _, hcap⟩ := hA
      subst hcap
      subst hA3
      subst hA2
      obtain ⟨ab, off, rfl, hrow⟩ := hpos (by omega)
      have hcells : ∀ j u, news[j]? = some u → w.cell? ((⟨ab, off, none⟩ : Addr).add j) = some u := fun j u hj => by
        rw [addr_add]; exact ro_cell (L := ro μ :: R) h (hrow j u hj)
      have hold : ∀ j u, xs[j]? = some u → w.cell? ((⟨rb, ro_, none⟩ : Addr).add j) = some u := fun j u hj => by
        rw [addr_add]; exact ro_cell (L := ro μ :: R) h (hrr j u hj)
      have hge := grownCap_ge w (l + m) l e
      have hcm : grownCap w (l + m) l e ≤ maxLen := grownCap_le_maxLen w (l + m) l e h63
      have hrun := run_append_grow (P := P) w t ty e i' z hu hi hzz ⟨rb, ro_, none⟩ l l xs (by rw [hxl, hin]) hold ⟨ab, off, none⟩ m c news (by rw [hsl, hin]) hcells (by omega) (by simp only [maxLen] at h63; omega) (growslice_fits (by omega) (by rw [hib]; exact hby))
      refine ⟨_, _, own e n (.slice (some ⟨w.heap.size, 0, none⟩) (l + m) (grownCap w (l + m) l e)) (l + m) (xs ++ news) :: ro μ :: R, hrun, ?_, .inr rfl⟩
      have hll : (xs ++ news).length = (l + m) * n := by rw [List.length_append, hxl, hsl, Nat.add_mul]
      refine (H.alloc (w := w.drew) h.drew _).ent (Ent.imp fun mm hm => ⟨hll, .inr ⟨w.heap.size, _, _, rfl, hm, hge, hcm, ?_, ?_⟩⟩)
      · simp only [Array.size_append, List.size_toArray, size_zeroCells, hzc, hzl, hsl, hxl, ← Nat.add_mul]
        congr 1
        omega
      · simp only [Array.toList_append, List.append_assoc]
        rw [← List.append_assoc, ← hll]
        exact List.take_left
/-- append of what is only read to a slice that is full and only read, or of the call's own -/
theorem ef_append_cat {t e n by_ : Nat} [ht : TSl P t e n by_] {zs : List Value} [hz : TZero P e zs] {x y : Operand} {v s : Value} {l m : Nat} {xs news : List Value}
    (hc : Cat μ e n v l xs L R) (hs : Row μ s n m news) (hx : evalE env x = some v) (hy : evalE env y = some s) (h1 : news.all Value.oneCell' = true) (h63 : l + m ≤ maxLen) (hby : (l + m) * by_ ≤ 140737488355328) (hzl : zs.length = n := by rfl) (hn0 : 0 < n := by decide) :
    Ef P env L (.call { callee := .builtin .append, args := #[x, y], argTypes := #[t, t] }) (fun k => ∀ v' L', Cat μ e n v' (l + m) (xs ++ news) L' R → k v' L') := by
  intro ro_ dst tt pos af g N E a w next Q k hf hh hk hn
  rcases hc with ⟨rfl, hr, A, hA⟩ | rfl
  · obtain ⟨v', w', L', hrun, h', hc'⟩ := H.append_full (P := P) ht hz hzl hn0 hA hr hh hs h63 hby tt
    exact wpIn_value (run_builtin_append (v := v') (w' := w') (by rw [hf.ev x _ hx, hf.ev y _ hy]; exact hrun)) <| hn _ _ _ (hk v' L' hc') h'
  · obtain ⟨v', w', hrun, h', _⟩ := H.append_ro (P := P) (L := ro μ :: R) ht hz hzl hn0 hh hs h1 h63 hby tt
    exact wpIn_value (run_builtin_append (v := v') (w' := w') (by rw [hf.ev x _ hx, hf.ev y _ hy]; exact hrun)) <| hn _ _ _ (hk v' _ (.inr rfl)) h'
theorem swl_cat {rn : Option Nat} {ops : Array Oper} {Q : Post} {N : Nat} {ol : List Oper} {e n : Nat} {v : Value} {l : Nat} {xs : List Value} (hc : Cat μ e n v l xs L R)
    (h : ∀ μ', Le μ μ' → Row μ' v n l xs → swl P rn ops Q N ol env (ro μ' :: R)) : swl P rn ops Q N ol env L := fun E D a w hd hf hh => by
  rcases hc with ⟨rfl, hr, _⟩ | rfl
  · exact h μ (Le.refl _) hr E D a w hd hf hh
  · obtain ⟨μ', h1, h2, h3⟩ := hh.share_own
    exact h μ' h1 h2 E D a w hd hf h3
end
end SX
namespace SX
open Go
theorem u32s_cut {p : ByteArray} {l : List En} (h : U32s l) : U32s (cutE p l) := fun e he => h e (cutE_mem he)
theorem u32s_put {t : List En} (h : U32s t) (p : ByteArray) {b : Int} (hb : U32 b) : U32s (putE t p b) := by
  intro e he
  unfold putE at he
  split at he
  · exact h e he
  · rw [List.mem_append, List.mem_append] at he
    rcases he with (he | he) | he
    · exact h e ((List.takeWhile_sublist _).subset he)
    · split at he
      · cases he
      · rw [List.mem_singleton] at he; subst he; exact hb
    · exact u32s_cut (fun e he => h e ((List.dropWhile_sublist _).subset he)) e he
theorem u32s_make (l : List En) : ∀ t, U32s t → U32s l → U32s (l.foldl (fun t e => putE t e.1 e.2) t) := by
  induction l with
  | nil => intro t h _; exact h
  | cons e l ih =>
    intro t h hl
    rw [List.foldl_cons]
    exact ih _ (u32s_put h _ (hl e (by simp))) (fun x hx => hl x (by simp [hx]))
theorem u32s_good {x : List En} (h : U32s x) : U32s (goodE x) := by
  refine u32s_make _ [] (fun _ h => by cases h) (fun e he => ?_)
  obtain ⟨y, hy, rfl⟩ := List.mem_map.1 he
  exact h y (List.mem_of_mem_take hy)
theorem out_len3 (a b c : List En) {m : Nat} (h : a.length ≤ m ∧ b.length ≤ m ∧ c.length ≤ m) : (outR (rowsB a b c)).length ≤ 3 * m ∧ (cfR (rowsB a b c)).length ≤ 3 * m := by
  have h1 := outR_len (rowsB a b c)
  have h2 := cfR_len (rowsB a b c)
  have h3 : (rowsB a b c).length ≤ a.length + b.length + c.length := by
    unfold rowsB pathsE
    have := uniS_len (a.map (·.1) ++ b.map (·.1) ++ c.map (·.1))
    rw [List.length_append, List.length_append, List.length_map, List.length_map, List.length_map] at this
    rw [List.length_map]; exact this
  omega
end SX
namespace SX
open Go
theorem lookE_mem {l : List En} (hr : Rises l) {e : En} (h : e ∈ l) : lookE l e.1 = e.2 := by
  obtain ⟨k, hk⟩ := List.mem_iff_getElem?.1 h
  refine lookE_at hk (strEq_refl _) fun j x hj hx => ?_
  exact strEq_false.2 (strLt_ne (rises_get hr hj hx hk))
theorem lookE_not {l : List En} {p : ByteArray} (h : p ∉ l.map (·.1)) : lookE l p = 0 :=
  lookE_none fun e he => strEq_false.2 fun hp => h (List.mem_map.2 ⟨e, he, hp⟩)
theorem pathsE_mem (a b c : List En) (q : ByteArray) : q ∈ pathsE a b c ↔ pathIn a b c q := by
  rw [pathsE, uniS_mem, List.mem_append, List.mem_append, or_assoc]; rfl
theorem look_pathIn {a b c : List En} {q : ByteArray} (h : ¬ pathIn a b c q) : lookE a q = 0 ∧ lookE b q = 0 ∧ lookE c q = 0 :=
  ⟨lookE_not fun k => h (.inl k), lookE_not fun k => h (.inr (.inl k)), lookE_not fun k => h (.inr (.inr k))⟩
/-- the rows: rising paths, each with what is found -/
def rowsL (ps : List ByteArray) (a b c : List En) : List Rw := ps.map fun p => (p, lookE a p, lookE b p, lookE c p)
theorem rowsB_L {a b c : List En} (ha : Rises a) (hb : Rises b) (hc : Rises c) : rowsB a b c = rowsL (pathsE a b c) a b c :=
  List.map_congr_left fun p _ => by rw [look_same ha, look_same hb, look_same hc]
theorem outR_rises {rs : List Rw} (h : rs.Pairwise fun x y => strLt x.1 y.1 = true) : Rises (outR rs) := by
  induction rs with
  | nil => exact List.Pairwise.nil
  | cons r rs ih =>
    obtain ⟨h1, h2⟩ := List.pairwise_cons.1 h
    show Rises (outR1 r ++ outR rs)
    refine List.pairwise_append.2 ⟨?_, ih h2, fun x hx y hy => ?_⟩
    · unfold outR1; split
      · exact List.Pairwise.nil
      · exact List.pairwise_singleton _ _
    · have e1 : x.1 = r.1 := by
        unfold outR1 at hx; split at hx
        · cases hx
        · rw [List.mem_singleton] at hx; rw [hx]
      obtain ⟨r', hr', hy'⟩ := List.mem_flatMap.1 hy
      have e2 : y.1 = r'.1 := by
        unfold outR1 at hy'; split at hy'
        · cases hy'
        · rw [List.mem_singleton] at hy'; rw [hy']
      rw [e1, e2]; exact h1 r' hr'
theorem outR_mem {rs : List Rw} {e : En} (h : e ∈ outR rs) : ∃ r ∈ rs, e = (r.1, (oneE r.2.1 r.2.2.1 r.2.2.2).1) ∧ (oneE r.2.1 r.2.2.1 r.2.2.2).1 ≠ 0 := by
  obtain ⟨r, hr, hy⟩ := List.mem_flatMap.1 h
  unfold outR1 at hy; split at hy
  · cases hy
  · next k => rw [List.mem_singleton] at hy; exact ⟨r, hr, hy, k⟩
theorem outR_full {rs : List Rw} : ∀ e ∈ outR rs, e.2 ≠ 0 := fun e he => by
  obtain ⟨r, _, rfl, k⟩ := outR_mem he; exact k
theorem cfR_mem {rs : List Rw} {r : Rw} : r ∈ cfR rs ↔ r ∈ rs ∧ (oneE r.2.1 r.2.2.1 r.2.2.2).2 = true := by
  constructor
  · intro h
    obtain ⟨r', hr, hy⟩ := List.mem_flatMap.1 h
    unfold cfR1 at hy; split at hy
    · next k => rw [List.mem_singleton] at hy; subst hy; exact ⟨hr, k⟩
    · cases hy
  · rintro ⟨h1, h2⟩
    exact List.mem_flatMap.2 ⟨r, h1, by unfold cfR1; rw [if_pos h2]; exact List.mem_singleton.2 rfl⟩
section
variable {a b c : List En}
theorem rows_pw (a b c : List En) : (rowsB a b c).Pairwise fun x y => strLt x.1 y.1 = true := by
  unfold rowsB
  exact List.pairwise_map.2 (uniS_rises _)
theorem one_zero : oneE 0 0 0 = (0, false) := rfl
/-- what is found in the merged tree -/
theorem look_out (ha : Rises a) (hb : Rises b) (hc : Rises c) (p : ByteArray) : lookE (outR (rowsB a b c)) p = (oneE (lookE a p) (lookE b p) (lookE c p)).1 := by
  have hR := outR_rises (rows_pw a b c)
  by_cases hp : pathIn a b c p
  · by_cases h0 : (oneE (lookE a p) (lookE b p) (lookE c p)).1 = 0
    · rw [h0]
      refine lookE_not fun k => ?_
      obtain ⟨e, he, rfl⟩ := List.mem_map.1 k
      obtain ⟨r, hr, he2, hn⟩ := outR_mem he
      rw [rowsB_L ha hb hc] at hr
      obtain ⟨q, _, rfl⟩ := List.mem_map.1 hr
      have : q = e.1 := by rw [he2]
      subst this
      exact hn h0
    · have hm : (p, (oneE (lookE a p) (lookE b p) (lookE c p)).1) ∈ outR (rowsB a b c) := by
        refine List.mem_flatMap.2 ⟨(p, lookE a p, lookE b p, lookE c p), ?_, ?_⟩
        · rw [rowsB_L ha hb hc]; exact List.mem_map.2 ⟨p, (pathsE_mem a b c p).2 hp, rfl⟩
        · unfold outR1; rw [if_neg h0]; exact List.mem_singleton.2 rfl
      exact lookE_mem hR hm
  · obtain ⟨h1, h2, h3⟩ := look_pathIn hp
    rw [h1, h2, h3, one_zero]
    refine lookE_not fun k => ?_
    obtain ⟨e, he, rfl⟩ := List.mem_map.1 k
    obtain ⟨r, hr, he2, hn⟩ := outR_mem he
    rw [rowsB_L ha hb hc] at hr
    obtain ⟨q, hq, rfl⟩ := List.mem_map.1 hr
    have : q = e.1 := by rw [he2]
    subst this
    exact hp ((pathsE_mem a b c _).1 hq)
end
end SX
namespace SX
open Go
section
variable {a b c : List En}
theorem out_good (ha : GoodT a) (hb : GoodT b) (hc : GoodT c) : GoodT (outR (rowsB a b c)) := by
  refine ⟨outR_rises (rows_pw a b c), fun e he => ?_, outR_full⟩
  obtain ⟨r, hr, he2, _⟩ := outR_mem he
  rw [rowsB_L ha.rises hb.rises hc.rises] at hr
  obtain ⟨q, hq, rfl⟩ := List.mem_map.1 hr
  have : q = e.1 := by rw [he2]
  subst this
  rcases (pathsE_mem a b c _).1 hq with k | k | k <;> obtain ⟨d, hd, he⟩ := List.mem_map.1 k
  · rw [← he]; exact ha.short d hd
  · rw [← he]; exact hb.short d hd
  · rw [← he]; exact hc.short d hd
/-- of an entry of the four trees something is found -/
theorem some_look (ha : GoodT a) (hb : GoodT b) (hc : GoodT c) {e : En} (h : e ∈ outR (rowsB a b c) ++ a ++ b ++ c) : ¬ (lookE a e.1 = 0 ∧ lookE b e.1 = 0 ∧ lookE c e.1 = 0) := by
  rintro ⟨h1, h2, h3⟩
  rw [List.mem_append, List.mem_append, List.mem_append] at h
  rcases h with ((h | h) | h) | h
  · have k := lookE_mem (out_good ha hb hc).rises h
    rw [look_out ha.rises hb.rises hc.rises, h1, h2, h3, one_zero] at k
    exact outR_full e h k.symm
  · rw [lookE_mem ha.rises h] at h1; exact ha.full e h h1
  · rw [lookE_mem hb.rises h] at h2; exact hb.full e h h2
  · rw [lookE_mem hc.rises h] at h3; exact hc.full e h h3
theorem one_rule (p q r : Int) : (q ≠ r → p ≠ q → p ≠ r → (oneE p q r).1 = markZ p q r) ∧ ((q = r ∨ p = q ∨ p = r) → p = q → (oneE p q r).1 = r) ∧ ((q = r ∨ p = q ∨ p = r) → p ≠ q → (oneE p q r).1 = q) := by
  unfold oneE
  refine ⟨fun h1 h2 h3 => ?_, fun h1 h2 => ?_, fun h1 h2 => ?_⟩
  · rw [if_neg (by omega), if_neg (by omega)]
  · subst h2; by_cases h : p = r
    · subst h; simp
    · rw [if_neg (by omega), if_pos rfl]
  · rw [if_pos (by omega)]
theorem conf_rule (ha : Rises a) (hb : Rises b) (hc : Rises c) {e : Cf} (h : e ∈ cfR (rowsB a b c)) : e.2.1 = lookE a e.1 ∧ e.2.2.1 = lookE b e.1 ∧ e.2.2.2 = lookE c e.1 ∧ e.2.2.1 ≠ e.2.2.2 ∧ e.2.1 ≠ e.2.2.1 ∧ e.2.1 ≠ e.2.2.2 := by
  obtain ⟨h1, h2⟩ := cfR_mem.1 h
  rw [rowsB_L ha hb hc] at h1
  obtain ⟨q, _, rfl⟩ := List.mem_map.1 h1
  refine ⟨rfl, rfl, rfl, ?_⟩
  simp only at h2 ⊢
  unfold oneE at h2
  split at h2
  · cases h2
  · split at h2
    · cases h2
    · omega
/-- stands at e neither of the sides? -/
def offP (b c : List En) (e : En) : Bool := decide (lookE b e.1 ≠ e.2) && decide (lookE c e.1 ≠ e.2)
theorem off_count {rs : List Rw} (h : ∀ r ∈ rs, r.2.2.1 = lookE b r.1 ∧ r.2.2.2 = lookE c r.1) : (outR rs).countP (offP b c) ≤ (cfR rs).length := by
  induction rs with
  | nil => exact Nat.le_refl _
  | cons r rs ih =>
    show (outR1 r ++ outR rs).countP _ ≤ (cfR1 r ++ cfR rs).length
    rw [List.countP_append, List.length_append]
    have h1 := ih fun r hr => h r (.tail _ hr)
    obtain ⟨e1, e2⟩ := h r (.head _)
    have h2 : (outR1 r).countP (offP b c) ≤ (cfR1 r).length := by
      by_cases hb : (oneE r.2.1 r.2.2.1 r.2.2.2).2 = true
      · have : (outR1 r).countP (offP b c) ≤ (outR1 r).length := List.countP_le_length
        have k : (outR1 r).length ≤ 1 := by unfold outR1; split <;> simp
        unfold cfR1; rw [if_pos hb, List.length_singleton]; omega
      · have : (outR1 r).countP (offP b c) = 0 := by
          refine List.countP_eq_zero.2 fun e he => ?_
          unfold outR1 at he
          split at he
          · cases he
          · rw [List.mem_singleton] at he
            subst he
            unfold offP
            rw [← e1, ← e2]
            have : (oneE r.2.1 r.2.2.1 r.2.2.2).1 = r.2.2.1 ∨ (oneE r.2.1 r.2.2.1 r.2.2.2).1 = r.2.2.2 := by
              unfold oneE at hb ⊢
              split
              · exact .inl rfl
              · split
                · exact .inr rfl
                · next k1 k2 => rw [if_neg k1, if_neg k2] at hb; exact absurd rfl hb
            rcases this with k | k <;> simp [k]
        omega
    omega
theorem off_rows (ha : Rises a) (hb : Rises b) (hc : Rises c) : (outR (rowsB a b c)).countP (offP b c) ≤ (cfR (rowsB a b c)).length := by
  refine off_count fun r hr => ?_
  rw [rowsB_L ha hb hc] at hr
  obtain ⟨q, _, rfl⟩ := List.mem_map.1 hr
  exact ⟨rfl, rfl⟩
end
end SX
namespace SX
open Go Go.ChangeShapes Go.WideShapes Go.ChangeAt Go.RowKit
variable {P : Program} {W : World} {H0 : Type} {enc : TypeId × Value → H0}
theorem arg_entries {t e ts tu : TypeId} {f0 f1 : Field} {v : Value} {d : DataW H0} {ps : List MemPlace} {r : Go.Reach} {b0 : Nat} (ht : P.underlying t = some (.slice e)) (he : P.underlying e = some (.struct #[f0, f1])) (h0 : f0.type = ts ∧ f0.offset = 0) (h1 : f1.type = tu ∧ f1.offset = 1)
    (hs : P.underlying ts = some .string) (hu : P.underlying tu = some (.int .u32)) (hc : P.cellsOf e = 2) (hcs : P.cellsOf ts = 1) (hcu : P.cellsOf tu = 1)
    (hv : Value.okWide P W r b0 t v) (h : DataW.Trod enc P W 0 (fun _ => true) true t v d ps) :
    ∃ xs : List En, Row (fun b => W.heap[b]?) v 2 xs.length (ens xs) ∧ U32s xs := by
  obtain ⟨a0, len, cap, rfl⟩ := okWide_slice ht hv
  obtain ⟨fuel, hf⟩ := h
  obtain ⟨v', xs, hcs2, hrow, hd⟩ := trod_slice (f := enc1) (by decide) enc1_len (fun x _ => U32 x.2) ht hc (fun fuel cs D Pl h => by
    obtain ⟨y0, y1, n, _, hl, k0, k1⟩ := trod_struct2 he h
    rw [h0.1, h0.2, hcs] at k0
    rw [h1.1, h1.2, hcu] at k1
    obtain ⟨b, hb, _, _⟩ := DataW.trod_string hs k0
    obtain ⟨x, hx, _, hw⟩ := DataW.trod_int hu k1
    rw [hc] at hl
    match cs, hl with
    | [c0, c1], _ =>
      simp at hb hx
      subst hb hx
      exact ⟨(b, x), rfl, wf_u32 hw⟩) hf
  simp only [Value.cells, List.cons.injEq, and_true] at hcs2
  subst hcs2
  refine ⟨xs, hrow, fun x hx => ?_⟩
  rcases hd with ⟨_, rfl⟩ | ⟨Ds, sp, q1, q2, q3⟩
  · cases hx
  · obtain ⟨i, hi⟩ := List.getElem?_of_mem hx
    have hlt := (List.getElem?_eq_some_iff.1 hi).1
    exact q3 i x Ds[i] hi (List.getElem?_eq_getElem (by omega))
end SX
namespace SX
open Go Go.Proofs
instance : Body Try.prog 2 := ⟨_, Try.func2, rfl, by decide⟩
instance : Body Try.prog 3 := ⟨_, Try.func3, rfl, by decide⟩
instance : Body Try.prog 4 := ⟨_, Try.func4, rfl, by decide⟩
instance : Body Try.prog 5 := ⟨_, Try.func5, rfl, by decide⟩
instance : Body Try.prog 6 := ⟨_, Try.func6, rfl, by decide⟩
instance : Body Try.prog 7 := ⟨_, Try.func7, rfl, by decide⟩
instance : Body Try.prog 8 := ⟨_, Try.func8, rfl, by decide⟩
instance : Body Try.prog 9 := ⟨_, Try.func9, rfl, by decide⟩
instance : Body Try.prog 10 := ⟨_, Try.func10, rfl, by decide⟩
instance : Body Try.prog 11 := ⟨_, Try.func11, rfl, by decide⟩
instance : Body Try.prog 12 := ⟨_, Try.func12, rfl, by decide⟩
instance : Body Try.prog 13 := ⟨_, Try.func13, rfl, by decide⟩
instance : Body Try.prog 14 := ⟨_, Try.func14, rfl, by decide⟩
instance : Body Try.prog 15 := ⟨_, Try.func15, rfl, by decide⟩
instance : Body Try.prog 16 := ⟨_, Try.func16, rfl, by decide⟩
instance : Body Try.prog 17 := ⟨_, Try.func17, rfl, by decide⟩
instance : Body Try.prog 18 := ⟨_, Try.func18, rfl, by decide⟩
instance : Body Try.prog 19 := ⟨_, Try.func19, rfl, by decide⟩
instance : Body Try.prog 20 := ⟨_, Try.func20, rfl, by decide⟩
instance : Body Try.prog 21 := ⟨_, Try.func21, rfl, by decide⟩
instance : Body Try.prog 22 := ⟨_, Try.func22, rfl, by decide⟩
instance : Body Try.prog 23 := ⟨_, Try.func23, rfl, by decide⟩
instance : Body Try.prog 24 := ⟨_, Try.func24, rfl, by decide⟩
instance : Body Try.prog 25 := ⟨_, Try.func25, rfl, by decide⟩
instance : Body Try.prog 26 := ⟨_, Try.func26, rfl, by decide⟩
instance : Body Try.prog 27 := ⟨_, Try.func27, rfl, by decide⟩
instance : Body Try.prog 28 := ⟨_, Try.func28, rfl, by decide⟩
instance : Body Try.prog 29 := ⟨_, Try.func29, rfl, by decide⟩
instance : Body Try.prog 30 := ⟨_, Try.func30, rfl, by decide⟩
instance : Body Try.prog 31 := ⟨_, Try.func31, rfl, by decide⟩
instance : Body Try.prog 32 := ⟨_, Try.func32, rfl, by decide⟩
instance : Body Try.prog 33 := ⟨_, Try.func33, rfl, by decide⟩
instance : Body Try.prog 34 := ⟨_, Try.func34, rfl, by decide⟩
instance : Body Try.prog 35 := ⟨_, Try.func35, rfl, by decide⟩
instance : Body Try.prog 36 := ⟨_, Try.func36, rfl, by decide⟩
instance : Body Try.prog 37 := ⟨_, Try.func37, rfl, by decide⟩
instance : Body Try.prog 38 := ⟨_, Try.func38, rfl, by decide⟩
instance : Body Try.prog 39 := ⟨_, Try.func39, rfl, by decide⟩
instance : Body Try.prog 40 := ⟨_, Try.func40, rfl, by decide⟩
instance : Body Try.prog 41 := ⟨_, Try.func41, rfl, by decide⟩
instance : Body Try.prog 42 := ⟨_, Try.func42, rfl, by decide⟩
instance : Body Try.prog 43 := ⟨_, Try.func43, rfl, by decide⟩
instance : Body Try.prog 44 := ⟨_, Try.func44, rfl, by decide⟩
instance : Body Try.prog 45 := ⟨_, Try.func45, rfl, by decide⟩
instance : Body Try.prog 46 := ⟨_, Try.func46, rfl, by decide⟩
instance : Body Try.prog 47 := ⟨_, Try.func47, rfl, by decide⟩
instance : Body Try.prog 48 := ⟨_, Try.func48, rfl, by decide⟩
instance : Body Try.prog 49 := ⟨_, Try.func49, rfl, by decide⟩
instance : Body Try.prog 50 := ⟨_, Try.func50, rfl, by decide⟩
instance : Body Try.prog 51 := ⟨_, Try.func51, rfl, by decide⟩
instance : Body Try.prog 52 := ⟨_, Try.func52, rfl, by decide⟩
instance : Body Try.prog 53 := ⟨_, Try.func53, rfl, by decide⟩
instance : Body Try.prog 54 := ⟨_, Try.func54, rfl, by decide⟩
instance : Body Try.prog 55 := ⟨_, Try.func55, rfl, by decide⟩
instance : Body Try.prog 56 := ⟨_, Try.func56, rfl, by decide⟩
instance : Body Try.prog 57 := ⟨_, Try.func57, rfl, by decide⟩
instance : Body Try.prog 58 := ⟨_, Try.func58, rfl, by decide⟩
instance : Body Try.prog 59 := ⟨_, Try.func59, rfl, by decide⟩
instance : Body Try.prog 60 := ⟨_, Try.func60, rfl, by decide⟩
instance : Body Try.prog 61 := ⟨_, Try.func61, rfl, by decide⟩
instance : Body Try.prog 62 := ⟨_, Try.func62, rfl, by decide⟩
instance : Body Try.prog 63 := ⟨_, Try.func63, rfl, by decide⟩
instance : Body Try.prog 64 := ⟨_, Try.func64, rfl, by decide⟩
instance : Body Try.prog 65 := ⟨_, Try.func65, rfl, by decide⟩
instance : Body Try.prog 66 := ⟨_, Try.func66, rfl, by decide⟩
instance : Body Try.prog 67 := ⟨_, Try.func67, rfl, by decide⟩
instance : Body Try.prog 68 := ⟨_, Try.func68, rfl, by decide⟩
instance : Body Try.prog 69 := ⟨_, Try.func69, rfl, by decide⟩
instance : Body Try.prog 70 := ⟨_, Try.func70, rfl, by decide⟩
instance : Body Try.prog 71 := ⟨_, Try.func71, rfl, by decide⟩
instance : Body Try.prog 72 := ⟨_, Try.func72, rfl, by decide⟩
instance : Body Try.prog 73 := ⟨_, Try.func73, rfl, by decide⟩
instance : Body Try.prog 74 := ⟨_, Try.func74, rfl, by decide⟩
instance : Body Try.prog 75 := ⟨_, Try.func75, rfl, by decide⟩
instance : Body Try.prog 76 := ⟨_, Try.func76, rfl, by decide⟩
instance : Body Try.prog 77 := ⟨_, Try.func77, rfl, by decide⟩
instance : Body Try.prog 78 := ⟨_, Try.func78, rfl, by decide⟩
instance : Body Try.prog 79 := ⟨_, Try.func79, rfl, by decide⟩
instance : Body Try.prog 80 := ⟨_, Try.func80, rfl, by decide⟩
instance : Body Try.prog 81 := ⟨_, Try.func81, rfl, by decide⟩
instance : Body Try.prog 82 := ⟨_, Try.func82, rfl, by decide⟩
instance : Body Try.prog 83 := ⟨_, Try.func83, rfl, by decide⟩
instance : Body Try.prog 84 := ⟨_, Try.func84, rfl, by decide⟩
instance : Body Try.prog 85 := ⟨_, Try.func85, rfl, by decide⟩
instance : Body Try.prog 86 := ⟨_, Try.func86, rfl, by decide⟩
instance : Body Try.prog 87 := ⟨_, Try.func87, rfl, by decide⟩
instance : Body Try.prog 88 := ⟨_, Try.func88, rfl, by decide⟩
instance : Body Try.prog 89 := ⟨_, Try.func89, rfl, by decide⟩
instance : Body Try.prog 90 := ⟨_, Try.func90, rfl, by decide⟩
instance : Body Try.prog 91 := ⟨_, Try.func91, rfl, by decide⟩
instance : Body Try.prog 92 := ⟨_, Try.func92, rfl, by decide⟩
instance : Body Try.prog 93 := ⟨_, Try.func93, rfl, by decide⟩
instance : Body Try.prog 94 := ⟨_, Try.func94, rfl, by decide⟩
instance : Body Try.prog 95 := ⟨_, Try.func95, rfl, by decide⟩
instance : Body Try.prog 96 := ⟨_, Try.func96, rfl, by decide⟩
instance : Body Try.prog 97 := ⟨_, Try.func97, rfl, by decide⟩
instance : Body Try.prog 98 := ⟨_, Try.func98, rfl, by decide⟩
instance : Body Try.prog 99 := ⟨_, Try.func99, rfl, by decide⟩
instance : Body Try.prog 100 := ⟨_, Try.func100, rfl, by decide⟩
instance : Body Try.prog 101 := ⟨_, Try.func101, rfl, by decide⟩
instance : Body Try.prog 102 := ⟨_, Try.func102, rfl, by decide⟩
instance : Body Try.prog 103 := ⟨_, Try.func103, rfl, by decide⟩
instance : Body Try.prog 104 := ⟨_, Try.func104, rfl, by decide⟩
instance : Body Try.prog 105 := ⟨_, Try.func105, rfl, by decide⟩
instance : Body Try.prog 106 := ⟨_, Try.func106, rfl, by decide⟩
instance : Body Try.prog 107 := ⟨_, Try.func107, rfl, by decide⟩
instance : Body Try.prog 108 := ⟨_, Try.func108, rfl, by decide⟩
instance : Body Try.prog 109 := ⟨_, Try.func109, rfl, by decide⟩
instance : Body Try.prog 110 := ⟨_, Try.func110, rfl, by decide⟩
instance : Body Try.prog 111 := ⟨_, Try.func111, rfl, by decide⟩
instance : Body Try.prog 112 := ⟨_, Try.func112, rfl, by decide⟩
instance : Body Try.prog 113 := ⟨_, Try.func113, rfl, by decide⟩
instance : Body Try.prog 114 := ⟨_, Try.func114, rfl, by decide⟩
instance : Body Try.prog 115 := ⟨_, Try.func115, rfl, by decide⟩
instance : Body Try.prog 116 := ⟨_, Try.func116, rfl, by decide⟩
instance : Body Try.prog 117 := ⟨_, Try.func117, rfl, by decide⟩
instance : Body Try.prog 118 := ⟨_, Try.func118, rfl, by decide⟩
instance : Body Try.prog 119 := ⟨_, Try.func119, rfl, by decide⟩
instance : Body Try.prog 120 := ⟨_, Try.func120, rfl, by decide⟩
instance : Body Try.prog 121 := ⟨_, Try.func121, rfl, by decide⟩
instance : Body Try.prog 122 := ⟨_, Try.func122, rfl, by decide⟩
instance : Body Try.prog 123 := ⟨_, Try.func123, rfl, by decide⟩
instance : Body Try.prog 124 := ⟨_, Try.func124, rfl, by decide⟩
instance : Body Try.prog 125 := ⟨_, Try.func125, rfl, by decide⟩
instance : Body Try.prog 126 := ⟨_, Try.func126, rfl, by decide⟩
instance : Body Try.prog 128 := ⟨_, Try.func128, rfl, by decide⟩
instance : Body Try.prog 144 := ⟨_, Try.func144, rfl, by decide⟩
instance : Body Try.prog 145 := ⟨_, Try.func145, rfl, by decide⟩
instance : Body Try.prog 146 := ⟨_, Try.func146, rfl, by decide⟩
instance : Body Try.prog 147 := ⟨_, Try.func147, rfl, by decide⟩
instance : Body Try.prog 149 := ⟨_, Try.func149, rfl, by decide⟩
instance : Body Try.prog 150 := ⟨_, Try.func150, rfl, by decide⟩
instance : Body Try.prog 151 := ⟨_, Try.func151, rfl, by decide⟩
instance : Body Try.prog 152 := ⟨_, Try.func152, rfl, by decide⟩
instance : Body Try.prog 153 := ⟨_, Try.func153, rfl, by decide⟩
instance : Meth Try.prog 31 "Content" 145 := ⟨by intro k v w; kernel_rfl⟩
instance : Meth Try.prog 31 "May" 146 := ⟨by intro k v w; kernel_rfl⟩
instance : Meth Try.prog 83 "Content" 150 := ⟨by intro k v w; kernel_rfl⟩
instance : Meth Try.prog 83 "May" 151 := ⟨by intro k v w; kernel_rfl⟩
instance : Meth Try.prog 119 "Parents" 67 := ⟨by intro k v w; kernel_rfl⟩
instance : Meth Try.prog 157 "Before" 153 := ⟨by intro k v w; kernel_rfl⟩
instance : TOne Try.prog 3 := ⟨by kernel_rfl, by kernel_rfl⟩
instance : TZero Try.prog 3 [(.int .i64 0)] := ⟨by kernel_rfl⟩
instance : TInt Try.prog 3 .i64 := ⟨Try.underlying3⟩
instance : TConc Try.prog 3 := ⟨_, Try.underlying3, rfl⟩
instance : TOne Try.prog 4 := ⟨by kernel_rfl, by kernel_rfl⟩
instance : TZero Try.prog 4 [(.bool false)] := ⟨by kernel_rfl⟩
instance : TBool Try.prog 4 := ⟨Try.underlying4⟩
instance : TConc Try.prog 4 := ⟨_, Try.underlying4, rfl⟩
instance : TOne Try.prog 5 := ⟨by kernel_rfl, by kernel_rfl⟩
instance : TZero Try.prog 5 [(.int .u8 0)] := ⟨by kernel_rfl⟩
instance : TInt Try.prog 5 .u8 := ⟨Try.underlying5⟩
instance : TConc Try.prog 5 := ⟨_, Try.underlying5, rfl⟩
instance : TOne Try.prog 9 := ⟨by kernel_rfl, by kernel_rfl⟩
instance : TZero Try.prog 9 [(.string ⟨#[]⟩)] := ⟨by kernel_rfl⟩
instance : TStr Try.prog 9 := ⟨Try.underlying9⟩
instance : TConc Try.prog 9 := ⟨_, Try.underlying9, rfl⟩
instance : TOne Try.prog 22 := ⟨by kernel_rfl, by kernel_rfl⟩
instance : TZero Try.prog 22 [(.slice none 0 0)] := ⟨by kernel_rfl⟩
instance : TSl Try.prog 22 33 1 24 := ⟨Try.underlying22, by kernel_rfl⟩
instance : TConc Try.prog 22 := ⟨_, Try.underlying22, rfl⟩
instance : TOne Try.prog 23 := ⟨by kernel_rfl, by kernel_rfl⟩
instance : TZero Try.prog 23 [(.slice none 0 0)] := ⟨by kernel_rfl⟩
instance : TSl Try.prog 23 44 1 24 := ⟨Try.underlying23, by kernel_rfl⟩
instance : TConc Try.prog 23 := ⟨_, Try.underlying23, rfl⟩
instance : TOne Try.prog 24 := ⟨by kernel_rfl, by kernel_rfl⟩
instance : TZero Try.prog 24 [(.int .u32 0)] := ⟨by kernel_rfl⟩
instance : TInt Try.prog 24 .u32 := ⟨Try.underlying24⟩
instance : TConc Try.prog 24 := ⟨_, Try.underlying24, rfl⟩
instance : TAgg Try.prog 26 4 := ⟨by kernel_rfl, by kernel_rfl⟩
instance : TZero Try.prog 26 [(.int .i64 0), (.int .i64 0), (.int .i64 0), (.int .u32 0)] := ⟨by kernel_rfl⟩
instance : TBld Try.prog 26 [(.int .i64 0), (.int .i64 0), (.int .i64 0), (.int .u32 0)] [(0, 1), (1, 1), (2, 1), (3, 1)] := ⟨by kernel_rfl, by kernel_rfl⟩
instance : TFld Try.prog 26 0 0 := ⟨by kernel_rfl⟩
instance : TPart Try.prog 26 0 0 1 false := ⟨by kernel_rfl⟩
instance : TFld Try.prog 26 1 1 := ⟨by kernel_rfl⟩
instance : TPart Try.prog 26 1 1 1 false := ⟨by kernel_rfl⟩
instance : TFld Try.prog 26 2 2 := ⟨by kernel_rfl⟩
instance : TPart Try.prog 26 2 2 1 false := ⟨by kernel_rfl⟩
instance : TFld Try.prog 26 3 3 := ⟨by kernel_rfl⟩
instance : TPart Try.prog 26 3 3 1 false := ⟨by kernel_rfl⟩
instance : TConc Try.prog 26 := ⟨_, Try.underlying26, rfl⟩
instance : TOne Try.prog 27 := ⟨by kernel_rfl, by kernel_rfl⟩
instance : TZero Try.prog 27 [(.slice none 0 0)] := ⟨by kernel_rfl⟩
instance : TSl Try.prog 27 4 1 1 := ⟨Try.underlying27, by kernel_rfl⟩
instance : TConc Try.prog 27 := ⟨_, Try.underlying27, rfl⟩
instance : TAgg Try.prog 29 7 := ⟨by kernel_rfl, by kernel_rfl⟩
instance : TZero Try.prog 29 [(.slice none 0 0), (.slice none 0 0), (.int .i64 0), (.int .i64 0), (.int .i64 0), (.int .u32 0), (.slice none 0 0)] := ⟨by kernel_rfl⟩
instance : TBld Try.prog 29 [(.slice none 0 0), (.slice none 0 0), (.int .i64 0), (.int .i64 0), (.int .i64 0), (.int .u32 0), (.slice none 0 0)] [(0, 1), (1, 1), (2, 4), (6, 1)] := ⟨by kernel_rfl, by kernel_rfl⟩
instance : TFld Try.prog 29 0 0 := ⟨by kernel_rfl⟩
instance : TPart Try.prog 29 0 0 1 false := ⟨by kernel_rfl⟩
instance : TFld Try.prog 29 1 1 := ⟨by kernel_rfl⟩
instance : TPart Try.prog 29 1 1 1 false := ⟨by kernel_rfl⟩
instance : TFld Try.prog 29 2 2 := ⟨by kernel_rfl⟩
instance : TPart Try.prog 29 2 2 4 true := ⟨by kernel_rfl⟩
instance : TFld Try.prog 29 3 6 := ⟨by kernel_rfl⟩
instance : TPart Try.prog 29 3 6 1 false := ⟨by kernel_rfl⟩
instance : TConc Try.prog 29 := ⟨_, Try.underlying29, rfl⟩
instance : TOne Try.prog 31 := ⟨by kernel_rfl, by kernel_rfl⟩
instance : TZero Try.prog 31 [(.pointer none)] := ⟨by kernel_rfl⟩
instance : TPtr Try.prog 31 := ⟨_, Try.underlying31⟩
instance : TConc Try.prog 31 := ⟨_, Try.underlying31, rfl⟩
instance : TOne Try.prog 33 := ⟨by kernel_rfl, by kernel_rfl⟩
instance : TZero Try.prog 33 [(.slice none 0 0)] := ⟨by kernel_rfl⟩
instance : TSl Try.prog 33 3 1 8 := ⟨Try.underlying33, by kernel_rfl⟩
instance : TConc Try.prog 33 := ⟨_, Try.underlying33, rfl⟩
instance : TOne Try.prog 34 := ⟨by kernel_rfl, by kernel_rfl⟩
instance : TZero Try.prog 34 [(.int .i64 0)] := ⟨by kernel_rfl⟩
instance : TInt Try.prog 34 .i64 := ⟨Try.underlying34⟩
instance : TConc Try.prog 34 := ⟨_, Try.underlying34, rfl⟩
instance : TOne Try.prog 37 := ⟨by kernel_rfl, by kernel_rfl⟩
instance : TZero Try.prog 37 [(.slice none 0 0)] := ⟨by kernel_rfl⟩
instance : TSl Try.prog 37 31 1 8 := ⟨Try.underlying37, by kernel_rfl⟩
instance : TConc Try.prog 37 := ⟨_, Try.underlying37, rfl⟩
instance : TOne Try.prog 39 := ⟨by kernel_rfl, by kernel_rfl⟩
instance : TZero Try.prog 39 [(.pointer none)] := ⟨by kernel_rfl⟩
instance : TPtr Try.prog 39 := ⟨_, Try.underlying39⟩
instance : TConc Try.prog 39 := ⟨_, Try.underlying39, rfl⟩
instance : TOne Try.prog 40 := ⟨by kernel_rfl, by kernel_rfl⟩
instance : TZero Try.prog 40 [(.slice none 0 0)] := ⟨by kernel_rfl⟩
instance : TSl Try.prog 40 89 2 24 := ⟨Try.underlying40, by kernel_rfl⟩
instance : TConc Try.prog 40 := ⟨_, Try.underlying40, rfl⟩
instance : TAgg Try.prog 42 9 := ⟨by kernel_rfl, by kernel_rfl⟩
instance : TZero Try.prog 42 [(.pointer none), (.slice none 0 0), (.int .i64 0), (.int .i64 0), (.int .i64 0), (.int .u32 0), (.slice none 0 0), (.slice none 0 0), (.slice none 0 0)] := ⟨by kernel_rfl⟩
instance : TBld Try.prog 42 [(.pointer none), (.slice none 0 0), (.int .i64 0), (.int .i64 0), (.int .i64 0), (.int .u32 0), (.slice none 0 0), (.slice none 0 0), (.slice none 0 0)] [(0, 1), (1, 1), (2, 4), (6, 1), (7, 1), (8, 1)] := ⟨by kernel_rfl, by kernel_rfl⟩
instance : TFld Try.prog 42 0 0 := ⟨by kernel_rfl⟩
instance : TPart Try.prog 42 0 0 1 false := ⟨by kernel_rfl⟩
instance : TFld Try.prog 42 1 1 := ⟨by kernel_rfl⟩
instance : TPart Try.prog 42 1 1 1 false := ⟨by kernel_rfl⟩
instance : TFld Try.prog 42 2 2 := ⟨by kernel_rfl⟩
instance : TPart Try.prog 42 2 2 4 true := ⟨by kernel_rfl⟩
instance : TFld Try.prog 42 3 6 := ⟨by kernel_rfl⟩
instance : TPart Try.prog 42 3 6 1 false := ⟨by kernel_rfl⟩
instance : TFld Try.prog 42 4 7 := ⟨by kernel_rfl⟩
instance : TPart Try.prog 42 4 7 1 false := ⟨by kernel_rfl⟩
instance : TFld Try.prog 42 5 8 := ⟨by kernel_rfl⟩
instance : TPart Try.prog 42 5 8 1 false := ⟨by kernel_rfl⟩
instance : TConc Try.prog 42 := ⟨_, Try.underlying42, rfl⟩
instance : TOne Try.prog 44 := ⟨by kernel_rfl, by kernel_rfl⟩
instance : TZero Try.prog 44 [(.slice none 0 0)] := ⟨by kernel_rfl⟩
instance : TSl Try.prog 44 51 2 24 := ⟨Try.underlying44, by kernel_rfl⟩
instance : TConc Try.prog 44 := ⟨_, Try.underlying44, rfl⟩
instance : TAgg Try.prog 47 3 := ⟨by kernel_rfl, by kernel_rfl⟩
instance : TZero Try.prog 47 [(.slice none 0 0), (.slice none 0 0), (.slice none 0 0)] := ⟨by kernel_rfl⟩
instance : TBld Try.prog 47 [(.slice none 0 0), (.slice none 0 0), (.slice none 0 0)] [(0, 1), (1, 1), (2, 1)] := ⟨by kernel_rfl, by kernel_rfl⟩
instance : TFld Try.prog 47 0 0 := ⟨by kernel_rfl⟩
instance : TPart Try.prog 47 0 0 1 false := ⟨by kernel_rfl⟩
instance : TFld Try.prog 47 1 1 := ⟨by kernel_rfl⟩
instance : TPart Try.prog 47 1 1 1 false := ⟨by kernel_rfl⟩
instance : TFld Try.prog 47 2 2 := ⟨by kernel_rfl⟩
instance : TPart Try.prog 47 2 2 1 false := ⟨by kernel_rfl⟩
instance : TConc Try.prog 47 := ⟨_, Try.underlying47, rfl⟩
instance : TOne Try.prog 49 := ⟨by kernel_rfl, by kernel_rfl⟩
instance : TZero Try.prog 49 [(.slice none 0 0)] := ⟨by kernel_rfl⟩
instance : TSl Try.prog 49 24 1 4 := ⟨Try.underlying49, by kernel_rfl⟩
instance : TConc Try.prog 49 := ⟨_, Try.underlying49, rfl⟩
instance : TAgg Try.prog 51 2 := ⟨by kernel_rfl, by kernel_rfl⟩
instance : TZero Try.prog 51 [(.string ⟨#[]⟩), (.int .u32 0)] := ⟨by kernel_rfl⟩
instance : TBld Try.prog 51 [(.string ⟨#[]⟩), (.int .u32 0)] [(0, 1), (1, 1)] := ⟨by kernel_rfl, by kernel_rfl⟩
instance : TEqN Try.prog 51 [true, false] := ⟨by kernel_rfl, by kernel_rfl, by kernel_rfl, by kernel_rfl⟩
instance : TFld Try.prog 51 0 0 := ⟨by kernel_rfl⟩
instance : TPart Try.prog 51 0 0 1 false := ⟨by kernel_rfl⟩
instance : TFld Try.prog 51 1 1 := ⟨by kernel_rfl⟩
instance : TPart Try.prog 51 1 1 1 false := ⟨by kernel_rfl⟩
instance : TConc Try.prog 51 := ⟨_, Try.underlying51, rfl⟩
instance : TOne Try.prog 62 := ⟨by kernel_rfl, by kernel_rfl⟩
instance : TZero Try.prog 62 [(.int .u64 0)] := ⟨by kernel_rfl⟩
instance : TInt Try.prog 62 .u64 := ⟨Try.underlying62⟩
instance : TConc Try.prog 62 := ⟨_, Try.underlying62, rfl⟩
instance : TOne Try.prog 65 := ⟨by kernel_rfl, by kernel_rfl⟩
instance : TZero Try.prog 65 [(.slice none 0 0)] := ⟨by kernel_rfl⟩
instance : TSl Try.prog 65 70 4 32 := ⟨Try.underlying65, by kernel_rfl⟩
instance : TConc Try.prog 65 := ⟨_, Try.underlying65, rfl⟩
instance : TAgg Try.prog 70 4 := ⟨by kernel_rfl, by kernel_rfl⟩
instance : TZero Try.prog 70 [(.string ⟨#[]⟩), (.int .u32 0), (.int .u32 0), (.int .u32 0)] := ⟨by kernel_rfl⟩
instance : TBld Try.prog 70 [(.string ⟨#[]⟩), (.int .u32 0), (.int .u32 0), (.int .u32 0)] [(0, 1), (1, 1), (2, 1), (3, 1)] := ⟨by kernel_rfl, by kernel_rfl⟩
instance : TEqN Try.prog 70 [true, false, false, false] := ⟨by kernel_rfl, by kernel_rfl, by kernel_rfl, by kernel_rfl⟩
instance : TFld Try.prog 70 0 0 := ⟨by kernel_rfl⟩
instance : TPart Try.prog 70 0 0 1 false := ⟨by kernel_rfl⟩
instance : TFld Try.prog 70 1 1 := ⟨by kernel_rfl⟩
instance : TPart Try.prog 70 1 1 1 false := ⟨by kernel_rfl⟩
instance : TFld Try.prog 70 2 2 := ⟨by kernel_rfl⟩
instance : TPart Try.prog 70 2 2 1 false := ⟨by kernel_rfl⟩
instance : TFld Try.prog 70 3 3 := ⟨by kernel_rfl⟩
instance : TPart Try.prog 70 3 3 1 false := ⟨by kernel_rfl⟩
instance : TConc Try.prog 70 := ⟨_, Try.underlying70, rfl⟩
instance : TAgg Try.prog 74 4 := ⟨by kernel_rfl, by kernel_rfl⟩
instance : TZero Try.prog 74 [(.slice none 0 0), (.slice none 0 0), (.slice none 0 0), (.slice none 0 0)] := ⟨by kernel_rfl⟩
instance : TBld Try.prog 74 [(.slice none 0 0), (.slice none 0 0), (.slice none 0 0), (.slice none 0 0)] [(0, 1), (1, 1), (2, 1), (3, 1)] := ⟨by kernel_rfl, by kernel_rfl⟩
instance : TFld Try.prog 74 0 0 := ⟨by kernel_rfl⟩
instance : TPart Try.prog 74 0 0 1 false := ⟨by kernel_rfl⟩
instance : TFld Try.prog 74 1 1 := ⟨by kernel_rfl⟩
instance : TPart Try.prog 74 1 1 1 false := ⟨by kernel_rfl⟩
instance : TFld Try.prog 74 2 2 := ⟨by kernel_rfl⟩
instance : TPart Try.prog 74 2 2 1 false := ⟨by kernel_rfl⟩
instance : TFld Try.prog 74 3 3 := ⟨by kernel_rfl⟩
instance : TPart Try.prog 74 3 3 1 false := ⟨by kernel_rfl⟩
instance : TConc Try.prog 74 := ⟨_, Try.underlying74, rfl⟩
instance : TOne Try.prog 75 := ⟨by kernel_rfl, by kernel_rfl⟩
instance : TZero Try.prog 75 [(.slice none 0 0)] := ⟨by kernel_rfl⟩
instance : TSl Try.prog 75 74 4 96 := ⟨Try.underlying75, by kernel_rfl⟩
instance : TConc Try.prog 75 := ⟨_, Try.underlying75, rfl⟩
instance : TOne Try.prog 76 := ⟨by kernel_rfl, by kernel_rfl⟩
instance : TZero Try.prog 76 [(.slice none 0 0)] := ⟨by kernel_rfl⟩
instance : TSl Try.prog 76 9 1 16 := ⟨Try.underlying76, by kernel_rfl⟩
instance : TConc Try.prog 76 := ⟨_, Try.underlying76, rfl⟩
instance : TAgg Try.prog 82 4 := ⟨by kernel_rfl, by kernel_rfl⟩
instance : TZero Try.prog 82 [(.int .i64 0), (.slice none 0 0), (.slice none 0 0), (.int .i64 0)] := ⟨by kernel_rfl⟩
instance : TBld Try.prog 82 [(.int .i64 0), (.slice none 0 0), (.slice none 0 0), (.int .i64 0)] [(0, 1), (1, 1), (2, 1), (3, 1)] := ⟨by kernel_rfl, by kernel_rfl⟩
instance : TFld Try.prog 82 0 0 := ⟨by kernel_rfl⟩
instance : TPart Try.prog 82 0 0 1 false := ⟨by kernel_rfl⟩
instance : TFld Try.prog 82 1 1 := ⟨by kernel_rfl⟩
instance : TPart Try.prog 82 1 1 1 false := ⟨by kernel_rfl⟩
instance : TFld Try.prog 82 2 2 := ⟨by kernel_rfl⟩
instance : TPart Try.prog 82 2 2 1 false := ⟨by kernel_rfl⟩
instance : TFld Try.prog 82 3 3 := ⟨by kernel_rfl⟩
instance : TPart Try.prog 82 3 3 1 false := ⟨by kernel_rfl⟩
instance : TConc Try.prog 82 := ⟨_, Try.underlying82, rfl⟩
instance : TOne Try.prog 83 := ⟨by kernel_rfl, by kernel_rfl⟩
instance : TZero Try.prog 83 [(.pointer none)] := ⟨by kernel_rfl⟩
instance : TPtr Try.prog 83 := ⟨_, Try.underlying83⟩
instance : TConc Try.prog 83 := ⟨_, Try.underlying83, rfl⟩
instance : TAgg Try.prog 85 5 := ⟨by kernel_rfl, by kernel_rfl⟩
instance : TZero Try.prog 85 [(.int .i64 0), (.slice none 0 0), (.slice none 0 0), (.int .i64 0), (.slice none 0 0)] := ⟨by kernel_rfl⟩
instance : TBld Try.prog 85 [(.int .i64 0), (.slice none 0 0), (.slice none 0 0), (.int .i64 0), (.slice none 0 0)] [(0, 4), (4, 1)] := ⟨by kernel_rfl, by kernel_rfl⟩
instance : TFld Try.prog 85 0 0 := ⟨by kernel_rfl⟩
instance : TPart Try.prog 85 0 0 4 true := ⟨by kernel_rfl⟩
instance : TFld Try.prog 85 1 4 := ⟨by kernel_rfl⟩
instance : TPart Try.prog 85 1 4 1 false := ⟨by kernel_rfl⟩
instance : TConc Try.prog 85 := ⟨_, Try.underlying85, rfl⟩
instance : TAgg Try.prog 89 2 := ⟨by kernel_rfl, by kernel_rfl⟩
instance : TZero Try.prog 89 [(.int .i64 0), (.string ⟨#[]⟩)] := ⟨by kernel_rfl⟩
instance : TBld Try.prog 89 [(.int .i64 0), (.string ⟨#[]⟩)] [(0, 1), (1, 1)] := ⟨by kernel_rfl, by kernel_rfl⟩
instance : TEqN Try.prog 89 [false, true] := ⟨by kernel_rfl, by kernel_rfl, by kernel_rfl, by kernel_rfl⟩
instance : TFld Try.prog 89 0 0 := ⟨by kernel_rfl⟩
instance : TPart Try.prog 89 0 0 1 false := ⟨by kernel_rfl⟩
instance : TFld Try.prog 89 1 1 := ⟨by kernel_rfl⟩
instance : TPart Try.prog 89 1 1 1 false := ⟨by kernel_rfl⟩
instance : TConc Try.prog 89 := ⟨_, Try.underlying89, rfl⟩
instance : TOne Try.prog 93 := ⟨by kernel_rfl, by kernel_rfl⟩
instance : TZero Try.prog 93 [.nilIface] := ⟨by kernel_rfl⟩
instance : TOne Try.prog 96 := ⟨by kernel_rfl, by kernel_rfl⟩
instance : TZero Try.prog 96 [.nilFunc] := ⟨by kernel_rfl⟩
instance : TFn Try.prog 96 := ⟨_, _, _, Try.underlying96⟩
instance : TConc Try.prog 96 := ⟨_, Try.underlying96, rfl⟩
instance : TOne Try.prog 102 := ⟨by kernel_rfl, by kernel_rfl⟩
instance : TZero Try.prog 102 [(.pointer none)] := ⟨by kernel_rfl⟩
instance : TPtr Try.prog 102 := ⟨_, Try.underlying102⟩
instance : TConc Try.prog 102 := ⟨_, Try.underlying102, rfl⟩
instance : TOne Try.prog 108 := ⟨by kernel_rfl, by kernel_rfl⟩
instance : TZero Try.prog 108 [(.int .u64 0)] := ⟨by kernel_rfl⟩
instance : TInt Try.prog 108 .u64 := ⟨Try.underlying108⟩
instance : TConc Try.prog 108 := ⟨_, Try.underlying108, rfl⟩
instance : TOne Try.prog 119 := ⟨by kernel_rfl, by kernel_rfl⟩
instance : TZero Try.prog 119 [(.pointer none)] := ⟨by kernel_rfl⟩
instance : TPtr Try.prog 119 := ⟨_, Try.underlying119⟩
instance : TConc Try.prog 119 := ⟨_, Try.underlying119, rfl⟩
instance : TOne Try.prog 120 := ⟨by kernel_rfl, by kernel_rfl⟩
instance : TZero Try.prog 120 [(.map none)] := ⟨by kernel_rfl⟩
instance : TMap Try.prog 120 3 33 := ⟨Try.underlying120⟩
instance : TZv Try.prog 33 (.slice none 0 0) := ⟨by kernel_rfl⟩
instance : TConc Try.prog 120 := ⟨_, Try.underlying120, rfl⟩
instance : TAgg Try.prog 122 2 := ⟨by kernel_rfl, by kernel_rfl⟩
instance : TZero Try.prog 122 [.nilIface, (.map none)] := ⟨by kernel_rfl⟩
instance : TBld Try.prog 122 [.nilIface, (.map none)] [(0, 1), (1, 1)] := ⟨by kernel_rfl, by kernel_rfl⟩
instance : TFld Try.prog 122 0 0 := ⟨by kernel_rfl⟩
instance : TPart Try.prog 122 0 0 1 false := ⟨by kernel_rfl⟩
instance : TFld Try.prog 122 1 1 := ⟨by kernel_rfl⟩
instance : TPart Try.prog 122 1 1 1 false := ⟨by kernel_rfl⟩
instance : TConc Try.prog 122 := ⟨_, Try.underlying122, rfl⟩
instance : TOne Try.prog 126 := ⟨by kernel_rfl, by kernel_rfl⟩
instance : TZero Try.prog 126 [(.slice none 0 0)] := ⟨by kernel_rfl⟩
instance : TSl Try.prog 126 131 3 24 := ⟨Try.underlying126, by kernel_rfl⟩
instance : TConc Try.prog 126 := ⟨_, Try.underlying126, rfl⟩
instance : TAgg Try.prog 131 3 := ⟨by kernel_rfl, by kernel_rfl⟩
instance : TZero Try.prog 131 [(.string ⟨#[]⟩), (.int .u32 0), (.int .u32 0)] := ⟨by kernel_rfl⟩
instance : TBld Try.prog 131 [(.string ⟨#[]⟩), (.int .u32 0), (.int .u32 0)] [(0, 1), (1, 1), (2, 1)] := ⟨by kernel_rfl, by kernel_rfl⟩
instance : TEqN Try.prog 131 [true, false, false] := ⟨by kernel_rfl, by kernel_rfl, by kernel_rfl, by kernel_rfl⟩
instance : TFld Try.prog 131 0 0 := ⟨by kernel_rfl⟩
instance : TPart Try.prog 131 0 0 1 false := ⟨by kernel_rfl⟩
instance : TFld Try.prog 131 1 1 := ⟨by kernel_rfl⟩
instance : TPart Try.prog 131 1 1 1 false := ⟨by kernel_rfl⟩
instance : TFld Try.prog 131 2 2 := ⟨by kernel_rfl⟩
instance : TPart Try.prog 131 2 2 1 false := ⟨by kernel_rfl⟩
instance : TConc Try.prog 131 := ⟨_, Try.underlying131, rfl⟩
instance : TOne Try.prog 141 := ⟨by kernel_rfl, by kernel_rfl⟩
instance : TZero Try.prog 141 [(.slice none 0 0)] := ⟨by kernel_rfl⟩
instance : TSl Try.prog 141 5 1 1 := ⟨Try.underlying141, by kernel_rfl⟩
instance : TConc Try.prog 141 := ⟨_, Try.underlying141, rfl⟩
instance : TAgg Try.prog 143 1 := ⟨by kernel_rfl, by kernel_rfl⟩
instance : TZero Try.prog 143 [(.slice none 0 0)] := ⟨by kernel_rfl⟩
instance : TBld Try.prog 143 [(.slice none 0 0)] [(0, 1)] := ⟨by kernel_rfl, by kernel_rfl⟩
instance : TFld Try.prog 143 0 0 := ⟨by kernel_rfl⟩
instance : TPart Try.prog 143 0 0 1 false := ⟨by kernel_rfl⟩
instance : TConc Try.prog 143 := ⟨_, Try.underlying143, rfl⟩
instance : TAgg Try.prog 145 256 := ⟨by kernel_rfl, by kernel_rfl⟩
instance : TArr Try.prog 145 256 24 1 := ⟨Try.underlying145, by kernel_rfl⟩
instance : TConc Try.prog 145 := ⟨_, Try.underlying145, rfl⟩
instance : TOne Try.prog 148 := ⟨by kernel_rfl, by kernel_rfl⟩
instance : TZero Try.prog 148 [(.pointer none)] := ⟨by kernel_rfl⟩
instance : TPtr Try.prog 148 := ⟨_, Try.underlying148⟩
instance : TConc Try.prog 148 := ⟨_, Try.underlying148, rfl⟩
instance : TOne Try.prog 152 := ⟨by kernel_rfl, by kernel_rfl⟩
instance : TZero Try.prog 152 [.nilFunc] := ⟨by kernel_rfl⟩
instance : TFn Try.prog 152 := ⟨_, _, _, Try.underlying152⟩
instance : TConc Try.prog 152 := ⟨_, Try.underlying152, rfl⟩
instance : TOne Try.prog 154 := ⟨by kernel_rfl, by kernel_rfl⟩
instance : TZero Try.prog 154 [.nilIface] := ⟨by kernel_rfl⟩
instance : TOne Try.prog 155 := ⟨by kernel_rfl, by kernel_rfl⟩
instance : TZero Try.prog 155 [(.pointer none)] := ⟨by kernel_rfl⟩
instance : TPtr Try.prog 155 := ⟨_, Try.underlying155⟩
instance : TConc Try.prog 155 := ⟨_, Try.underlying155, rfl⟩
instance : TOne Try.prog 157 := ⟨by kernel_rfl, by kernel_rfl⟩
instance : TZero Try.prog 157 [(.int .i64 0)] := ⟨by kernel_rfl⟩
instance : TInt Try.prog 157 .i64 := ⟨Try.underlying157⟩
instance : TConc Try.prog 157 := ⟨_, Try.underlying157, rfl⟩
instance : TOne Try.prog 159 := ⟨by kernel_rfl, by kernel_rfl⟩
instance : TZero Try.prog 159 [(.pointer none)] := ⟨by kernel_rfl⟩
instance : TPtr Try.prog 159 := ⟨_, Try.underlying159⟩
instance : TConc Try.prog 159 := ⟨_, Try.underlying159, rfl⟩
instance : TOne Try.prog 160 := ⟨by kernel_rfl, by kernel_rfl⟩
instance : TZero Try.prog 160 [(.pointer none)] := ⟨by kernel_rfl⟩
instance : TPtr Try.prog 160 := ⟨_, Try.underlying160⟩
instance : TConc Try.prog 160 := ⟨_, Try.underlying160, rfl⟩
instance : TAgg Try.prog 162 3 := ⟨by kernel_rfl, by kernel_rfl⟩
instance : TZero Try.prog 162 [.nilIface, (.pointer none), (.pointer none)] := ⟨by kernel_rfl⟩
instance : TBld Try.prog 162 [.nilIface, (.pointer none), (.pointer none)] [(0, 1), (1, 1), (2, 1)] := ⟨by kernel_rfl, by kernel_rfl⟩
instance : TFld Try.prog 162 0 0 := ⟨by kernel_rfl⟩
instance : TPart Try.prog 162 0 0 1 false := ⟨by kernel_rfl⟩
instance : TFld Try.prog 162 1 1 := ⟨by kernel_rfl⟩
instance : TPart Try.prog 162 1 1 1 false := ⟨by kernel_rfl⟩
instance : TFld Try.prog 162 2 2 := ⟨by kernel_rfl⟩
instance : TPart Try.prog 162 2 2 1 false := ⟨by kernel_rfl⟩
instance : TConc Try.prog 162 := ⟨_, Try.underlying162, rfl⟩
instance : TOne Try.prog 176 := ⟨by kernel_rfl, by kernel_rfl⟩
instance : TZero Try.prog 176 [(.slice none 0 0)] := ⟨by kernel_rfl⟩
instance : TSl Try.prog 176 180 2 16 := ⟨Try.underlying176, by kernel_rfl⟩
instance : TConc Try.prog 176 := ⟨_, Try.underlying176, rfl⟩
instance : TAgg Try.prog 178 2 := ⟨by kernel_rfl, by kernel_rfl⟩
instance : TZero Try.prog 178 [(.slice none 0 0), (.int .u64 0)] := ⟨by kernel_rfl⟩
instance : TBld Try.prog 178 [(.slice none 0 0), (.int .u64 0)] [(0, 1), (1, 1)] := ⟨by kernel_rfl, by kernel_rfl⟩
instance : TFld Try.prog 178 0 0 := ⟨by kernel_rfl⟩
instance : TPart Try.prog 178 0 0 1 false := ⟨by kernel_rfl⟩
instance : TFld Try.prog 178 1 1 := ⟨by kernel_rfl⟩
instance : TPart Try.prog 178 1 1 1 false := ⟨by kernel_rfl⟩
instance : TConc Try.prog 178 := ⟨_, Try.underlying178, rfl⟩
instance : TAgg Try.prog 180 2 := ⟨by kernel_rfl, by kernel_rfl⟩
instance : TZero Try.prog 180 [(.int .i64 0), (.int .u64 0)] := ⟨by kernel_rfl⟩
instance : TBld Try.prog 180 [(.int .i64 0), (.int .u64 0)] [(0, 1), (1, 1)] := ⟨by kernel_rfl, by kernel_rfl⟩
instance : TEq2 Try.prog 180 := ⟨by kernel_rfl, by kernel_rfl⟩
instance : TFld Try.prog 180 0 0 := ⟨by kernel_rfl⟩
instance : TPart Try.prog 180 0 0 1 false := ⟨by kernel_rfl⟩
instance : TFld Try.prog 180 1 1 := ⟨by kernel_rfl⟩
instance : TPart Try.prog 180 1 1 1 false := ⟨by kernel_rfl⟩
instance : TConc Try.prog 180 := ⟨_, Try.underlying180, rfl⟩
instance : TOne Try.prog 183 := ⟨by kernel_rfl, by kernel_rfl⟩
instance : TZero Try.prog 183 [(.int .i64 0)] := ⟨by kernel_rfl⟩
instance : TInt Try.prog 183 .i64 := ⟨Try.underlying183⟩
instance : TConc Try.prog 183 := ⟨_, Try.underlying183, rfl⟩
instance : TOne Try.prog 194 := ⟨by kernel_rfl, by kernel_rfl⟩
instance : TZero Try.prog 194 [(.slice none 0 0)] := ⟨by kernel_rfl⟩
instance : TSl Try.prog 194 108 1 8 := ⟨Try.underlying194, by kernel_rfl⟩
instance : TConc Try.prog 194 := ⟨_, Try.underlying194, rfl⟩
instance : TAgg Try.prog 196 2 := ⟨by kernel_rfl, by kernel_rfl⟩
instance : TZero Try.prog 196 [(.int .i64 0), (.slice none 0 0)] := ⟨by kernel_rfl⟩
instance : TBld Try.prog 196 [(.int .i64 0), (.slice none 0 0)] [(0, 1), (1, 1)] := ⟨by kernel_rfl, by kernel_rfl⟩
instance : TFld Try.prog 196 0 0 := ⟨by kernel_rfl⟩
instance : TPart Try.prog 196 0 0 1 false := ⟨by kernel_rfl⟩
instance : TFld Try.prog 196 1 1 := ⟨by kernel_rfl⟩
instance : TPart Try.prog 196 1 1 1 false := ⟨by kernel_rfl⟩
instance : TConc Try.prog 196 := ⟨_, Try.underlying196, rfl⟩
instance : TOne Try.prog 197 := ⟨by kernel_rfl, by kernel_rfl⟩
instance : TZero Try.prog 197 [(.slice none 0 0)] := ⟨by kernel_rfl⟩
instance : TSl Try.prog 197 157 1 8 := ⟨Try.underlying197, by kernel_rfl⟩
instance : TConc Try.prog 197 := ⟨_, Try.underlying197, rfl⟩
instance : TOne Try.prog 199 := ⟨by kernel_rfl, by kernel_rfl⟩
instance : TZero Try.prog 199 [(.int .u64 0)] := ⟨by kernel_rfl⟩
instance : TInt Try.prog 199 .u64 := ⟨Try.underlying199⟩
instance : TConc Try.prog 199 := ⟨_, Try.underlying199, rfl⟩
instance : TOne Try.prog 203 := ⟨by kernel_rfl, by kernel_rfl⟩
instance : TZero Try.prog 203 [(.pointer none)] := ⟨by kernel_rfl⟩
instance : TPtr Try.prog 203 := ⟨_, Try.underlying203⟩
instance : TConc Try.prog 203 := ⟨_, Try.underlying203, rfl⟩
instance : TOne Try.prog 207 := ⟨by kernel_rfl, by kernel_rfl⟩
instance : TZero Try.prog 207 [(.pointer none)] := ⟨by kernel_rfl⟩
instance : TPtr Try.prog 207 := ⟨_, Try.underlying207⟩
instance : TConc Try.prog 207 := ⟨_, Try.underlying207, rfl⟩
instance : TOne Try.prog 223 := ⟨by kernel_rfl, by kernel_rfl⟩
instance : TZero Try.prog 223 [(.pointer none)] := ⟨by kernel_rfl⟩
instance : TPtr Try.prog 223 := ⟨_, Try.underlying223⟩
instance : TConc Try.prog 223 := ⟨_, Try.underlying223, rfl⟩
end SX
namespace SX
open Go Go.Proofs
theorem turn_spec (c : W32) : Spec Try.prog 92 [.int .u32 (c.toNat : Nat)] [] (fun v L => v = .int .u32 ((turnW c).toNat : Nat) ∧ L = []) := by
  refine Spec.of 11 Try.func92 rfl rfl rfl ?_
  refine swp_seq ?_
  refine swp_region ?_
  refine s_pu (pu_assign rfl) ?_
  refine swl_sub _ (.cons (t := 0) rfl .nil) ?_
  refine swl_nil ?_
  refine then_n ?_
  refine swp_seq ?_
  refine swp_seq ?_
  refine swp_region ?_
  refine s_pu (pu_move rfl) ?_
  refine s_pu (pu_and_w32 (b := 1#32) rfl rfl) ?_
  refine s_pu (pu_neq rfl rfl) ?_
  refine swl_sub _ (.cons (t := 0) rfl (.cons (t := 5) rfl .nil)) ?_
  refine swl_nil ?_
  refine then_n ?_
  refine swp_cond (b := _) rfl (fun h5 => ?_) (fun h5 => ?_)
  · skip   -- 5 T
    have h5' : ¬ (c &&& 1#32) = 0#32 := by
      intro e; rw [e] at h5; simp at h5
    refine swp_seq ?_
    refine swp_region ?_
    refine s_pu (pu_move rfl) ?_
    refine s_pu (pu_shr_w32 1 rfl rfl (by decide)) ?_
    refine s_pu (pu_xor_w32 (b := polyW) rfl rfl) ?_
    refine s_pu (pu_assign rfl) ?_
    refine swl_sub _ (.cons (t := 2) rfl .nil) ?_
    refine swl_nil ?_
    refine then_n ?_
    refine swp_ret ?_
    refine then_r ?_
    exact done_ret [] (.tmp rfl .nil) ⟨by unfold turnW; rw [if_neg h5']; rfl, rfl⟩ (by repeat (first | exact Split.nil | (apply Split.cons; (repeat (first | with_reducible exact Take.here | apply Take.there)))))
  · skip   -- 5 F
    have h5' : (c &&& 1#32) = 0#32 := by
      have := of_decide_eq_true ((Bool.not_eq_false' _).mp h5)
      exact BitVec.eq_of_toNat_eq (Int.ofNat.inj this)
    refine swp_skip ?_
    refine then_n ?_
    refine swp_seq ?_
    refine swp_region ?_
    refine s_pu (pu_move rfl) ?_
    refine s_pu (pu_shr_w32 1 rfl rfl (by decide)) ?_
    refine s_pu (pu_assign rfl) ?_
    refine swl_sub _ (.cons (t := 2) rfl .nil) ?_
    refine swl_nil ?_
    refine then_n ?_
    refine swp_ret ?_
    exact done_ret [] (.tmp rfl .nil) ⟨by unfold turnW; rw [if_pos h5']; rfl, rfl⟩ (by repeat (first | exact Split.nil | (apply Split.cons; (repeat (first | with_reducible exact Take.here | apply Take.there)))))
theorem low_one (c : W32) : (c &&& 1#32) = 0#32 ∨ (c &&& 1#32) = 1#32 := by
  have : (c &&& 1#32).toNat < 2 := by
    rw [BitVec.toNat_and]; exact Nat.lt_of_le_of_lt Nat.and_le_right (by decide)
  rcases Nat.lt_or_ge (c &&& 1#32).toNat 1 with h | h
  · exact .inl (BitVec.eq_of_toNat_eq (by show _ = 0; omega))
  · exact .inr (BitVec.eq_of_toNat_eq (by show _ = 1; omega))
theorem rturn_spec (c : W32) : Spec Try.prog 93 [.int .u32 (c.toNat : Nat)] [] (fun v L => v = .int .u32 ((turnW c).toNat : Nat) ∧ L = []) := by
  refine Spec.of 11 Try.func93 rfl rfl rfl ?_
  refine swp_seq ?_
  refine swp_region ?_
  refine s_pu (pu_assign rfl) ?_
  refine swl_sub _ (.cons (t := 0) rfl .nil) ?_
  refine swl_nil ?_
  refine then_n ?_
  refine swp_seq ?_
  refine swp_seq ?_
  refine swp_region ?_
  refine s_pu (pu_move rfl) ?_
  refine s_pu (pu_and_w32 (b := 1#32) rfl rfl) ?_
  refine s_pu (pu_eql rfl rfl) ?_
  refine swl_sub _ (.cons (t := 0) rfl (.cons (t := 5) rfl .nil)) ?_
  refine swl_nil ?_
  refine then_n ?_
  refine swp_cond (b := _) rfl (fun h5 => ?_) (fun h5 => ?_)
  · skip   -- 5 T
    have h5' : ¬ (c &&& 1#32) = 0#32 := by
      intro e; rw [e] at h5; simp at h5
    refine swp_seq ?_
    refine swp_region ?_
    refine s_pu (pu_move rfl) ?_
    refine s_pu (pu_shr_w32 1 rfl rfl (by decide)) ?_
    refine s_pu (pu_xor_w32 (b := polyW) rfl rfl) ?_
    refine s_pu (pu_assign rfl) ?_
    refine swl_sub _ (.cons (t := 2) rfl .nil) ?_
    refine swl_nil ?_
    refine then_n ?_
    refine swp_ret ?_
    refine then_r ?_
    exact done_ret [] (.tmp rfl .nil) ⟨by unfold turnW; rw [if_neg h5']; rfl, rfl⟩ (by repeat (first | exact Split.nil | (apply Split.cons; (repeat (first | with_reducible exact Take.here | apply Take.there)))))
  · skip   -- 5 F
    have h5' : (c &&& 1#32) = 0#32 := by
      refine (low_one c).resolve_right fun e => ?_
      rw [e] at h5; simp at h5
    refine swp_skip ?_
    refine then_n ?_
    refine swp_seq ?_
    refine swp_region ?_
    refine s_pu (pu_move rfl) ?_
    refine s_pu (pu_shr_w32 1 rfl rfl (by decide)) ?_
    refine s_pu (pu_assign rfl) ?_
    refine swl_sub _ (.cons (t := 2) rfl .nil) ?_
    refine swl_nil ?_
    refine then_n ?_
    refine swp_ret ?_
    exact done_ret [] (.tmp rfl .nil) ⟨by unfold turnW; rw [if_pos h5']; rfl, rfl⟩ (by repeat (first | exact Split.nil | (apply Split.cons; (repeat (first | with_reducible exact Take.here | apply Take.there)))))
theorem turns_succ (k : Nat) (c : W32) : turnsW (k + 1) c = turnW (turnsW k c) := by
  induction k generalizing c with
  | zero => rfl
  | succ k ih => rw [turnsW, ih]; rfl
set_option maxHeartbeats 1000000 in
theorem rmore_spec (c : W32) (s : ByteArray) (hs : s.size ≤ 1048576) : Spec Try.prog 79 [.int .u32 (c.toNat : Nat), .string s] [] (fun v L => v = .int .u32 ((~~~ crcW (~~~ c) s.data.toList).toNat : Nat) ∧ L = []) := by
  have hl : s.data.toList.length = s.size := by rw [Array.length_toList]; rfl
  refine Spec.of 30 Try.func79 rfl rfl rfl ?_
  refine swp_seq ?_
  refine swp_region ?_
  refine s_pu (pu_assign rfl) ?_
  refine swl_sub _ (.cons (t := 0) rfl (.cons (t := 1) rfl .nil)) ?_
  refine swl_nil ?_
  refine then_n ?_
  refine swp_seq ?_
  refine swp_region ?_
  refine s_pu (pu_move rfl) ?_
  refine s_pu (pu_not_w32 rfl) ?_
  refine s_pu (pu_assign rfl) ?_
  refine swl_sub _ (.cons (t := 1) rfl (.cons (t := 5) rfl .nil)) ?_
  refine swl_nil ?_
  refine then_n ?_
  refine swp_seq ?_
  refine swp_seq ?_
  refine swp_region ?_
  refine s_pu (pu_assign rfl) ?_
  refine swl_sub _ (.cons (t := 1) rfl (.cons (t := 5) rfl (.cons (t := 6) rfl .nil))) ?_
  refine swl_nil ?_
  refine then_n ?_
  refine swp_block ?_
  refine swp_loop (ι := Nat × W32) (fun k env L => Sub env [(1, .string s), (5, .int .u32 (k.2.toNat : Nat)), (6, .int .i64 (k.1 : Nat))] ∧ L = [] ∧ k.1 ≤ s.size ∧ k.2 = crcW (~~~ c) (s.data.toList.take k.1)) (fun k => s.size - k.1) (0, ~~~ c) ⟨⟨rfl, rfl, rfl, trivial⟩, rfl, Nat.zero_le _, rfl⟩ ?_
  rintro ⟨i, d⟩ env L ⟨hsub, rfl, hi, hd⟩
  simp only [] at hi hd hsub
  refine swp_sub _ hsub ?_
  clear hsub env
  dsimp only
  refine swp_seq ?_
  refine swp_seq ?_
  refine swp_region ?_
  refine s_pu (pu_move rfl) ?_
  refine s_pu (pu_move rfl) ?_
  refine s_pu (pu_strlen rfl) ?_
  refine s_pu (pu_lss rfl rfl) ?_
  refine swl_sub _ (.cons (t := 1) rfl (.cons (t := 5) rfl (.cons (t := 6) rfl (.cons (t := 13) rfl .nil)))) ?_
  refine swl_nil ?_
  refine then_n ?_
  refine swp_cond (b := _) rfl (fun h13 => ?_) (fun h13 => ?_)
  · skip   -- 13 T
    have h13' : i < s.size := by have := of_decide_eq_true h13; omega
    obtain ⟨b, hb⟩ : ∃ b, s.data.toList[i]? = some b := ⟨_, List.getElem?_eq_getElem (by omega)⟩
    have hb32 : ((b.toNat : Nat) : Int) = ((BitVec.ofNat 32 b.toNat).toNat : Int) := by
      have := b.toNat_lt; rw [BitVec.toNat_ofNat, Nat.mod_eq_of_lt (by omega)]
    refine swp_skip ?_
    refine then_n ?_
    refine swp_seq ?_
    refine swp_block ?_
    refine swp_seq ?_
    refine swp_region ?_
    refine s_pu (pu_move rfl) ?_
    refine s_pu (pu_move rfl) ?_
    refine s_pu (pu_move rfl) ?_
    refine s_pu (pu_str_index rfl rfl rfl hb) ?_
    refine s_pu (pu_conv_as (k' := .u32) (n := ((BitVec.ofNat 32 b.toNat).toNat : Int)) (by rw [← hb32]; rfl) (wrap_word32 _)) ?_
    refine s_pu (pu_xor_w32 rfl rfl) ?_
    refine s_pu (pu_assign rfl) ?_
    refine swl_sub _ (.cons (t := 1) rfl (.cons (t := 5) rfl (.cons (t := 6) rfl .nil))) ?_
    refine swl_nil ?_
    refine then_n ?_
    refine swp_seq ?_
    refine swp_region ?_
    refine s_pu (pu_assign rfl) ?_
    refine swl_sub _ (.cons (t := 1) rfl (.cons (t := 5) rfl (.cons (t := 6) rfl (.cons (t := 7) rfl .nil)))) ?_
    refine swl_nil ?_
    refine then_n ?_
    refine swp_block ?_
    refine swp_loop (ι := Nat) (fun k env L => Sub env [(1, .string s), (5, .int .u32 ((turnsW k (d ^^^ BitVec.ofNat 32 b.toNat)).toNat : Nat)), (6, .int .i64 (i : Nat)), (7, .int .i64 (k : Nat))] ∧ L = [] ∧ k ≤ 8) (fun k => 8 - k) 0 ⟨⟨rfl, rfl, rfl, rfl, trivial⟩, rfl, Nat.zero_le _⟩ ?_
    rintro k env L ⟨hsub, rfl, hk⟩
    refine swp_sub _ hsub ?_
    clear hsub env
    refine swp_seq ?_
    refine swp_seq ?_
    refine swp_region ?_
    refine s_pu (pu_move rfl) ?_
    refine s_pu (pu_lss rfl rfl) ?_
    refine swl_sub _ (.cons (t := 1) rfl (.cons (t := 5) rfl (.cons (t := 6) rfl (.cons (t := 7) rfl (.cons (t := 23) rfl .nil))))) ?_
    refine swl_nil ?_
    refine then_n ?_
    refine swp_cond (b := _) rfl (fun h23 => ?_) (fun h23 => ?_)
    · skip   -- 23 T
      have h23' : k < 8 := by have := of_decide_eq_true h23; omega
      refine swp_skip ?_
      refine then_n ?_
      refine swp_seq ?_
      refine swp_block ?_
      refine swp_region ?_
      refine s_pu (pu_move rfl) ?_
      refine s_ef (ef_fn (rturn_spec _) rfl rfl (by repeat (first | exact Split.nil | (apply Split.cons; (repeat (first | with_reducible exact Take.here | apply Take.there)))))) ?_
      rintro v27 L1 ⟨rfl, rfl⟩
      refine swl_app ?_
      refine s_pu (pu_assign rfl) ?_
      refine swl_sub _ (.cons (t := 1) rfl (.cons (t := 5) rfl (.cons (t := 6) rfl (.cons (t := 7) rfl .nil)))) ?_
      refine swl_nil ?_
      refine block_n ?_
      refine then_n ?_
      refine swp_region ?_
      refine s_pu (pu_move rfl) ?_
      refine s_pu (pu_add_as ((k + 1 : Nat) : Int) rfl rfl (by omega) (by omega) (by omega)) ?_
      refine s_pu (pu_assign rfl) ?_
      refine swl_sub _ (.cons (t := 1) rfl (.cons (t := 5) rfl (.cons (t := 6) rfl (.cons (t := 7) rfl .nil)))) ?_
      refine swl_nil ?_
      refine then_n ⟨k + 1, ⟨⟨rfl, by rw [turns_succ]; rfl, rfl, rfl, trivial⟩, rfl, h23'⟩, by omega⟩
    · skip   -- 23 F
      have h23' := of_decide_eq_false h23
      obtain rfl : k = 8 := by omega
      refine swp_exit ?_
      refine then_x ?_
      refine then_x ?_
      refine block_hit rfl ?_
      refine block_n ?_
      refine then_n ?_
      refine swp_region ?_
      refine s_pu (pu_move rfl) ?_
      refine s_pu (pu_add_as ((i + 1 : Nat) : Int) rfl rfl (by omega) (by omega) (by omega)) ?_
      refine s_pu (pu_assign rfl) ?_
      refine swl_sub _ (.cons (t := 1) rfl (.cons (t := 5) rfl (.cons (t := 6) rfl .nil))) ?_
      refine swl_nil ?_
      refine then_n ⟨(i + 1, turnsW 8 (d ^^^ BitVec.ofNat 32 b.toNat)), ⟨⟨rfl, rfl, rfl, trivial⟩, rfl, h13', ?_⟩, by show s.size - (i + 1) < s.size - i; omega⟩
      show turnsW 8 (d ^^^ BitVec.ofNat 32 b.toNat) = crcW (~~~ c) (s.data.toList.take (i + 1))
      rw [List.take_add_one, hb, crcW, List.foldl_append, hd]; rfl
  · skip   -- 13 F
    have h13' := of_decide_eq_false h13
    obtain rfl : i = s.size := by omega
    rw [← hl, List.take_length] at hd
    subst hd
    refine swp_exit ?_
    refine then_x ?_
    refine then_x ?_
    refine block_hit rfl ?_
    refine then_n ?_
    refine swp_seq ?_
    refine swp_region ?_
    refine s_pu (pu_move rfl) ?_
    refine s_pu (pu_not_w32 rfl) ?_
    refine s_pu (pu_assign rfl) ?_
    refine swl_sub _ (.cons (t := 4) rfl .nil) ?_
    refine swl_nil ?_
    refine then_n ?_
    refine swp_ret ?_
    exact done_ret [] (.tmp rfl .nil) ⟨rfl, rfl⟩ (by repeat (first | exact Split.nil | (apply Split.cons; (repeat (first | with_reducible exact Take.here | apply Take.there)))))
end SX
namespace SX
open Go Go.Proofs
instance : TZero Try.prog 145 (List.replicate 256 (.int .u32 0)) := ⟨by kernel_rfl⟩
/-- the table, its first k places filled -/
def tabK (k : Nat) : List Value := (List.range 256).map fun i => if i < k then .int .u32 ((rowW i).toNat : Nat) else .int .u32 0
def tabC : List Value := (List.range 256).map fun i => .int .u32 ((rowW i).toNat : Nat)
theorem tabK_len (k : Nat) : (tabK k).length = 256 := by unfold tabK; rw [List.length_map, List.length_range]
theorem tabK_all : tabK 256 = tabC := by
  unfold tabK tabC
  refine List.map_congr_left fun i hi => ?_
  rw [if_pos (List.mem_range.1 hi)]
theorem tabK_zero : tabK 0 = List.replicate 256 (.int .u32 0) := by
  unfold tabK
  apply List.ext_getElem?
  intro i
  rw [List.getElem?_map, List.getElem?_replicate]
  by_cases h : i < 256
  · rw [List.getElem?_range h, if_pos h]; simp
  · rw [List.getElem?_eq_none (by simp; omega), if_neg h]; rfl
theorem tabK_get (k i : Nat) (hi : i < 256) : (tabK k)[i]? = some (if i < k then .int .u32 ((rowW i).toNat : Nat) else .int .u32 0) := by
  unfold tabK; rw [List.getElem?_map, List.getElem?_range hi]; rfl
theorem tabK_set {k : Nat} (hk : k < 256) : (tabK k).set k (.int .u32 ((rowW k).toNat : Nat)) = tabK (k + 1) := by
  apply List.ext_getElem?
  intro i
  rw [List.getElem?_set, tabK_len]
  by_cases hi : i < 256
  · rw [tabK_get _ _ hi, tabK_get _ _ hi]
    by_cases h : k = i
    · subst h; rw [if_pos rfl, if_pos hk, if_pos (by omega)]
    · rw [if_neg h]
      by_cases h2 : i < k
      · rw [if_pos h2, if_pos (by omega)]
      · rw [if_neg h2, if_neg (by omega)]
  · rw [if_neg (by omega), List.getElem?_eq_none (by rw [tabK_len]; omega), List.getElem?_eq_none (by rw [tabK_len]; omega)]
theorem ent_ro0 {L : List Assn} : Ent L (ro (fun _ => none) :: L) := fun m h => ⟨fun _ => none, m, (fun k x hk => by cases hk), h, (fun _ => .inl rfl), (fun _ _ h => by cases h), (fun _ _ h => h)⟩
theorem tabC_get {i : Nat} (hi : i < 256) : tabC[i]? = some (.int .u32 ((rowW i).toNat : Nat)) := by
  unfold tabC; rw [List.getElem?_map, List.getElem?_range hi]; rfl
theorem tabC_len : tabC.length = 256 := by unfold tabC; rw [List.length_map, List.length_range]
theorem tabC_one : tabC.all Value.oneCell' = true := by
  rw [List.all_eq_true]; intro v hv; unfold tabC at hv; obtain ⟨i, _, rfl⟩ := List.mem_map.1 hv; rfl
theorem wv_small {n : Nat} (h : n < 4294967296) : ((n : Nat) : Int) = ((BitVec.ofNat 32 n).toNat : Int) := by rw [BitVec.toNat_ofNat, Nat.mod_eq_of_lt (by omega)]
set_option maxHeartbeats 1000000 in
theorem rows_spec : Spec Try.prog 77 [] [] (fun v L => v = .agg tabC.toArray ∧ L = []) := by
  refine Spec.of 19 Try.func77 rfl rfl rfl ?_
  refine swp_seq ?_
  refine swp_region ?_
  refine s_ef (ef_alloc) ?_
  intro b0
  refine swl_sub _ (.cons (t := 0) rfl .nil) ?_
  refine swl_nil ?_
  refine then_n ?_
  refine swp_seq ?_
  refine swp_region ?_
  refine s_ef (ef_alloc) ?_
  intro b1
  refine swl_sub _ (.cons (t := 0) rfl (.cons (t := 1) rfl .nil)) ?_
  refine swl_nil ?_
  refine then_n ?_
  refine swp_seq ?_
  refine swp_seq ?_
  refine swp_region ?_
  refine s_pu (pu_move rfl) ?_
  refine swl_sub _ (.cons (t := 0) rfl (.cons (t := 1) rfl (.cons (t := 4) rfl .nil))) ?_
  rw [← tabK_zero]
  refine swl_nil ?_
  refine then_n ?_
  refine swp_block ?_
  refine swp_loop (ι := Nat) (fun k env L => Sub env [(0, .pointer (some ⟨b0, 0, none⟩)), (1, .pointer (some ⟨b1, 0, none⟩)), (4, .int .i64 (k : Nat))] ∧ L = [blk b1 145 (tabK k), blk b0 145 (tabK 0)] ∧ k ≤ 256) (fun k => 256 - k) 0 ⟨⟨rfl, rfl, rfl, trivial⟩, rfl, Nat.zero_le _⟩ ?_
  rintro k env L ⟨hsub, rfl, hk⟩
  refine swp_sub _ hsub ?_
  clear hsub env
  refine swp_seq ?_
  refine swp_region ?_
  refine s_pu (pu_lss rfl rfl) ?_
  refine swl_sub _ (.cons (t := 0) rfl (.cons (t := 1) rfl (.cons (t := 4) rfl (.cons (t := 5) rfl .nil)))) ?_
  refine swl_nil ?_
  refine then_n ?_
  refine swp_seq ?_
  refine swp_cond (b := _) rfl (fun h5 => ?_) (fun h5 => ?_)
  · skip   -- 5 T
    have h5' : k < 256 := by have := of_decide_eq_true h5; omega
    refine swp_skip ?_
    refine then_n ?_
    refine swp_seq ?_
    refine swp_block ?_
    refine swp_seq ?_
    refine swp_region ?_
    refine s_pu (pu_move rfl) ?_
    refine s_pu (pu_assign rfl) ?_
    refine swl_sub _ (.cons (t := 0) rfl (.cons (t := 1) rfl (.cons (t := 2) rfl (.cons (t := 4) rfl .nil)))) ?_
    refine swl_nil ?_
    refine then_n ?_
    refine swp_seq ?_
    refine swp_region ?_
    refine s_pu (pu_move rfl) ?_
    refine s_pu (pu_conv_as (k' := .u32) (n := ((BitVec.ofNat 32 k).toNat : Int)) (by rw [← wv_small (by omega)]; rfl) (wrap_word32 _)) ?_
    refine s_pu (pu_assign rfl) ?_
    refine swl_sub _ (.cons (t := 0) rfl (.cons (t := 1) rfl (.cons (t := 2) rfl (.cons (t := 3) rfl (.cons (t := 4) rfl .nil))))) ?_
    refine swl_nil ?_
    refine then_n ?_
    refine swp_seq ?_
    refine swp_seq ?_
    refine swp_region ?_
    refine s_pu (pu_move rfl) ?_
    refine swl_sub _ (.cons (t := 0) rfl (.cons (t := 1) rfl (.cons (t := 2) rfl (.cons (t := 3) rfl (.cons (t := 4) rfl (.cons (t := 9) rfl .nil)))))) ?_
    refine swl_nil ?_
    refine then_n ?_
    refine swp_block ?_
    refine swp_loop (ι := Nat) (fun j env L => Sub env [(0, .pointer (some ⟨b0, 0, none⟩)), (1, .pointer (some ⟨b1, 0, none⟩)), (2, .int .i64 (k : Nat)), (3, .int .u32 ((turnsW j (BitVec.ofNat 32 k)).toNat : Nat)), (4, .int .i64 (k : Nat)), (9, .int .i64 (j : Nat))] ∧ L = [blk b1 145 (tabK k), blk b0 145 (tabK 0)] ∧ j ≤ 8) (fun j => 8 - j) 0 ⟨⟨rfl, rfl, rfl, rfl, rfl, rfl, trivial⟩, rfl, Nat.zero_le _⟩ ?_
    rintro j env L ⟨hsub, rfl, hj⟩
    refine swp_sub _ hsub ?_
    clear hsub env
    refine swp_seq ?_
    refine swp_region ?_
    refine s_pu (pu_lss rfl rfl) ?_
    refine swl_sub _ (.cons (t := 0) rfl (.cons (t := 1) rfl (.cons (t := 2) rfl (.cons (t := 3) rfl (.cons (t := 4) rfl (.cons (t := 9) rfl (.cons (t := 10) rfl .nil))))))) ?_
    refine swl_nil ?_
    refine then_n ?_
    refine swp_seq ?_
    refine swp_cond (b := _) rfl (fun h10 => ?_) (fun h10 => ?_)
    · skip   -- 10 T
      have h10' : j < 8 := by have := of_decide_eq_true h10; omega
      refine swp_skip ?_
      refine then_n ?_
      refine swp_seq ?_
      refine swp_block ?_
      refine swp_region ?_
      refine s_pu (pu_move rfl) ?_
      refine s_ef (ef_fn (turn_spec _) rfl rfl (by repeat (first | exact Split.nil | (apply Split.cons; (repeat (first | with_reducible exact Take.here | apply Take.there)))))) ?_
      rintro v12 L1 ⟨rfl, rfl⟩
      refine swl_app ?_
      refine s_pu (pu_assign rfl) ?_
      refine swl_sub _ (.cons (t := 0) rfl (.cons (t := 1) rfl (.cons (t := 2) rfl (.cons (t := 3) rfl (.cons (t := 4) rfl (.cons (t := 9) rfl .nil)))))) ?_
      refine swl_nil ?_
      refine block_n ?_
      refine then_n ?_
      refine swp_region ?_
      refine s_pu (pu_add_as ((j + 1 : Nat) : Int) rfl rfl (by omega) (by omega) (by omega)) ?_
      refine s_pu (pu_move rfl) ?_
      refine swl_sub _ (.cons (t := 0) rfl (.cons (t := 1) rfl (.cons (t := 2) rfl (.cons (t := 3) rfl (.cons (t := 4) rfl (.cons (t := 9) rfl .nil)))))) ?_
      refine swl_nil ?_
      refine then_n ⟨j + 1, ⟨⟨rfl, rfl, rfl, by rw [turns_succ]; rfl, rfl, rfl, trivial⟩, rfl, h10'⟩, by omega⟩
    · skip   -- 10 F
      have h10' := of_decide_eq_false h10
      obtain rfl : j = 8 := by omega
      refine swp_exit ?_
      refine then_x ?_
      refine then_x ?_
      refine block_hit rfl ?_
      refine then_n ?_
      refine swp_region ?_
      refine s_pu (pu_move rfl) ?_
      refine s_pu (pu_move rfl) ?_
      refine s_pu (pu_indexAddr_arr k rfl rfl (by omega) (by omega) (by rw [Int.toNat_natCast]; omega)) ?_
      refine s_ef0 (ef_storeP rfl rfl rfl (by rw [tabK_len]; omega)) ?_
      refine swl_sub _ (.cons (t := 0) rfl (.cons (t := 1) rfl (.cons (t := 4) rfl .nil))) ?_
      refine swl_nil ?_
      refine block_n ?_
      refine then_n ?_
      refine swp_region ?_
      refine s_pu (pu_add_as ((k + 1 : Nat) : Int) rfl rfl (by omega) (by omega) (by omega)) ?_
      refine s_pu (pu_move rfl) ?_
      refine swl_sub _ (.cons (t := 0) rfl (.cons (t := 1) rfl (.cons (t := 4) rfl .nil))) ?_
      refine swl_nil ?_
      exact then_n ⟨k + 1, ⟨⟨rfl, rfl, rfl, trivial⟩, by rw [← tabK_set h5']; rfl, h5'⟩, by omega⟩
  · skip   -- 5 F
    have h5' := of_decide_eq_false h5
    obtain rfl : k = 256 := by omega
    rw [tabK_all]
    refine swp_exit ?_
    refine then_x ?_
    refine then_x ?_
    refine block_hit rfl ?_
    refine then_n ?_
    refine swp_seq ?_
    refine swp_region ?_
    refine s_rd (rd_of_ld rfl (ld_whole tabC_len)) ?_
    refine s_ef0 (ef_storeAs rfl rfl (cs' := tabC) (by unfold over; rw [List.take_zero, List.nil_append, List.drop_eq_nil_of_le (by rw [tabK_len, tabC_len]; decide), List.append_nil]) (by rw [tabK_len, tabC_len]; decide) tabC_len tabC_one) ?_
    refine swl_sub _ (.cons (t := 0) rfl .nil) ?_
    refine swl_nil ?_
    refine then_n ?_
    refine swp_ret ?_
    exact done_ret [] (.cell rfl (ld_whole tabC_len) .nil) ⟨rfl, rfl⟩ (by repeat (first | exact Split.nil | (apply Split.cons; (repeat (first | with_reducible exact Take.here | apply Take.there)))))
set_option maxHeartbeats 1000000 in
theorem take_spec (c : W32) (t : Nat) (s : ByteArray) (hs : s.size ≤ 1048576) : Spec Try.prog 78 [.pointer (some ⟨t, 0, none⟩), .int .u32 (c.toNat : Nat), .string s] [blk t 145 tabC] (fun v L => v = .int .u32 ((crcW c s.data.toList).toNat : Nat) ∧ L = [blk t 145 tabC]) := by
  have hl : s.data.toList.length = s.size := by rw [Array.length_toList]; rfl
  refine Spec.of 29 Try.func78 rfl rfl rfl ?_
  refine swp_seq ?_
  refine swp_region ?_
  refine s_pu (pu_assign rfl) ?_
  refine swl_sub _ (.cons (t := 0) rfl (.cons (t := 1) rfl (.cons (t := 2) rfl .nil))) ?_
  refine swl_nil ?_
  refine then_n ?_
  refine swp_seq ?_
  refine swp_seq ?_
  refine swp_region ?_
  refine s_pu (pu_move rfl) ?_
  refine s_ef (ef_bytes (e := 5) rfl (by simp only [maxLen]; omega)) ?_
  rintro g cap cs fr hc1 hc2 hcs
  skip
  refine s_pu (pu_len rfl) ?_
  refine s_pu (pu_move rfl) ?_
  refine swl_sub _ (.cons (t := 0) rfl (.cons (t := 1) rfl (.cons (t := 10) rfl (.cons (t := 11) rfl (.cons (t := 12) rfl .nil))))) ?_
  refine swl_nil ?_
  refine then_n ?_
  refine swp_block ?_
  refine swp_ent ent_ro0 ?_
  refine swp_share1 (b := g) (μ := fun _ => none) (by repeat (first | exact Split.nil | (apply Split.cons; (repeat (first | with_reducible exact Take.here | apply Take.there))))) fun μ _ hg => ?_
  have hrow := row_bytes hc1 hc2 hcs hg
  refine swp_loop (ι := Nat) (fun i env L => Sub env [(0, .pointer (some ⟨t, 0, none⟩)), (1, .int .u32 (((s.data.toList.take i).foldl takeW c).toNat : Nat)), (10, .slice (some ⟨g, 0, none⟩) s.size cap), (11, .int .i64 (s.size : Nat)), (12, .int .i64 (i : Nat))] ∧ L = [ro μ, blk t 145 tabC] ∧ i ≤ s.size) (fun i => s.size - i) 0 ⟨⟨rfl, rfl, rfl, rfl, rfl, trivial⟩, rfl, Nat.zero_le _⟩ ?_
  rintro i env L ⟨hsub, rfl, hi⟩
  refine swp_sub _ hsub ?_
  clear hsub env
  generalize hd : (s.data.toList.take i).foldl takeW c = d
  refine swp_seq ?_
  refine swp_region ?_
  refine s_pu (pu_lss rfl rfl) ?_
  refine swl_sub _ (.cons (t := 0) rfl (.cons (t := 1) rfl (.cons (t := 10) rfl (.cons (t := 11) rfl (.cons (t := 12) rfl (.cons (t := 13) rfl .nil)))))) ?_
  refine swl_nil ?_
  refine then_n ?_
  refine swp_seq ?_
  refine swp_cond (b := _) rfl (fun h13 => ?_) (fun h13 => ?_)
  · skip   -- 13 T
    have h13' : i < s.size := by have := of_decide_eq_true h13; omega
    obtain ⟨b, hb⟩ : ∃ b, s.data.toList[i]? = some b := ⟨_, List.getElem?_eq_getElem (by omega)⟩
    obtain ⟨g', off, cap', hv, _, _, hr⟩ := hrow.pos (by omega)
    have hre := hr.elem (f := bc1) (n := 1) (fun _ => rfl) hb
    injection hv with e1 e2 e3
    injection e1 with e1
    injection e1 with e4 e5
    subst e4 e5
    have hidx : (d.setWidth 8 ^^^ b.toBitVec).toNat < 256 := (d.setWidth 8 ^^^ b.toBitVec).isLt
    refine swp_skip ?_
    refine then_n ?_
    refine swp_seq ?_
    refine swp_block ?_
    refine swp_seq ?_
    refine swp_region ?_
    refine s_pu (pu_indexAddr (0 + i * 1) rfl rfl (by omega) (by omega) (by rw [Int.toNat_natCast])) ?_
    refine s_rd (rd_ro rfl hre.cell) ?_
    refine s_pu (pu_assign rfl) ?_
    refine swl_sub _ (.cons (t := 0) rfl (.cons (t := 1) rfl (.cons (t := 8) rfl (.cons (t := 10) rfl (.cons (t := 11) rfl (.cons (t := 12) rfl .nil)))))) ?_
    refine swl_nil ?_
    refine then_n ?_
    refine swp_region ?_
    refine s_pu (pu_move rfl) ?_
    refine s_pu (pu_move rfl) ?_
    refine s_pu (pu_low8 d (by decide) rfl rfl) ?_
    refine s_pu (pu_move rfl) ?_
    refine s_pu (pu_xor_w8 (b := b.toBitVec) rfl rfl) ?_
    first | refine s_pu (pu_nilCheck rfl) ?_ | refine s_pu (pu_nilCheck_fn rfl) ?_ | refine s_pu (pu_nilCheck_if rfl) ?_
    refine s_pu (pu_indexAddr_arr (d.setWidth 8 ^^^ b.toBitVec).toNat rfl rfl (by omega) (by omega) (by rw [Int.toNat_natCast]; omega)) ?_
    refine s_rd (rd_load rfl (tabC_get hidx)) ?_
    refine s_pu (pu_move rfl) ?_
    refine s_pu (pu_shr_w32 8 rfl rfl (by decide)) ?_
    refine s_pu (pu_xor_w32 rfl rfl) ?_
    refine s_pu (pu_assign rfl) ?_
    refine swl_sub _ (.cons (t := 0) rfl (.cons (t := 1) rfl (.cons (t := 10) rfl (.cons (t := 11) rfl (.cons (t := 12) rfl .nil))))) ?_
    refine swl_nil ?_
    refine block_n ?_
    refine then_n ?_
    refine swp_region ?_
    refine s_pu (pu_add_as ((i + 1 : Nat) : Int) rfl rfl (by omega) (by omega) (by omega)) ?_
    refine s_pu (pu_move rfl) ?_
    refine swl_sub _ (.cons (t := 0) rfl (.cons (t := 1) rfl (.cons (t := 10) rfl (.cons (t := 11) rfl (.cons (t := 12) rfl .nil))))) ?_
    refine swl_nil ?_
    refine then_n ⟨i + 1, ⟨⟨rfl, ?_, rfl, rfl, rfl, trivial⟩, rfl, h13'⟩, by omega⟩
    rw [List.take_add_one, hb, List.foldl_append, hd]; rfl
  · skip   -- 13 F
    have h13' := of_decide_eq_false h13
    obtain rfl : i = s.size := by omega
    rw [← hl, List.take_length, crc_take] at hd
    refine swp_exit ?_
    refine then_x ?_
    refine then_x ?_
    refine block_hit rfl ?_
    refine then_n ?_
    refine swp_seq ?_
    refine swp_region ?_
    refine s_pu (pu_move rfl) ?_
    refine s_pu (pu_assign rfl) ?_
    refine swl_sub _ (.cons (t := 6) rfl .nil) ?_
    refine swl_nil ?_
    refine then_n ?_
    refine swp_ret ?_
    exact done_ret [blk t 145 tabC] (.tmp rfl .nil) ⟨by rw [hd]; rfl, rfl⟩ (by repeat (first | exact Split.nil | (apply Split.cons; (repeat (first | with_reducible exact Take.here | apply Take.there)))))
set_option maxHeartbeats 1000000 in
theorem sum_spec (g cap : Nat) (s : ByteArray) (hs : s.size ≤ 1048576) : Spec Try.prog 53 [.slice (some ⟨g, 0, none⟩) 1 cap] [blk g 9 [.string s]] (fun v L => v = .int .u32 ((sumW s.data.toList).toNat : Nat) ∧ L = []) := by
  refine Spec.of 20 Try.func53 rfl rfl rfl ?_
  refine swp_seq ?_
  refine swp_region ?_
  refine s_pu (pu_assign rfl) ?_
  refine swl_sub _ (.cons (t := 0) rfl .nil) ?_
  refine swl_nil ?_
  refine then_n ?_
  refine swp_seq ?_
  refine swp_region ?_
  refine s_ef (ef_fn rows_spec rfl rfl (by repeat (first | exact Split.nil | (apply Split.cons; (repeat (first | with_reducible exact Take.here | apply Take.there)))))) ?_
  rintro v7 L1 ⟨rfl, rfl⟩
  refine swl_app ?_
  refine s_ef (ef_alloc) ?_
  intro b3
  refine s_ef0 (ef_storeAs rfl rfl (cs' := tabC) (by unfold over; rw [List.take_zero, List.nil_append, List.drop_eq_nil_of_le (by rw [List.length_replicate, tabC_len]; decide), List.append_nil]) (by rw [List.length_replicate, tabC_len]; decide) tabC_len tabC_one) ?_
  refine swl_sub _ (.cons (t := 0) rfl (.cons (t := 3) rfl .nil)) ?_
  refine swl_nil ?_
  refine then_n ?_
  refine swp_seq ?_
  refine swp_region ?_
  refine s_pu (pu_assign rfl) ?_
  refine swl_sub _ (.cons (t := 0) rfl (.cons (t := 3) rfl (.cons (t := 4) rfl .nil))) ?_
  refine swl_nil ?_
  refine then_n ?_
  refine swp_seq ?_
  refine swp_seq ?_
  refine swp_region ?_
  refine s_pu (pu_move rfl) ?_
  refine s_pu (pu_len rfl) ?_
  refine s_pu (pu_move rfl) ?_
  refine swl_sub _ (.cons (t := 3) rfl (.cons (t := 4) rfl (.cons (t := 8) rfl (.cons (t := 9) rfl (.cons (t := 10) rfl .nil))))) ?_
  refine swl_nil ?_
  refine then_n ?_
  refine swp_block ?_
  refine swp_loop (ι := Nat) (fun i env L => Sub env [(3, .pointer (some ⟨b3, 0, none⟩)), (4, .int .u32 ((if i = 0 then (~~~ 0#32) else crcW (~~~ 0#32) s.data.toList).toNat : Nat)), (8, .slice (some ⟨g, 0, none⟩) 1 cap), (9, .int .i64 1), (10, .int .i64 (i : Nat))] ∧ L = [blk b3 145 tabC, blk g 9 [.string s]] ∧ i ≤ 1) (fun i => 1 - i) 0 ⟨⟨rfl, rfl, rfl, rfl, rfl, trivial⟩, rfl, Nat.zero_le _⟩ ?_
  rintro i env L ⟨hsub, rfl, hi⟩
  refine swp_sub _ hsub ?_
  clear hsub env
  refine swp_seq ?_
  refine swp_region ?_
  refine s_pu (pu_lss rfl rfl) ?_
  refine swl_sub _ (.cons (t := 3) rfl (.cons (t := 4) rfl (.cons (t := 8) rfl (.cons (t := 9) rfl (.cons (t := 10) rfl (.cons (t := 11) rfl .nil)))))) ?_
  refine swl_nil ?_
  refine then_n ?_
  refine swp_seq ?_
  refine swp_cond (b := _) rfl (fun h11 => ?_) (fun h11 => ?_)
  · skip   -- 11 T
    have h11' : i < 1 := by have := of_decide_eq_true h11; omega
    obtain rfl : i = 0 := by omega
    refine swp_skip ?_
    refine then_n ?_
    refine swp_seq ?_
    refine swp_block ?_
    refine swp_seq ?_
    refine swp_region ?_
    refine s_pu (pu_indexAddr 0 rfl rfl (by omega) (by omega) (by decide)) ?_
    refine s_rd (rd_load rfl rfl) ?_
    refine s_pu (pu_assign rfl) ?_
    refine swl_sub _ (.cons (t := 3) rfl (.cons (t := 4) rfl (.cons (t := 6) rfl (.cons (t := 8) rfl (.cons (t := 9) rfl (.cons (t := 10) rfl .nil)))))) ?_
    refine swl_nil ?_
    refine then_n ?_
    refine swp_region ?_
    refine s_pu (pu_move rfl) ?_
    refine s_pu (pu_move rfl) ?_
    refine s_ef (ef_fn (take_spec (~~~ 0#32) b3 s hs) rfl rfl (by repeat (first | exact Split.nil | (apply Split.cons; (repeat (first | with_reducible exact Take.here | apply Take.there)))))) ?_
    rintro v16 L1 ⟨rfl, rfl⟩
    refine swl_app ?_
    refine s_pu (pu_assign rfl) ?_
    refine swl_sub _ (.cons (t := 3) rfl (.cons (t := 4) rfl (.cons (t := 8) rfl (.cons (t := 9) rfl (.cons (t := 10) rfl .nil))))) ?_
    refine swl_nil ?_
    refine block_n ?_
    refine then_n ?_
    refine swp_region ?_
    refine s_pu (pu_add_as ((1 : Nat) : Int) rfl rfl (by omega) (by omega) (by omega)) ?_
    refine s_pu (pu_move rfl) ?_
    refine swl_sub _ (.cons (t := 3) rfl (.cons (t := 4) rfl (.cons (t := 8) rfl (.cons (t := 9) rfl (.cons (t := 10) rfl .nil))))) ?_
    refine swl_nil ?_
    exact then_n ⟨1, ⟨⟨rfl, rfl, rfl, rfl, rfl, trivial⟩, rfl, Nat.le_refl _⟩, by decide⟩
  · skip   -- 11 F
    have h11' := of_decide_eq_false h11
    obtain rfl : i = 1 := by omega
    refine swp_exit ?_
    refine then_x ?_
    refine then_x ?_
    refine block_hit rfl ?_
    refine then_n ?_
    refine swp_seq ?_
    refine swp_region ?_
    refine s_pu (pu_move rfl) ?_
    refine s_pu (pu_not_w32 rfl) ?_
    refine s_pu (pu_assign rfl) ?_
    refine swl_sub _ (.cons (t := 2) rfl .nil) ?_
    refine swl_nil ?_
    refine then_n ?_
    refine swp_ret ?_
    exact done_ret [] (.tmp rfl .nil) ⟨rfl, rfl⟩ (by repeat (first | exact Split.nil | (apply Split.cons; (repeat (first | with_reducible exact Take.here | apply Take.there)))))
set_option maxHeartbeats 1000000 in
theorem rsum_spec (g cap : Nat) (s : ByteArray) (hs : s.size ≤ 1048576) : Spec Try.prog 56 [.slice (some ⟨g, 0, none⟩) 1 cap] [blk g 9 [.string s]] (fun v L => v = .int .u32 ((sumW s.data.toList).toNat : Nat) ∧ L = []) := by
  refine Spec.of 18 Try.func56 rfl rfl rfl ?_
  refine swp_seq ?_
  refine swp_region ?_
  refine s_pu (pu_assign rfl) ?_
  refine swl_sub _ (.cons (t := 0) rfl .nil) ?_
  refine swl_nil ?_
  refine then_n ?_
  refine swp_seq ?_
  refine swp_region ?_
  refine s_pu (pu_assign rfl) ?_
  refine swl_sub _ (.cons (t := 0) rfl (.cons (t := 3) rfl .nil)) ?_
  refine swl_nil ?_
  refine then_n ?_
  refine swp_seq ?_
  refine swp_seq ?_
  refine swp_region ?_
  refine s_pu (pu_assign rfl) ?_
  refine swl_sub _ (.cons (t := 0) rfl (.cons (t := 3) rfl (.cons (t := 4) rfl .nil))) ?_
  refine swl_nil ?_
  refine then_n ?_
  refine swp_block ?_
  refine swp_loop (ι := Nat) (fun i env L => Sub env [(0, .slice (some ⟨g, 0, none⟩) 1 cap), (3, .int .u32 ((if i = 0 then 0#32 else sumW s.data.toList).toNat : Nat)), (4, .int .i64 (i : Nat))] ∧ L = [blk g 9 [.string s]] ∧ i ≤ 1) (fun i => 1 - i) 0 ⟨⟨rfl, rfl, rfl, trivial⟩, rfl, Nat.zero_le _⟩ ?_
  rintro i env L ⟨hsub, rfl, hi⟩
  refine swp_sub _ hsub ?_
  clear hsub env
  refine swp_seq ?_
  refine swp_seq ?_
  refine swp_region ?_
  refine s_pu (pu_move rfl) ?_
  refine s_pu (pu_move rfl) ?_
  refine s_pu (pu_len rfl) ?_
  refine s_pu (pu_lss rfl rfl) ?_
  refine swl_sub _ (.cons (t := 0) rfl (.cons (t := 3) rfl (.cons (t := 4) rfl (.cons (t := 8) rfl .nil)))) ?_
  refine swl_nil ?_
  refine then_n ?_
  refine swp_cond (b := _) rfl (fun h8 => ?_) (fun h8 => ?_)
  · skip   -- 8 T
    have h8' : i < 1 := by have := of_decide_eq_true h8; omega
    obtain rfl : i = 0 := by omega
    refine swp_skip ?_
    refine then_n ?_
    refine swp_seq ?_
    refine swp_block ?_
    refine swp_region ?_
    refine s_pu (pu_move rfl) ?_
    refine s_pu (pu_move rfl) ?_
    refine s_pu (pu_move rfl) ?_
    refine s_pu (pu_indexAddr 0 rfl rfl (by omega) (by omega) (by decide)) ?_
    refine s_rd (rd_load rfl rfl) ?_
    refine s_ef (ef_fn (rmore_spec 0#32 s hs) rfl rfl (by repeat (first | exact Split.nil | (apply Split.cons; (repeat (first | with_reducible exact Take.here | apply Take.there)))))) ?_
    rintro v16 L1 ⟨rfl, rfl⟩
    refine swl_app ?_
    refine s_pu (pu_assign rfl) ?_
    refine swl_sub _ (.cons (t := 0) rfl (.cons (t := 3) rfl (.cons (t := 4) rfl .nil))) ?_
    refine swl_nil ?_
    refine block_n ?_
    refine then_n ?_
    refine swp_region ?_
    refine s_pu (pu_move rfl) ?_
    refine s_pu (pu_add_as ((1 : Nat) : Int) rfl rfl (by omega) (by omega) (by omega)) ?_
    refine s_pu (pu_assign rfl) ?_
    refine swl_sub _ (.cons (t := 0) rfl (.cons (t := 3) rfl (.cons (t := 4) rfl .nil))) ?_
    refine swl_nil ?_
    exact then_n ⟨1, ⟨⟨rfl, rfl, rfl, trivial⟩, rfl, Nat.le_refl _⟩, by decide⟩
  · skip   -- 8 F
    have h8' := of_decide_eq_false h8
    obtain rfl : i = 1 := by omega
    refine swp_exit ?_
    refine then_x ?_
    refine then_x ?_
    refine block_hit rfl ?_
    refine then_n ?_
    refine swp_seq ?_
    refine swp_region ?_
    refine s_pu (pu_move rfl) ?_
    refine s_pu (pu_assign rfl) ?_
    refine swl_sub _ (.cons (t := 2) rfl .nil) ?_
    refine swl_nil ?_
    refine then_n ?_
    refine swp_ret ?_
    exact done_ret [] (.tmp rfl .nil) ⟨rfl, rfl⟩ (by repeat (first | exact Split.nil | (apply Split.cons; (repeat (first | with_reducible exact Take.here | apply Take.there)))))
end SX
namespace SX
open Go Go.Proofs
theorem bcs_app (a b : List UInt8) : bcs (a ++ b) = bcs a ++ bcs b := List.flatMap_append
set_option maxHeartbeats 1000000 in
theorem fixed_spec (p : Nat) (v : Value) (x : BitVec 64) (n : Nat) (bs : List UInt8) (hn : n ≤ 8) (hb : bs.length ≤ 1048576) :
    Spec Try.prog 76 [.pointer (some ⟨p, 0, none⟩), .int .u64 (x.toNat : Nat), .int .i64 (n : Nat)] [blk p 143 [v], own 5 1 v bs.length (bcs bs)] (fun r L => r = .tuple #[] ∧ ∃ v', L = [blk p 143 [v'], own 5 1 v' (bs ++ bigW x n).length (bcs (bs ++ bigW x n))]) := by
  refine Spec.of 28 Try.func76 rfl rfl rfl ?_
  refine swp_seq ?_
  refine swp_seq ?_
  refine swp_region ?_
  refine s_pu (pu_move rfl) ?_
  refine s_pu (pu_ptr_eq_nil rfl rfl) ?_
  refine swl_sub _ (.cons (t := 0) rfl (.cons (t := 1) rfl (.cons (t := 2) rfl (.cons (t := 7) rfl .nil)))) ?_
  refine swl_nil ?_
  refine then_n ?_
  refine swp_cond (b := _) rfl (fun h7 => by cases h7) (fun h7 => ?_)
  refine swp_skip ?_
  refine then_n ?_
  refine swp_seq ?_
  refine swp_region ?_
  refine s_pu (pu_move rfl) ?_
  refine s_pu (pu_sub_as ((n : Int) - 1) rfl rfl (by omega) (by omega) (by omega)) ?_
  refine s_pu (pu_assign rfl) ?_
  refine swl_sub _ (.cons (t := 0) rfl (.cons (t := 1) rfl (.cons (t := 2) rfl .nil))) ?_
  refine swl_nil ?_
  refine then_n ?_
  refine swp_block ?_
  refine swp_loop (ι := Nat × Value) (fun k env L => Sub env [(0, .pointer (some ⟨p, 0, none⟩)), (1, .int .u64 (x.toNat : Nat)), (2, .int .i64 ((k.1 : Int) - 1))] ∧ Ent L [blk p 143 [k.2], own 5 1 k.2 (bs ++ (bigW x n).take (n - k.1)).length (bcs (bs ++ (bigW x n).take (n - k.1)))] ∧ k.1 ≤ n) (fun k => k.1) (n, v) ⟨⟨rfl, rfl, rfl, trivial⟩, by show Ent _ [blk p 143 [v], own 5 1 v (bs ++ (bigW x n).take (n - n)).length (bcs (bs ++ (bigW x n).take (n - n)))]; rw [Nat.sub_self, List.take_zero, List.append_nil]; exact Ent.refl _, Nat.le_refl _⟩ ?_
  rintro ⟨r, v1⟩ env L ⟨hsub, hE, hr⟩
  simp only [] at hsub hE hr
  refine swp_sub _ hsub ?_
  refine swp_ent hE ?_
  clear hsub hE env L
  dsimp only
  have hlen : (bs ++ (bigW x n).take (n - r)).length = bs.length + (n - r) := by rw [List.length_append, List.length_take, bigW_len]; omega
  refine swp_seq ?_
  refine swp_seq ?_
  refine swp_region ?_
  refine s_pu (pu_move rfl) ?_
  refine s_pu (pu_geq rfl rfl) ?_
  refine swl_sub _ (.cons (t := 0) rfl (.cons (t := 1) rfl (.cons (t := 2) rfl (.cons (t := 11) rfl .nil)))) ?_
  refine swl_nil ?_
  refine then_n ?_
  refine swp_cond (b := _) rfl (fun h11 => ?_) (fun h11 => ?_)
  · skip   -- 11 T
    have h11' : 1 ≤ r := by have := of_decide_eq_true h11; omega
    refine swp_skip ?_
    refine then_n ?_
    refine swp_seq ?_
    refine swp_block ?_
    refine swp_draw [4] _ [] (by simp only [List.append_nil]; exact Ent.refl _) (by kernel_rfl) ?_
    refine d_pu 0 rfl (pu_move rfl) (by kernel_rfl) (by kernel_rfl) (by kernel_rfl) ?_
    refine d_pu 1 rfl (pu_move rfl) (by kernel_rfl) (by kernel_rfl) (by kernel_rfl) ?_
    first | refine d_pu 2 rfl (pu_nilCheck rfl) (by kernel_rfl) (by kernel_rfl) (by kernel_rfl) ?_ | refine d_pu 2 rfl (pu_nilCheck_fn rfl) (by kernel_rfl) (by kernel_rfl) (by kernel_rfl) ?_ | refine d_pu 2 rfl (pu_nilCheck_if rfl) (by kernel_rfl) (by kernel_rfl) (by kernel_rfl) ?_
    first | refine d_pu 3 rfl (pu_fieldAddr0 rfl) (by kernel_rfl) (by kernel_rfl) (by kernel_rfl) ?_ | refine d_pu 3 rfl (pu_fieldAddr rfl) (by kernel_rfl) (by kernel_rfl) (by kernel_rfl) ?_
    refine d_rd 4 rfl (rd_load rfl rfl) rfl (by kernel_rfl) (by kernel_rfl) (by kernel_rfl) ?_
    refine d_pu 5 rfl (pu_move rfl) (by kernel_rfl) (by kernel_rfl) (by kernel_rfl) ?_
    refine d_pu 6 rfl (pu_move rfl) (by kernel_rfl) (by kernel_rfl) (by kernel_rfl) ?_
    refine d_pu 7 rfl (pu_mul_as ((8 * (r - 1) : Nat) : Int) rfl rfl (by omega) (by omega) (by omega)) (by kernel_rfl) (by kernel_rfl) (by kernel_rfl) ?_
    refine d_pu 8 rfl (pu_shr_w (8 * (r - 1)) rfl rfl (by omega)) (by kernel_rfl) (by kernel_rfl) (by kernel_rfl) ?_
    refine d_pu 9 rfl (pu_low8 (x >>> (8 * (r - 1))) (by decide) rfl rfl) (by kernel_rfl) (by kernel_rfl) (by kernel_rfl) ?_
    refine d_eft 10 rfl (by kernel_rfl) (ef_bldS (qs := [(0, _)]) rfl rfl rfl) ?_
    intro b24
    refine ⟨_, Split.ent (by repeat (first | exact Split.nil | (apply Split.cons; (repeat (first | with_reducible exact Take.here | apply Take.there))))), ?_⟩
    first | refine d_fint 11 rfl (by kernel_rfl) (by kernel_rfl) (ef_append_lit (m := 1) rfl rfl (by repeat (first | exact Split.nil | (apply Split.cons; (repeat (first | with_reducible exact Take.here | apply Take.there))))) (by rw [hlen]; simp only [maxLen]; omega) (by rw [hlen]; omega)) ?_ | refine d_finf 11 rfl (by kernel_rfl) (by kernel_rfl) (ef_append_lit (m := 1) rfl rfl (by repeat (first | exact Split.nil | (apply Split.cons; (repeat (first | with_reducible exact Take.here | apply Take.there))))) (by rw [hlen]; simp only [maxLen]; omega) (by rw [hlen]; omega)) ?_
    rintro v25 hv25
    obtain ⟨g25, c25, rfl⟩ := hv25 (by decide)
    first | refine d_pu 12 rfl (pu_nilCheck rfl) (by kernel_rfl) (by kernel_rfl) (by kernel_rfl) ?_ | refine d_pu 12 rfl (pu_nilCheck_fn rfl) (by kernel_rfl) (by kernel_rfl) (by kernel_rfl) ?_ | refine d_pu 12 rfl (pu_nilCheck_if rfl) (by kernel_rfl) (by kernel_rfl) (by kernel_rfl) ?_
    first | refine d_pu 13 rfl (pu_fieldAddr0 rfl) (by kernel_rfl) (by kernel_rfl) (by kernel_rfl) ?_ | refine d_pu 13 rfl (pu_fieldAddr rfl) (by kernel_rfl) (by kernel_rfl) (by kernel_rfl) ?_
    first | refine d_fin0t 14 rfl (by kernel_rfl) (by kernel_rfl) (ef_store rfl rfl rfl) ?_ | refine d_fin0f 14 rfl (by kernel_rfl) (by kernel_rfl) (ef_store rfl rfl rfl) ?_
    refine d_sub _ (.cons (t := 0) rfl (.cons (t := 1) rfl (.cons (t := 2) rfl .nil))) ?_
    first | refine d_nilt (by kernel_rfl) ?_ | refine d_nilf (by kernel_rfl) ?_
    refine block_n ?_
    refine then_n ?_
    refine swp_region ?_
    refine s_pu (pu_move rfl) ?_
    refine s_pu (pu_sub_as (((r - 1 : Nat) : Int) - 1) rfl rfl (by omega) (by omega) (by omega)) ?_
    refine s_pu (pu_assign rfl) ?_
    refine swl_sub _ (.cons (t := 0) rfl (.cons (t := 1) rfl (.cons (t := 2) rfl .nil))) ?_
    refine swl_nil ?_
    have hge := bigW_get x (n := n) (i := n - r) (by omega)
    have e1 : n - (r - 1) = n - r + 1 := by omega
    have e2 : n - 1 - (n - r) = r - 1 := by omega
    rw [e2] at hge
    have e3 : bs ++ (bigW x n).take (n - (r - 1)) = (bs ++ (bigW x n).take (n - r)) ++ [UInt8.ofBitVec ((x >>> (8 * (r - 1))).setWidth 8)] := by
      rw [e1, List.take_add_one, hge, List.append_assoc]; rfl
    refine then_n ⟨(r - 1, (.slice (some ⟨g25, 0, none⟩) ((bs ++ (bigW x n).take (n - r)).length + 1) c25)), ⟨⟨rfl, rfl, rfl, trivial⟩, ?_, by show r - 1 ≤ n; omega⟩, by show r - 1 < r; omega⟩
    show Ent _ [blk p 143 [(.slice (some ⟨g25, 0, none⟩) ((bs ++ (bigW x n).take (n - r)).length + 1) c25)], own 5 1 (.slice (some ⟨g25, 0, none⟩) ((bs ++ (bigW x n).take (n - r)).length + 1) c25) (bs ++ (bigW x n).take (n - (r - 1))).length (bcs (bs ++ (bigW x n).take (n - (r - 1))))]
    have e4 : ((bs ++ (bigW x n).take (n - r)) ++ [UInt8.ofBitVec ((x >>> (8 * (r - 1))).setWidth 8)]).length = (bs ++ (bigW x n).take (n - r)).length + 1 := by generalize bs ++ (bigW x n).take (n - r) = q; rw [List.length_append]; rfl
    have e5 : bcs ((bs ++ (bigW x n).take (n - r)) ++ [UInt8.ofBitVec ((x >>> (8 * (r - 1))).setWidth 8)]) = bcs (bs ++ (bigW x n).take (n - r)) ++ [.int .u8 (((x >>> (8 * (r - 1))).setWidth 8).toNat : Nat)] := by generalize bs ++ (bigW x n).take (n - r) = q; rw [bcs_app]; rfl
    rw [e3, e4, e5]
    exact Split.ent' (by repeat (first | exact Split.nil | (apply Split.cons; (repeat (first | with_reducible exact Take.here | apply Take.there)))))
  · skip   -- 11 F
    have h11' := of_decide_eq_false h11
    obtain rfl : r = 0 := by omega
    rw [Nat.sub_zero, List.take_of_length_le (by rw [bigW_len]; exact Nat.le_refl _)]
    refine swp_exit ?_
    refine then_x ?_
    refine then_x ?_
    refine block_hit rfl ?_
    exact done_ret [blk p 143 [v1], own 5 1 v1 (bs ++ bigW x n).length (bcs (bs ++ bigW x n))] .nil ⟨rfl, v1, rfl⟩ (by repeat (first | exact Split.nil | (apply Split.cons; (repeat (first | with_reducible exact Take.here | apply Take.there)))))
theorem wide64 (b : W32) : ((b.toNat : Nat) : Int) = ((b.setWidth 64).toNat : Int) := by
  rw [BitVec.toNat_setWidth, Nat.mod_eq_of_lt (by have := b.isLt; omega)]
theorem u32_spec (p : Nat) (v : Value) (b : W32) (bs : List UInt8) (hb : bs.length ≤ 1048576) :
    Spec Try.prog 52 [.pointer (some ⟨p, 0, none⟩), .int .u32 (b.toNat : Nat)] [blk p 143 [v], own 5 1 v bs.length (bcs bs)] (fun r L => r = .tuple #[] ∧ ∃ v', L = [blk p 143 [v'], own 5 1 v' (bs ++ four b).length (bcs (bs ++ four b))]) := by
  refine Spec.of 8 Try.func52 rfl rfl rfl ?_
  refine swp_region ?_
  refine s_pu (pu_move rfl) ?_
  refine s_pu (pu_move rfl) ?_
  refine s_pu (pu_conv_as (k' := .u64) (n := ((b.setWidth 64).toNat : Int)) (by rw [← wide64]; rfl) (wrap_word _)) ?_
  refine s_ef (ef_fn (fixed_spec p v (b.setWidth 64) 4 bs (by decide) hb) rfl rfl (by repeat (first | exact Split.nil | (apply Split.cons; (repeat (first | with_reducible exact Take.here | apply Take.there)))))) ?_
  rintro v7 L1 ⟨rfl, v', rfl⟩
  refine swl_app ?_
  refine swl_sub _ .nil ?_
  refine swl_nil ?_
  exact done_ret [blk p 143 [v'], own 5 1 v' (bs ++ four b).length (bcs (bs ++ four b))] .nil ⟨rfl, v', rfl⟩ (by repeat (first | exact Split.nil | (apply Split.cons; (repeat (first | with_reducible exact Take.here | apply Take.there)))))
theorem newW_spec : Spec Try.prog 51 [] [] (fun r L => ∃ p, r = .pointer (some ⟨p, 0, none⟩) ∧ L = [blk p 143 [.slice none 0 0]]) := by
  refine Spec.of 3 Try.func51 rfl rfl rfl ?_
  refine swp_seq ?_
  refine swp_region ?_
  refine s_pu (pu_assign rfl) ?_
  refine swl_sub _ .nil ?_
  refine swl_nil ?_
  refine then_n ?_
  refine swp_seq ?_
  refine swp_region ?_
  refine s_pu (pu_bld (qs := []) rfl) ?_
  refine s_ef (ef_box rfl rfl) ?_
  intro b2
  refine s_pu (pu_assign rfl) ?_
  refine swl_sub _ (.cons (t := 0) rfl .nil) ?_
  refine swl_nil ?_
  refine then_n ?_
  refine swp_ret ?_
  exact done_ret [blk b2 143 [.slice none 0 0]] (.tmp rfl .nil) ⟨b2, rfl, rfl⟩ (by repeat (first | exact Split.nil | (apply Split.cons; (repeat (first | with_reducible exact Take.here | apply Take.there)))))
theorem bytes_spec (p : Nat) (v : Value) (bs : List UInt8) (h0 : bs ≠ []) : Spec Try.prog 54 [.pointer (some ⟨p, 0, none⟩)] [own 5 1 v bs.length (bcs bs), blk p 143 [v]] (fun r L => r = .string ⟨bs.toArray⟩ ∧ L = []) := by
  refine Spec.own_cases (fun hv l0 x0 => ?_) (fun g cap ex hv o1 o2 o3 o4 => ?_)
  · exact absurd (List.eq_nil_of_length_eq_zero l0) h0
  subst hv
  refine Spec.of 10 Try.func54 rfl rfl rfl ?_
  refine swp_seq ?_
  refine swp_region ?_
  refine s_pu (pu_assign rfl) ?_
  refine swl_sub _ (.cons (t := 0) rfl .nil) ?_
  refine swl_nil ?_
  refine then_n ?_
  refine swp_seq ?_
  refine swp_seq ?_
  refine swp_region ?_
  refine s_pu (pu_move rfl) ?_
  refine s_pu (pu_ptr_eq_nil rfl rfl) ?_
  refine swl_sub _ (.cons (t := 0) rfl (.cons (t := 4) rfl .nil)) ?_
  refine swl_nil ?_
  refine then_n ?_
  refine swp_cond (b := _) rfl (fun h4 => by cases h4) (fun h4 => ?_)
  refine swp_skip ?_
  refine then_n ?_
  refine swp_seq ?_
  refine swp_region ?_
  refine s_pu (pu_move rfl) ?_
  first | refine s_pu (pu_nilCheck rfl) ?_ | refine s_pu (pu_nilCheck_fn rfl) ?_ | refine s_pu (pu_nilCheck_if rfl) ?_
  first | refine s_pu (pu_fieldAddr0 rfl) ?_ | refine s_pu (pu_fieldAddr rfl) ?_
  refine s_rd (rd_load rfl rfl) ?_
  refine s_rd (rd_bytes bs rfl (by exact .here)) ?_
  refine s_pu (pu_assign rfl) ?_
  refine swl_sub _ (.cons (t := 2) rfl .nil) ?_
  refine swl_nil ?_
  refine then_n ?_
  refine swp_ret ?_
  exact done_ret [] (.tmp rfl .nil) ⟨rfl, rfl⟩ (by repeat (first | exact Split.nil | (apply Split.cons; (repeat (first | with_reducible exact Take.here | apply Take.there)))))
set_option maxHeartbeats 1000000 in
theorem number_spec (x : BitVec 64) (n : Nat) (h0 : 0 < n) (hn : n ≤ 8) : Spec Try.prog 55 [.int .u64 (x.toNat : Nat), .int .i64 (n : Nat)] [] (fun r L => r = .string ⟨(bigW x n).toArray⟩ ∧ L = []) := by
  refine Spec.of 27 Try.func55 rfl rfl rfl ?_
  refine swp_seq ?_
  refine swp_region ?_
  refine s_pu (pu_assign rfl) ?_
  refine swl_sub _ (.cons (t := 0) rfl (.cons (t := 1) rfl .nil)) ?_
  refine swl_nil ?_
  refine then_n ?_
  refine swp_seq ?_
  refine swp_region ?_
  refine s_pu (pu_move rfl) ?_
  refine s_ef (ef_make1 n rfl rfl rfl (by omega) (by simp only [maxLen]; omega)) ?_
  rintro g8
  skip
  refine s_pu (pu_assign rfl) ?_
  refine swl_sub _ (.cons (t := 0) rfl (.cons (t := 1) rfl (.cons (t := 5) rfl .nil))) ?_
  refine swl_nil ?_
  refine then_n ?_
  refine swp_seq ?_
  refine swp_seq ?_
  refine swp_region ?_
  refine s_pu (pu_assign rfl) ?_
  refine swl_sub _ (.cons (t := 0) rfl (.cons (t := 1) rfl (.cons (t := 5) rfl (.cons (t := 6) rfl .nil)))) ?_
  refine swl_nil ?_
  refine then_n ?_
  refine swp_block ?_
  refine swp_loop (ι := Nat) (fun i env L => Sub env [(0, .int .u64 (x.toNat : Nat)), (1, .int .i64 (n : Nat)), (5, .slice (some ⟨g8, 0, none⟩) n n), (6, .int .i64 (i : Nat))] ∧ L = [blk g8 5 (bcs ((bigW x n).take i) ++ List.replicate (n - i) (.int .u8 0))] ∧ i ≤ n) (fun i => n - i) 0 ⟨⟨rfl, rfl, rfl, rfl, trivial⟩, rfl, Nat.zero_le _⟩ ?_
  rintro i env L ⟨hsub, rfl, hi⟩
  refine swp_sub _ hsub ?_
  clear hsub env
  have hlen : (bcs ((bigW x n).take i)).length = i := by rw [bcs_len, List.length_take, bigW_len]; omega
  refine swp_seq ?_
  refine swp_seq ?_
  refine swp_region ?_
  refine s_pu (pu_move rfl) ?_
  refine s_pu (pu_move rfl) ?_
  refine s_pu (pu_lss rfl rfl) ?_
  refine swl_sub _ (.cons (t := 0) rfl (.cons (t := 1) rfl (.cons (t := 5) rfl (.cons (t := 6) rfl (.cons (t := 11) rfl .nil))))) ?_
  refine swl_nil ?_
  refine then_n ?_
  refine swp_cond (b := _) rfl (fun h11 => ?_) (fun h11 => ?_)
  · skip   -- 11 T
    have h11' : i < n := by have := of_decide_eq_true h11; omega
    refine swp_skip ?_
    refine then_n ?_
    refine swp_seq ?_
    refine swp_block ?_
    refine swp_region ?_
    refine s_pu (pu_move rfl) ?_
    refine s_pu (pu_move rfl) ?_
    refine s_pu (pu_move rfl) ?_
    refine s_pu (pu_move rfl) ?_
    refine s_pu (pu_sub_as ((n - 1 : Nat) : Int) rfl rfl (by omega) (by omega) (by omega)) ?_
    refine s_pu (pu_move rfl) ?_
    refine s_pu (pu_sub_as ((n - 1 - i : Nat) : Int) rfl rfl (by omega) (by omega) (by omega)) ?_
    refine s_pu (pu_mul_as ((8 * (n - 1 - i) : Nat) : Int) rfl rfl (by omega) (by omega) (by omega)) ?_
    refine s_pu (pu_shr_w (8 * (n - 1 - i)) rfl rfl (by omega)) ?_
    refine s_pu (pu_low8 (x >>> (8 * (n - 1 - i))) (by decide) rfl rfl) ?_
    refine s_pu (pu_indexAddr i rfl rfl (by omega) (by omega) (by rw [Int.toNat_natCast]; omega)) ?_
    refine s_ef0 (ef_storeP rfl rfl rfl (by rw [List.length_append, hlen, List.length_replicate]; omega)) ?_
    refine swl_sub _ (.cons (t := 0) rfl (.cons (t := 1) rfl (.cons (t := 5) rfl (.cons (t := 6) rfl .nil)))) ?_
    refine swl_nil ?_
    refine block_n ?_
    refine then_n ?_
    refine swp_region ?_
    refine s_pu (pu_move rfl) ?_
    refine s_pu (pu_add_as ((i + 1 : Nat) : Int) rfl rfl (by omega) (by omega) (by omega)) ?_
    refine s_pu (pu_assign rfl) ?_
    refine swl_sub _ (.cons (t := 0) rfl (.cons (t := 1) rfl (.cons (t := 5) rfl (.cons (t := 6) rfl .nil)))) ?_
    refine swl_nil ?_
    refine then_n ⟨i + 1, ⟨⟨rfl, rfl, rfl, rfl, trivial⟩, ?_, h11'⟩, by omega⟩
    have e : (bcs ((bigW x n).take i) ++ List.replicate (n - i) (Value.int .u8 0)).set i (Value.int .u8 (((x >>> (8 * (n - 1 - i))).setWidth 8).toNat : Nat)) = bcs ((bigW x n).take (i + 1)) ++ List.replicate (n - (i + 1)) (Value.int .u8 0) := by
      rw [List.take_add_one, bigW_get x h11', bcs_app, List.set_append_right _ _ (by rw [hlen]; exact Nat.le_refl _), hlen, Nat.sub_self]
      have : n - i = (n - (i + 1)) + 1 := by omega
      rw [this, List.replicate_succ, List.set_cons_zero, List.append_assoc]; rfl
    rw [← e]
  · skip   -- 11 F
    have h11' := of_decide_eq_false h11
    obtain rfl : i = n := by omega
    rw [List.take_of_length_le (by rw [bigW_len]; exact Nat.le_refl _)]
    have hbl := bigW_len x i
    refine swp_exit ?_
    refine then_x ?_
    refine then_x ?_
    refine block_hit rfl ?_
    refine then_n ?_
    refine swp_seq ?_
    refine swp_region ?_
    refine s_pu (pu_move rfl) ?_
    refine s_rd (rd_bytes (bigW x i) (by rw [hbl]; rfl) .here) ?_
    refine s_pu (pu_assign rfl) ?_
    refine swl_sub _ (.cons (t := 4) rfl .nil) ?_
    refine swl_nil ?_
    refine then_n ?_
    refine swp_ret ?_
    exact done_ret [] (.tmp rfl .nil) ⟨rfl, rfl⟩ (by repeat (first | exact Split.nil | (apply Split.cons; (repeat (first | with_reducible exact Take.here | apply Take.there)))))
theorem four_ne (b : W32) (l : List UInt8) : l ++ four b ≠ [] := by
  intro e
  have := congrArg List.length e
  rw [List.length_append, four_len] at this
  simp at this
set_option maxHeartbeats 1000000 in
theorem mark_spec (b o t : W32) : Spec Try.prog 26 [.int .u32 (b.toNat : Nat), .int .u32 (o.toNat : Nat), .int .u32 (t.toNat : Nat)] [] (fun r L => r = .int .u32 ((markW b o t).toNat : Nat) ∧ L = []) := by
  refine Spec.of 23 Try.func26 rfl rfl rfl ?_
  refine swp_seq ?_
  refine swp_region ?_
  refine s_pu (pu_assign rfl) ?_
  refine swl_sub _ (.cons (t := 0) rfl (.cons (t := 1) rfl (.cons (t := 2) rfl .nil))) ?_
  refine swl_nil ?_
  refine then_n ?_
  refine swp_seq ?_
  refine swp_region ?_
  refine s_ef (ef_fn newW_spec rfl rfl (by repeat (first | exact Split.nil | (apply Split.cons; (repeat (first | with_reducible exact Take.here | apply Take.there)))))) ?_
  rintro v8 L1 ⟨p, rfl, rfl⟩
  refine swl_app ?_
  refine s_pu (pu_assign rfl) ?_
  refine swl_sub _ (.cons (t := 0) rfl (.cons (t := 1) rfl (.cons (t := 2) rfl (.cons (t := 7) rfl .nil)))) ?_
  refine swl_nil ?_
  refine then_n ?_
  refine swp_seq ?_
  refine swp_ent (show Ent _ (own 5 1 (.slice none 0 0) ([] : List UInt8).length (bcs []) :: _) from own_nil_ent) ?_
  refine swp_region ?_
  refine s_pu (pu_move rfl) ?_
  refine s_pu (pu_move rfl) ?_
  refine s_ef (ef_fn (u32_spec p (.slice none 0 0) b [] (by decide)) rfl rfl (by repeat (first | exact Split.nil | (apply Split.cons; (repeat (first | with_reducible exact Take.here | apply Take.there)))))) ?_
  rintro v11 L1 ⟨rfl, w1, rfl⟩
  refine swl_app ?_
  refine swl_sub _ (.cons (t := 1) rfl (.cons (t := 2) rfl (.cons (t := 7) rfl .nil))) ?_
  refine swl_nil ?_
  refine then_n ?_
  refine swp_seq ?_
  refine swp_region ?_
  refine s_pu (pu_move rfl) ?_
  refine s_pu (pu_move rfl) ?_
  refine s_ef (ef_fn (u32_spec p w1 o ([] ++ four b) (by rw [List.nil_append, four_len]; decide)) rfl rfl (by repeat (first | exact Split.nil | (apply Split.cons; (repeat (first | with_reducible exact Take.here | apply Take.there)))))) ?_
  rintro v14 L1 ⟨rfl, w2, rfl⟩
  refine swl_app ?_
  refine swl_sub _ (.cons (t := 2) rfl (.cons (t := 7) rfl .nil)) ?_
  refine swl_nil ?_
  refine then_n ?_
  refine swp_seq ?_
  refine swp_region ?_
  refine s_pu (pu_move rfl) ?_
  refine s_pu (pu_move rfl) ?_
  refine s_ef (ef_fn (u32_spec p w2 t ([] ++ four b ++ four o) (by rw [List.nil_append, List.length_append, four_len, four_len]; decide)) rfl rfl (by repeat (first | exact Split.nil | (apply Split.cons; (repeat (first | with_reducible exact Take.here | apply Take.there)))))) ?_
  rintro v17 L1 ⟨rfl, w3, rfl⟩
  refine swl_app ?_
  refine swl_sub _ (.cons (t := 7) rfl .nil) ?_
  refine swl_nil ?_
  refine then_n ?_
  refine swp_seq ?_
  refine swp_region ?_
  refine s_pu (pu_move rfl) ?_
  refine s_ef (ef_fn (bytes_spec p w3 ([] ++ four b ++ four o ++ four t) (four_ne _ _)) rfl rfl (by repeat (first | exact Split.nil | (apply Split.cons; (repeat (first | with_reducible exact Take.here | apply Take.there)))))) ?_
  rintro v19 L1 ⟨rfl, rfl⟩
  refine swl_app ?_
  refine s_ef (ef_bldS (qs := [(0, _)]) rfl rfl rfl) ?_
  intro b20
  refine s_ef (ef_fn (sum_spec b20 1 ⟨([] ++ four b ++ four o ++ four t).toArray⟩ (by show ([] ++ four b ++ four o ++ four t).toArray.size ≤ _; rw [List.size_toArray, List.nil_append, List.length_append, List.length_append, four_len, four_len, four_len]; decide)) rfl rfl (by repeat (first | exact Split.nil | (apply Split.cons; (repeat (first | with_reducible exact Take.here | apply Take.there)))))) ?_
  rintro v21 L1 ⟨rfl, rfl⟩
  refine swl_app ?_
  refine s_pu (pu_or_w32 (b := 2147483648#32) rfl rfl) ?_
  refine s_pu (pu_assign rfl) ?_
  refine swl_sub _ (.cons (t := 6) rfl .nil) ?_
  refine swl_nil ?_
  refine then_n ?_
  refine swp_ret ?_
  exact done_ret [] (.tmp rfl .nil) ⟨rfl, rfl⟩ (by repeat (first | exact Split.nil | (apply Split.cons; (repeat (first | with_reducible exact Take.here | apply Take.there)))))
theorem str_cat (a b : List UInt8) : (⟨a.toArray⟩ : ByteArray) ++ ⟨b.toArray⟩ = ⟨(a ++ b).toArray⟩ := by
  apply ByteArray.ext
  rw [ByteArray.data_append]
  simp
theorem str_size (l : List UInt8) : (⟨l.toArray⟩ : ByteArray).size = l.length := by show l.toArray.size = _; rw [List.size_toArray]
set_option maxHeartbeats 1000000 in
theorem rmark_spec (b o t : W32) : Spec Try.prog 27 [.int .u32 (b.toNat : Nat), .int .u32 (o.toNat : Nat), .int .u32 (t.toNat : Nat)] [] (fun r L => r = .int .u32 ((markW b o t).toNat : Nat) ∧ L = []) := by
  refine Spec.of 24 Try.func27 rfl rfl rfl ?_
  refine swp_seq ?_
  refine swp_region ?_
  refine s_pu (pu_assign rfl) ?_
  refine swl_sub _ (.cons (t := 0) rfl (.cons (t := 1) rfl (.cons (t := 2) rfl .nil))) ?_
  refine swl_nil ?_
  refine then_n ?_
  refine swp_seq ?_
  refine swp_region ?_
  refine s_pu (pu_move rfl) ?_
  refine s_pu (pu_conv_as (k' := .u64) (n := ((b.setWidth 64).toNat : Int)) (by rw [← wide64]; rfl) (wrap_word _)) ?_
  refine s_ef (ef_fn (number_spec (b.setWidth 64) 4 (by decide) (by decide)) rfl rfl (by repeat (first | exact Split.nil | (apply Split.cons; (repeat (first | with_reducible exact Take.here | apply Take.there)))))) ?_
  rintro v10 L1 ⟨rfl, rfl⟩
  refine swl_app ?_
  refine s_pu (pu_move rfl) ?_
  refine s_pu (pu_conv_as (k' := .u64) (n := ((o.setWidth 64).toNat : Int)) (by rw [← wide64]; rfl) (wrap_word _)) ?_
  refine s_ef (ef_fn (number_spec (o.setWidth 64) 4 (by decide) (by decide)) rfl rfl (by repeat (first | exact Split.nil | (apply Split.cons; (repeat (first | with_reducible exact Take.here | apply Take.there)))))) ?_
  rintro v13 L1 ⟨rfl, rfl⟩
  refine swl_app ?_
  refine s_pu (pu_str_add rfl rfl (by rw [str_size, str_size, bigW_len, bigW_len]; decide)) ?_
  refine s_pu (pu_move rfl) ?_
  refine s_pu (pu_conv_as (k' := .u64) (n := ((t.setWidth 64).toNat : Int)) (by rw [← wide64]; rfl) (wrap_word _)) ?_
  refine s_ef (ef_fn (number_spec (t.setWidth 64) 4 (by decide) (by decide)) rfl rfl (by repeat (first | exact Split.nil | (apply Split.cons; (repeat (first | with_reducible exact Take.here | apply Take.there)))))) ?_
  rintro v17 L1 ⟨rfl, rfl⟩
  refine swl_app ?_
  refine s_pu (pu_str_add rfl rfl (by rw [str_cat, str_size, str_size, List.length_append, bigW_len, bigW_len, bigW_len]; decide)) ?_
  refine s_pu (pu_assign rfl) ?_
  refine swl_sub _ (.cons (t := 7) rfl .nil) ?_
  refine swl_nil ?_
  refine then_n ?_
  refine swp_seq ?_
  rw [str_cat, str_cat]
  refine swp_region ?_
  refine s_pu (pu_move rfl) ?_
  refine s_ef (ef_bldS (qs := [(0, _)]) rfl rfl rfl) ?_
  intro b20
  refine s_ef (ef_fn (rsum_spec b20 1 ⟨(four b ++ four o ++ four t).toArray⟩ (by rw [str_size, List.length_append, List.length_append, four_len, four_len, four_len]; decide)) rfl rfl (by repeat (first | exact Split.nil | (apply Split.cons; (repeat (first | with_reducible exact Take.here | apply Take.there)))))) ?_
  rintro v21 L1 ⟨rfl, rfl⟩
  refine swl_app ?_
  refine s_pu (pu_and_w32 (b := 2147483647#32) rfl rfl) ?_
  refine s_pu (pu_or_w32 (a := 2147483648#32) rfl rfl) ?_
  refine s_pu (pu_assign rfl) ?_
  refine swl_sub _ (.cons (t := 6) rfl .nil) ?_
  refine swl_nil ?_
  refine then_n ?_
  refine swp_ret ?_
  refine done_ret [] (.tmp rfl .nil) ⟨?_, rfl⟩ (by repeat (first | exact Split.nil | (apply Split.cons; (repeat (first | with_reducible exact Take.here | apply Take.there)))))
  rw [mark_top]; rfl
end SX
namespace Go.Proofs
open Go.Shelf
open Go.RowKit in
def Try.lays106_ren : Go.Shelf.Ren := ⟨fun | 106 => 94 | 213 => 115 | 265 => 127 | n => n, fun | 9 => 9 | 3 => 3 | n => n, fun | n => n⟩
theorem Try.lays106 : Go.Proofs.Lays.n106 Try.prog Try.lays106_ren := {
  mixed := by kernel_rfl
  f106 := Try.func94.trans (congrArg some (by kernel_rfl))
  f213 := Try.func115.trans (congrArg some (by kernel_rfl))
  f265 := Try.func127.trans (congrArg some (by kernel_rfl))
  t3 := Try.underlying3
  a3 := Try.isAgg3
  z3 := Try.sizeOf3
  v3 := Try.zeroValue3
  t9 := Try.underlying9
  a9 := Try.isAgg9
  z9 := Try.sizeOf9
  v9 := Try.zeroValue9 }
open Go.RowKit in
/-- strings.Compare: "Compare returns an integer comparing two strings lexicographically. The result will be 0 if a == b, -1 if a < b, and +1 if a > b.": IT RETURNS 'Lib.compareBytes a b'; the world is as it was. (LAID: no walk: one application.) -/
theorem Try.strings_Compare (a b : ByteArray) (w : World) :
    Calls Try.prog 94 #[.string a, .string b] w fun e w' => e = .returned (.int .i64 (Lib.compareBytes a.data.toList b.data.toList)) ∧ w' = w := Any.strings_Compare Try.lays106 a b w
def Try.lays190_ren : Go.Shelf.Ren := ⟨fun | 190 => 68 | 125 => 87 | 258 => 86 | 128 => 111 | 129 => 112 | 302 => 102 | 303 => 103 | 304 => 104 | 305 => 105 | 306 => 106 | 307 => 107 | 308 => 108 | 309 => 109 | 310 => 110 | 333 => 120 | 329 => 121 | 330 => 122 | 334 => 123 | 335 => 124 | 336 => 125 | 344 => 128 | n => n, fun | 31 => 76 | 9 => 9 | 3 => 3 | 46 => 62 | 0 => 0 | 51 => 24 | 53 => 108 | 4 => 4 | 183 => 184 | 182 => 183 | 131 => 150 | 5 => 5 | 218 => 199 | 222 => 203 | 228 => 207 | 229 => 208 | n => n, fun | n => n⟩
theorem Try.lays190 : Go.Proofs.Lays.n190 Try.prog Try.lays190_ren := {
  mixed := by kernel_rfl
  f125 := Try.func87.trans (congrArg some (by kernel_rfl))
  f128 := Try.func111.trans (congrArg some (by kernel_rfl))
  f129 := Try.func112.trans (congrArg some (by kernel_rfl))
  f190 := Try.func68.trans (congrArg some (by kernel_rfl))
  f258 := Try.func86.trans (congrArg some (by kernel_rfl))
  f302 := Try.func102.trans (congrArg some (by kernel_rfl))
  f303 := Try.func103.trans (congrArg some (by kernel_rfl))
  f304 := Try.func104.trans (congrArg some (by kernel_rfl))
  f305 := Try.func105.trans (congrArg some (by kernel_rfl))
  f306 := Try.func106.trans (congrArg some (by kernel_rfl))
  f307 := Try.func107.trans (congrArg some (by kernel_rfl))
  f308 := Try.func108.trans (congrArg some (by kernel_rfl))
  f309 := Try.func109.trans (congrArg some (by kernel_rfl))
  f310 := Try.func110.trans (congrArg some (by kernel_rfl))
  f329 := Try.func121.trans (congrArg some (by kernel_rfl))
  f330 := Try.func122.trans (congrArg some (by kernel_rfl))
  f333 := Try.func120.trans (congrArg some (by kernel_rfl))
  f334 := Try.func123.trans (congrArg some (by kernel_rfl))
  f335 := Try.func124.trans (congrArg some (by kernel_rfl))
  f336 := Try.func125.trans (congrArg some (by kernel_rfl))
  f344 := Try.func128.trans (congrArg some (by kernel_rfl))
  t0 := Try.underlying0
  a0 := Try.isAgg0
  z0 := Try.sizeOf0
  v0 := Try.zeroValue0
  t3 := Try.underlying3
  a3 := Try.isAgg3
  z3 := Try.sizeOf3
  v3 := Try.zeroValue3
  t4 := Try.underlying4
  a4 := Try.isAgg4
  z4 := Try.sizeOf4
  v4 := Try.zeroValue4
  t5 := Try.underlying5
  a5 := Try.isAgg5
  z5 := Try.sizeOf5
  v5 := Try.zeroValue5
  t9 := Try.underlying9
  a9 := Try.isAgg9
  z9 := Try.sizeOf9
  v9 := Try.zeroValue9
  t31 := Try.underlying76
  a31 := Try.isAgg76
  z31 := Try.sizeOf76
  v31 := Try.zeroValue76
  t46 := Try.underlying62
  a46 := Try.isAgg62
  z46 := Try.sizeOf62
  v46 := Try.zeroValue62
  t51 := Try.underlying24
  a51 := Try.isAgg24
  z51 := Try.sizeOf24
  v51 := Try.zeroValue24
  t53 := Try.underlying108
  a53 := Try.isAgg108
  z53 := Try.sizeOf108
  v53 := Try.zeroValue108
  t131 := Try.underlying150
  a131 := Try.isAgg150
  z131 := Try.sizeOf150
  v131 := Try.zeroValue150
  t182 := Try.underlying183
  a182 := Try.isAgg183
  z182 := Try.sizeOf183
  v182 := Try.zeroValue183
  t183 := Try.underlying184
  a183 := Try.isAgg184
  z183 := Try.sizeOf184
  v183 := Try.zeroValue184
  t218 := Try.underlying199
  a218 := Try.isAgg199
  z218 := Try.sizeOf199
  v218 := Try.zeroValue199
  t222 := Try.underlying203
  a222 := Try.isAgg203
  z222 := Try.sizeOf203
  v222 := Try.zeroValue203
  t228 := Try.underlying207
  a228 := Try.isAgg207
  z228 := Try.sizeOf207
  v228 := Try.zeroValue207
  t229 := Try.underlying208
  a229 := Try.isAgg208
  z229 := Try.sizeOf208
  v229 := Try.zeroValue208 }
open Go.Sort Go.RowKit in
theorem Try.slices_Sort_string (blk off cap : Nat) (ss : List (List UInt8)) (w : World) (hH : Holds encStr w blk off ss.toArray) (hblk : blk < w.heap.size) (hsz : ss.length < 4611686018427387904) :
    Calls Try.prog 68 #[.slice (some ⟨blk, off, none⟩) ss.length cap] w fun e w' =>
      e = .returned (.tuple #[]) ∧ ∃ n os, w' = grow (putRow encStr (Sort.ahead w n) blk off (ss.mergeSort fun x y => decide (x ≤ y)).toArray) os := Any.slices_Sort_string Try.lays190 blk off cap ss w hH hblk hsz
def Try.lays194_ren : Go.Shelf.Ren := ⟨fun | 194 => 69 | n => n, fun | 31 => 76 | 9 => 9 | 3 => 3 | 4 => 4 | 0 => 0 | n => n, fun | n => n⟩
theorem Try.lays194 : Go.Proofs.Lays.n194 Try.prog Try.lays194_ren := {
  mixed := by kernel_rfl
  f194 := Try.func69.trans (congrArg some (by kernel_rfl))
  t0 := Try.underlying0
  a0 := Try.isAgg0
  z0 := Try.sizeOf0
  v0 := Try.zeroValue0
  t3 := Try.underlying3
  a3 := Try.isAgg3
  z3 := Try.sizeOf3
  v3 := Try.zeroValue3
  t4 := Try.underlying4
  a4 := Try.isAgg4
  z4 := Try.sizeOf4
  v4 := Try.zeroValue4
  t9 := Try.underlying9
  a9 := Try.isAgg9
  z9 := Try.sizeOf9
  v9 := Try.zeroValue9
  t31 := Try.underlying76
  a31 := Try.isAgg76
  z31 := Try.sizeOf76
  v31 := Try.zeroValue76 }
open Go.RowKit Go.Lib Go.Sort in
open Go.RowKit Go.Lib Go.Sort in
/-- slices.Compact at []string: "Compact replaces consecutive runs of equal elements with a single copy. This is like the uniq command found on Unix. Compact modifies the contents of the slice s and returns the modified slice, which may have a smaller length. Compact zeroes the elements between the new length and the original length. The result preserves the nilness of s.": IT RETURNS THE SLICE CUT TO 'Lib.compact zs'; ITS CELLS HOLD 'Lib.compact zs', THEN ZERO VALUES up to the old length; all else is as it was, but for the count of draws. IN THE WORDS OF slices.Sort's CONTRACT ('Holds', 'putRow'): so the everyday 'slices.Sort(xs); xs = slices.Compact(xs)' goes from the one contract to the other. It asks 'zs.length ≤ cap' (every slice's: the reslicing 's[:k]' looks at it). Length 0, nil: '.._empty'. (LAID: no walk: one application.) -/
theorem Try.slices_Compact_string (blk off cap : Nat) (zs : List (List UInt8)) (w : World) (hH : Holds encStr w blk off zs.toArray) (hsz : zs.length ≤ 9223372036854775807) (hcap : zs.length ≤ cap) :
    Calls Try.prog 69 #[.slice (some ⟨blk, off, none⟩) zs.length cap] w fun e w' => e = .returned (.slice (some ⟨blk, off, none⟩) (Lib.compact zs).length cap) ∧ ∃ q, w' = putRow encStr (Sort.ahead w q) blk off (Lib.compact zs ++ List.replicate (zs.length - (Lib.compact zs).length) []).toArray := Any.slices_Compact_string Try.lays194 blk off cap zs w hH hsz hcap
open Go.RowKit Go.Lib Go.Sort in
/-- The same at a slice of length 0, a nil one too: it comes back as it is. (LAID: no walk: one application.) -/
theorem Try.slices_Compact_string_empty (a : Option Addr) (cap : Nat) (w : World) :
    Calls Try.prog 69 #[.slice a 0 cap] w fun e w' => e = .returned (.slice a 0 cap) ∧ w' = w := Any.slices_Compact_string_empty Try.lays194 a cap w
open Go.RowKit Go.Lib Go.Sort in
open Go.RowKit Go.Sort in
/-- .. and plain. (LAID: no walk: one application.) -/
theorem Try.slices_Sort_string_none (p : Option Addr) (cap : Nat) (w : World) :
    Calls Try.prog 68 #[.slice p 0 cap] w fun e w' => e = .returned (.tuple #[]) ∧ w' = w := Any.slices_Sort_string_none Try.lays190 p cap w
end Go.Proofs
namespace SX
open Go Go.Proofs
theorem Spec.ofCalls {f : FuncId} {args : List Value} {v : Value} (h : ∀ w, Calls Try.prog f args.toArray w fun e w' => e = .returned v ∧ w' = w) : Spec Try.prog f args [] (fun r L => r = v ∧ L = []) := fun _ w hw =>
  (h w).mono fun _ _ ⟨e1, e2⟩ => ⟨v, [], e1, ⟨rfl, rfl⟩, e2 ▸ hw⟩
theorem cmp_spec (a b : ByteArray) : Spec Try.prog 94 [.string a, .string b] [] (fun v L => v = .int .i64 (cmpS a b) ∧ L = []) := Spec.ofCalls fun w => Try.strings_Compare a b w
theorem bypath_spec (e : En) (p : ByteArray) : Spec Try.prog 81 [.agg (enc1 e).toArray, .string p] [] (fun v L => v = .int .i64 (cmpS e.1 p) ∧ L = []) := by
  refine Spec.of 9 Try.func81 rfl rfl rfl ?_
  refine swp_seq ?_
  refine swp_region ?_
  refine s_ef (ef_box rfl rfl) ?_
  intro b2
  refine s_pu (pu_assign rfl) ?_
  refine swl_sub _ (.cons (t := 1) rfl (.cons (t := 2) rfl .nil)) ?_
  refine swl_nil ?_
  refine then_n ?_
  refine swp_seq ?_
  refine swp_region ?_
  first | refine s_pu (pu_fieldAddr0 rfl) ?_ | refine s_pu (pu_fieldAddr rfl) ?_
  refine s_rd (rd_load rfl rfl) ?_
  refine s_pu (pu_move rfl) ?_
  refine s_ef (ef_fn (cmp_spec _ _) rfl rfl (by repeat (first | exact Split.nil | (apply Split.cons; (repeat (first | with_reducible exact Take.here | apply Take.there)))))) ?_
  rintro v L1 ⟨rfl, rfl⟩
  refine swl_app ?_
  refine s_pu (pu_assign rfl) ?_
  refine swl_sub _ (.cons (t := 4) rfl .nil) ?_
  refine swl_nil ?_
  refine then_n ?_
  refine swp_ret ?_
  exact done_ret [] (.tmp rfl .nil) ⟨rfl, rfl⟩ (by repeat (first | exact Split.nil | (apply Split.cons; (repeat (first | with_reducible exact Take.here | apply Take.there)))))
theorem pu_half {t u : TypeId} {x y : Operand} {ky : IntKind} {n : Nat} {env : Env} (hx : evalE env x = some (.int .u64 (n : Nat))) (hy : evalE env y = some (.int ky ((1 : Nat) : Int))) (hn : n < 18446744073709551616) : Pu Try.prog env (.binOp .shr t x y u) (.int .u64 ((n / 2 : Nat) : Int)) := by
  have hw := wv_ofNat n hn
  have := pu_shr_w (P := Try.prog) (t := t) (u := u) (a := BitVec.ofNat 64 n) (n := 1) (by rw [hw]; exact hx) hy (by decide)
  rw [BitVec.toNat_ushiftRight, BitVec.toNat_ofNat, Nat.mod_eq_of_lt (by simpa using hn), Nat.shiftRight_eq_div_pow] at this
  exact this
theorem tree_at {μ : PH} {v : Value} {l : List En} (h : Row μ v 2 l.length (ens l)) {i : Nat} {e : En} (hi : l[i]? = some e) : ∃ b off cap, v = .slice (some ⟨b, off, none⟩) l.length cap ∧ RowAt μ b (off + i * 2) (enc1 e) ∧ CellAt μ b (off + i * 2) (.string e.1) ∧ CellAt μ b (off + i * 2 + 1) (.int .u32 e.2) := by
  have hl := (List.getElem?_eq_some_iff.1 hi).1
  obtain ⟨b, off, cap, hv, _, _, hr⟩ := h.pos (by omega)
  have hr' := hr.elem enc1_len hi
  exact ⟨b, off, cap, hv, hr', by have := hr' 0 _ rfl; rwa [Nat.add_zero] at this, hr' 1 _ rfl⟩
set_option maxHeartbeats 1000000 in
theorem bin_spec (μ : PH) (v : Value) (l : List En) (p : ByteArray) (h : Row μ v 2 l.length (ens l)) (hsz : l.length ≤ 1048576) : Spec Try.prog 80 [v, .string p, .func (.func 81) #[] #[]] [ro μ] (fun r L => r = .tuple #[.int .i64 (bsB l p : Nat), .bool (match l[bsB l p]? with | some e => strEq e.1 p | none => false)] ∧ L = [ro μ]) := by
  have hsm := h.small
  refine Spec.of 49 Try.func80 rfl rfl rfl ?_
  refine swp_seq ?_
  refine swp_region ?_
  refine s_pu (pu_assign rfl) ?_
  refine s_pu (pu_assign rfl) ?_
  refine swl_sub _ (.cons (t := 0) rfl (.cons (t := 1) rfl (.cons (t := 2) rfl .nil))) ?_
  refine swl_nil ?_
  refine then_n ?_
  refine swp_seq ?_
  refine swp_region ?_
  refine s_pu (pu_move rfl) ?_
  refine s_pu (pu_len_row h rfl) ?_
  refine s_pu (pu_assign rfl) ?_
  refine swl_sub _ (.cons (t := 0) rfl (.cons (t := 1) rfl (.cons (t := 2) rfl (.cons (t := 8) rfl .nil)))) ?_
  refine swl_nil ?_
  refine then_n ?_
  refine swp_seq ?_
  refine swp_region ?_
  refine s_pu (pu_move rfl) ?_
  refine s_pu (pu_assign rfl) ?_
  refine s_pu (pu_assign rfl) ?_
  refine swl_sub _ (.cons (t := 0) rfl (.cons (t := 1) rfl (.cons (t := 2) rfl (.cons (t := 8) rfl (.cons (t := 9) rfl (.cons (t := 10) rfl .nil)))))) ?_
  refine swl_nil ?_
  refine then_n ?_
  refine swp_seq ?_
  refine swp_block ?_
  refine swp_loop (ι := Nat × Nat) (fun k env L => env = [(0, v), (1, .string p), (2, .func (.func 81) #[] #[]), (8, .int .i64 (l.length : Nat)), (9, .int .i64 (k.1 : Nat)), (10, .int .i64 (k.2 : Nat))] ∧ L = [ro μ] ∧ k.1 ≤ k.2 ∧ k.2 ≤ l.length ∧ bsF l p k.1 k.2 = bsB l p) (fun k => k.2 - k.1) (0, l.length) ⟨rfl, rfl, Nat.zero_le _, Nat.le_refl _, rfl⟩ ?_
  rintro ⟨i, j⟩ env L ⟨rfl, rfl, hij, hj, hbs⟩
  simp only [] at hij hj hbs
  dsimp only
  refine swp_seq ?_
  refine swp_seq ?_
  refine swp_region ?_
  refine s_pu (pu_move rfl) ?_
  refine s_pu (pu_move rfl) ?_
  refine s_pu (pu_lss rfl rfl) ?_
  refine swl_sub _ (.cons (t := 0) rfl (.cons (t := 1) rfl (.cons (t := 2) rfl (.cons (t := 8) rfl (.cons (t := 9) rfl (.cons (t := 10) rfl (.cons (t := 17) rfl .nil))))))) ?_
  refine swl_nil ?_
  refine then_n ?_
  refine swp_cond (b := _) rfl (fun h17 => ?_) (fun h17 => ?_)
  · skip   -- 17 T
    have h17' : i < j := by have := of_decide_eq_true h17; omega
    have hm : (i + j) / 2 < l.length := by omega
    obtain ⟨e, he⟩ : ∃ e, l[(i + j) / 2]? = some e := ⟨_, List.getElem?_eq_getElem hm⟩
    obtain ⟨gb, off, cap, hv, hra, hc0, hc1⟩ := tree_at h he
    refine swp_skip ?_
    refine then_n ?_
    refine swp_block ?_
    refine swp_seq ?_
    refine swp_region ?_
    refine s_pu (pu_move rfl) ?_
    refine s_pu (pu_move rfl) ?_
    refine s_pu (pu_add_as ((i + j : Nat) : Int) rfl rfl (by omega) (by omega) (by omega)) ?_
    refine s_pu (pu_conv_u64 rfl (by omega) (by omega)) ?_
    refine s_pu (pu_half rfl rfl (by omega)) ?_
    refine s_pu (pu_conv_i64 rfl (by omega) (by omega)) ?_
    refine s_pu (pu_assign rfl) ?_
    refine swl_sub _ (.cons (t := 0) rfl (.cons (t := 1) rfl (.cons (t := 2) rfl (.cons (t := 8) rfl (.cons (t := 9) rfl (.cons (t := 10) rfl (.cons (t := 11) rfl .nil))))))) ?_
    refine swl_nil ?_
    refine then_n ?_
    refine swp_seq ?_
    refine swp_region ?_
    refine s_pu (pu_move rfl) ?_
    refine s_pu (pu_move rfl) ?_
    refine s_pu (pu_move rfl) ?_
    refine s_pu (pu_indexAddr (off + (i + j) / 2 * 2) (congrArg some hv) rfl (by omega) (by omega) (by rw [Int.toNat_natCast])) ?_
    refine s_rd (rd_roA rfl rfl hra) ?_
    refine s_pu (pu_move rfl) ?_
    refine s_ef (ef_fn (bypath_spec e p) rfl rfl (by repeat (first | exact Split.nil | (apply Split.cons; (repeat (first | with_reducible exact Take.here | apply Take.there)))))) ?_
    rintro v30 L1 ⟨rfl, rfl⟩
    refine swl_app ?_
    refine s_pu (pu_lss rfl rfl) ?_
    refine swl_sub _ (.cons (t := 0) rfl (.cons (t := 1) rfl (.cons (t := 2) rfl (.cons (t := 8) rfl (.cons (t := 9) rfl (.cons (t := 10) rfl (.cons (t := 11) rfl (.cons (t := 31) rfl .nil)))))))) ?_
    refine swl_nil ?_
    refine then_n ?_
    refine swp_cond (b := _) rfl (fun h31 => ?_) (fun h31 => ?_)
    · skip   -- 31 T
      refine swp_region ?_
      refine s_pu (pu_move rfl) ?_
      refine s_pu (pu_add_as (((i + j) / 2 + 1 : Nat) : Int) rfl rfl (by omega) (by omega) (by omega)) ?_
      refine s_pu (pu_assign rfl) ?_
      refine swl_sub _ (.cons (t := 0) rfl (.cons (t := 1) rfl (.cons (t := 2) rfl (.cons (t := 8) rfl (.cons (t := 9) rfl (.cons (t := 10) rfl .nil)))))) ?_
      refine swl_nil ?_
      refine block_n ?_
      have h31' : strLt e.1 p = true := (cmpS_neg _ _).1 (of_decide_eq_true h31)
      refine then_n ⟨((i + j) / 2 + 1, j), ⟨rfl, rfl, by show (i + j) / 2 + 1 ≤ j; omega, hj, by rw [← hbs]; exact (bsF_lo l p h17' he h31').symm⟩, by show j - ((i + j) / 2 + 1) < j - i; omega⟩
    · skip   -- 31 F
      refine swp_region ?_
      refine s_pu (pu_move rfl) ?_
      refine s_pu (pu_assign rfl) ?_
      refine swl_sub _ (.cons (t := 0) rfl (.cons (t := 1) rfl (.cons (t := 2) rfl (.cons (t := 8) rfl (.cons (t := 9) rfl (.cons (t := 10) rfl .nil)))))) ?_
      refine swl_nil ?_
      refine block_n ?_
      have h31' : strLt e.1 p = false := by
        cases hh : strLt e.1 p with
        | false => rfl
        | true => exact absurd ((cmpS_neg _ _).2 hh) (of_decide_eq_false h31)
      refine then_n ⟨(i, (i + j) / 2), ⟨rfl, rfl, by show i ≤ (i + j) / 2; omega, by show (i + j) / 2 ≤ l.length; omega, by rw [← hbs]; exact (bsF_hi l p h17' he h31').symm⟩, by show (i + j) / 2 - i < j - i; omega⟩
  · skip   -- 17 F
    have h17' := of_decide_eq_false h17
    obtain rfl : i = j := by omega
    rw [bsF_stop l p (by omega)] at hbs
    refine swp_exit ?_
    refine then_x ?_
    refine then_x ?_
    refine block_hit rfl ?_
    refine then_n ?_
    refine swp_seq ?_
    refine swp_region ?_
    refine s_pu (pu_move rfl) ?_
    refine s_pu (pu_move rfl) ?_
    refine s_pu (pu_move rfl) ?_
    refine s_pu (pu_lss rfl rfl) ?_
    refine s_pu (pu_move rfl) ?_
    refine s_split 39 rfl (fun h39 => ?_) (fun h39 => ?_)
    · skip   -- 39 T
      have h39' := of_decide_eq_true h39
      obtain ⟨e, he⟩ : ∃ e, l[i]? = some e := ⟨_, List.getElem?_eq_getElem (by omega)⟩
      obtain ⟨gb, off, cap, hv, hra, hc0, hc1⟩ := tree_at h he
      refine s_on rfl rfl ?_
      refine s_pu (pu_move rfl) ?_
      refine s_on rfl rfl ?_
      refine s_pu (pu_move rfl) ?_
      refine s_on rfl rfl ?_
      refine s_pu (pu_move rfl) ?_
      refine s_on rfl rfl ?_
      refine s_pu (pu_indexAddr (off + i * 2) (congrArg some hv) rfl (by omega) (by omega) (by rw [Int.toNat_natCast])) ?_
      refine s_on rfl rfl ?_
      refine s_rd (rd_roA rfl rfl hra) ?_
      refine s_on rfl rfl ?_
      refine s_pu (pu_move rfl) ?_
      refine s_on rfl rfl ?_
      refine s_ef (ef_fn (bypath_spec e p) rfl rfl (by repeat (first | exact Split.nil | (apply Split.cons; (repeat (first | with_reducible exact Take.here | apply Take.there)))))) ?_
      rintro v46 L1 ⟨rfl, rfl⟩
      refine swl_app ?_
      refine s_on rfl rfl ?_
      refine s_pu (pu_eql rfl rfl) ?_
      first | refine s_pu (pu_pick_t rfl rfl) ?_ | refine s_pu (pu_pick_f rfl rfl) ?_
      refine s_pu (pu_assign rfl) ?_
      refine s_pu (pu_assign rfl) ?_
      refine swl_sub _ (.cons (t := 6) rfl (.cons (t := 7) rfl .nil)) ?_
      refine swl_nil ?_
      refine then_n ?_
      refine swp_ret ?_
      refine done_ret [ro μ] (.tmp rfl (.tmp rfl .nil)) ⟨?_, rfl⟩ (by repeat (first | exact Split.nil | (apply Split.cons; (repeat (first | with_reducible exact Take.here | apply Take.there)))))
      rw [← hbs, he]
      simp only []
      rw [← dcmpS_zero]; rfl
    · skip   -- 39 F
      refine s_off rfl rfl rfl ?_
      refine s_off rfl rfl rfl ?_
      refine s_off rfl rfl rfl ?_
      refine s_off rfl rfl rfl ?_
      refine s_off rfl rfl rfl ?_
      refine s_off rfl rfl rfl ?_
      refine s_off rfl rfl rfl ?_
      refine s_off rfl rfl rfl ?_
      first | refine s_pu (pu_pick_t rfl rfl) ?_ | refine s_pu (pu_pick_f rfl rfl) ?_
      refine s_pu (pu_assign rfl) ?_
      refine s_pu (pu_assign rfl) ?_
      refine swl_sub _ (.cons (t := 6) rfl (.cons (t := 7) rfl .nil)) ?_
      refine swl_nil ?_
      refine then_n ?_
      refine swp_ret ?_
      have h39' := of_decide_eq_false h39
      refine done_ret [ro μ] (.tmp rfl (.tmp rfl .nil)) ⟨?_, rfl⟩ (by repeat (first | exact Split.nil | (apply Split.cons; (repeat (first | with_reducible exact Take.here | apply Take.there)))))
      rw [← hbs, List.getElem?_eq_none (by omega)]; rfl
set_option maxHeartbeats 1000000 in
theorem look_spec (μ : PH) (v : Value) (l : List En) (p : ByteArray) (h : Row μ v 2 l.length (ens l)) (hsz : l.length ≤ 1048576) : Spec Try.prog 59 [v, .string p] [ro μ] (fun r L => r = .int .u32 (lookB l p) ∧ L = [ro μ]) := by
  have hsm := h.small
  refine Spec.of 19 Try.func59 rfl rfl rfl ?_
  refine swp_seq ?_
  refine swp_region ?_
  refine s_pu (pu_assign rfl) ?_
  refine swl_sub _ (.cons (t := 0) rfl (.cons (t := 1) rfl .nil)) ?_
  refine swl_nil ?_
  refine then_n ?_
  refine swp_seq ?_
  refine swp_seq ?_
  refine swp_region ?_
  refine s_pu (pu_move rfl) ?_
  refine s_pu (pu_move rfl) ?_
  refine s_ef (ef_fn (bin_spec μ v l p h hsz) rfl rfl (by repeat (first | exact Split.nil | (apply Split.cons; (repeat (first | with_reducible exact Take.here | apply Take.there)))))) ?_
  rintro v10 L1 ⟨rfl, rfl⟩
  refine swl_app ?_
  refine s_pu (pu_move rfl) ?_
  first | refine s_pu (pu_extractL rfl) ?_ | refine s_pu (pu_extract rfl rfl) ?_
  first | refine s_pu (pu_extractL rfl) ?_ | refine s_pu (pu_extract rfl rfl) ?_
  refine s_pu (pu_assign rfl) ?_
  refine s_pu (pu_assign rfl) ?_
  refine swl_sub _ (.cons (t := 0) rfl (.cons (t := 5) rfl (.cons (t := 6) rfl .nil))) ?_
  refine swl_nil ?_
  refine then_n ?_
  refine swp_seq ?_
  refine swp_region ?_
  refine s_pu (pu_move rfl) ?_
  refine swl_sub _ (.cons (t := 0) rfl (.cons (t := 5) rfl (.cons (t := 13) rfl .nil))) ?_
  refine swl_nil ?_
  refine then_n ?_
  refine swp_cond (b := _) rfl (fun h13 => ?_) (fun h13 => ?_)
  · skip   -- 13 T
    obtain ⟨e, he, heq⟩ : ∃ e, l[bsB l p]? = some e ∧ strEq e.1 p = true := by
      cases hh : l[bsB l p]? with
      | none => rw [hh] at h13; cases h13
      | some e => rw [hh] at h13; exact ⟨e, rfl, h13⟩
    have hlt := (List.getElem?_eq_some_iff.1 he).1
    obtain ⟨gb, off, cap, hv, hra, hc0, hc1⟩ := tree_at h he
    refine swp_seq ?_
    refine swp_region ?_
    refine s_pu (pu_move rfl) ?_
    refine s_pu (pu_move rfl) ?_
    refine s_pu (pu_indexAddr (off + bsB l p * 2) (congrArg some hv) rfl (by omega) (by omega) (by rw [Int.toNat_natCast])) ?_
    first | refine s_pu (pu_fieldAddr0 rfl) ?_ | refine s_pu (pu_fieldAddr rfl) ?_
    refine s_rd (rd_ro rfl hc1) ?_
    refine s_pu (pu_assign rfl) ?_
    refine swl_sub _ (.cons (t := 4) rfl .nil) ?_
    refine swl_nil ?_
    refine then_n ?_
    refine swp_ret ?_
    refine then_r ?_
    refine done_ret [ro μ] (.tmp rfl .nil) ⟨?_, rfl⟩ (by repeat (first | exact Split.nil | (apply Split.cons; (repeat (first | with_reducible exact Take.here | apply Take.there)))))
    unfold lookB
    rw [he]
    show _ = Value.int .u32 (if strEq e.1 p = true then e.2 else 0)
    rw [heq]; rfl
  · skip   -- 13 F
    refine swp_skip ?_
    refine then_n ?_
    refine swp_seq ?_
    refine swp_region ?_
    refine s_pu (pu_assign rfl) ?_
    refine swl_sub _ (.cons (t := 4) rfl .nil) ?_
    refine swl_nil ?_
    refine then_n ?_
    refine swp_ret ?_
    refine done_ret [ro μ] (.tmp rfl .nil) ⟨?_, rfl⟩ (by repeat (first | exact Split.nil | (apply Split.cons; (repeat (first | with_reducible exact Take.here | apply Take.there)))))
    unfold lookB
    cases hh : l[bsB l p]? with
    | none => rfl
    | some e =>
      have h13' : strEq e.1 p = false := by rw [hh] at h13; exact h13
      show _ = Value.int .u32 (if strEq e.1 p = true then e.2 else 0)
      rw [h13']; rfl
set_option maxHeartbeats 1000000 in
theorem rlook_spec (μ : PH) (v : Value) (l : List En) (p : ByteArray) (h : Row μ v 2 l.length (ens l)) : Spec Try.prog 16 [v, .string p] [ro μ] (fun r L => r = .int .u32 (lookE l p) ∧ L = [ro μ]) := by
  have hsm := h.small
  refine Spec.of 24 Try.func16 rfl rfl rfl ?_
  refine swp_seq ?_
  refine swp_region ?_
  refine s_pu (pu_assign rfl) ?_
  refine swl_sub _ (.cons (t := 0) rfl (.cons (t := 1) rfl .nil)) ?_
  refine swl_nil ?_
  refine then_n ?_
  refine swp_seq ?_
  refine swp_seq ?_
  refine swp_region ?_
  refine s_pu (pu_assign rfl) ?_
  refine swl_sub _ (.cons (t := 0) rfl (.cons (t := 1) rfl (.cons (t := 5) rfl .nil))) ?_
  refine swl_nil ?_
  refine then_n ?_
  refine swp_block ?_
  refine swp_loop (ι := Nat) (fun i env L => env = [(0, v), (1, .string p), (5, .int .i64 (i : Nat))] ∧ L = [ro μ] ∧ i ≤ l.length ∧ lookE (l.drop i) p = lookE l p) (fun i => l.length - i) 0 ⟨rfl, rfl, Nat.zero_le _, rfl⟩ ?_
  rintro i env L ⟨rfl, rfl, hi, hlk⟩
  refine swp_seq ?_
  refine swp_seq ?_
  refine swp_region ?_
  refine s_pu (pu_move rfl) ?_
  refine s_pu (pu_move rfl) ?_
  refine s_pu (pu_len_row h rfl) ?_
  refine s_pu (pu_lss rfl rfl) ?_
  refine swl_sub _ (.cons (t := 0) rfl (.cons (t := 1) rfl (.cons (t := 5) rfl (.cons (t := 9) rfl .nil)))) ?_
  refine swl_nil ?_
  refine then_n ?_
  refine swp_cond (b := _) rfl (fun h9 => ?_) (fun h9 => ?_)
  · skip   -- 9 T
    have h9' : i < l.length := by have := of_decide_eq_true h9; omega
    obtain ⟨e, he⟩ : ∃ e, l[i]? = some e := ⟨_, List.getElem?_eq_getElem h9'⟩
    obtain ⟨gb, off, cap, hv, hra, hc0, hc1⟩ := tree_at h he
    have hdr : l.drop i = e :: l.drop (i + 1) := by
      rw [List.drop_eq_getElem_cons h9']; congr 1; rw [List.getElem?_eq_getElem h9'] at he; exact Option.some.inj he
    rw [hdr, lookE] at hlk
    refine swp_skip ?_
    refine then_n ?_
    refine swp_seq ?_
    refine swp_block ?_
    refine swp_seq ?_
    refine swp_region ?_
    refine s_pu (pu_move rfl) ?_
    refine s_pu (pu_move rfl) ?_
    refine s_pu (pu_indexAddr (off + i * 2) (congrArg some hv) rfl (by omega) (by omega) (by rw [Int.toNat_natCast])) ?_
    first | refine s_pu (pu_fieldAddr0 rfl) ?_ | refine s_pu (pu_fieldAddr rfl) ?_
    refine s_rd (rd_ro rfl hc0) ?_
    refine s_pu (pu_move rfl) ?_
    refine s_pu (pu_str_eql rfl rfl) ?_
    refine swl_sub _ (.cons (t := 0) rfl (.cons (t := 1) rfl (.cons (t := 5) rfl (.cons (t := 18) rfl .nil)))) ?_
    refine swl_nil ?_
    refine then_n ?_
    refine swp_cond (b := _) rfl (fun h18 => ?_) (fun h18 => ?_)
    · skip   -- 18 T
      refine swp_seq ?_
      refine swp_region ?_
      refine s_pu (pu_move rfl) ?_
      refine s_pu (pu_move rfl) ?_
      refine s_pu (pu_indexAddr (off + i * 2) (congrArg some hv) rfl (by omega) (by omega) (by rw [Int.toNat_natCast])) ?_
      first | refine s_pu (pu_fieldAddr0 rfl) ?_ | refine s_pu (pu_fieldAddr rfl) ?_
      refine s_rd (rd_ro rfl hc1) ?_
      refine s_pu (pu_assign rfl) ?_
      refine swl_sub _ (.cons (t := 4) rfl .nil) ?_
      refine swl_nil ?_
      refine then_n ?_
      refine swp_ret ?_
      refine block_r ?_
      refine then_r ?_
      refine then_r ?_
      refine block_r ?_
      refine then_r ?_
      rw [h18] at hlk
      exact done_ret [ro μ] (.tmp rfl .nil) ⟨by rw [← hlk]; rfl, rfl⟩ (by repeat (first | exact Split.nil | (apply Split.cons; (repeat (first | with_reducible exact Take.here | apply Take.there)))))
    · skip   -- 18 F
      refine swp_skip ?_
      refine block_n ?_
      refine then_n ?_
      refine swp_region ?_
      refine s_pu (pu_move rfl) ?_
      refine s_pu (pu_add_as ((i + 1 : Nat) : Int) rfl rfl (by omega) (by omega) (by omega)) ?_
      refine s_pu (pu_assign rfl) ?_
      refine swl_sub _ (.cons (t := 0) rfl (.cons (t := 1) rfl (.cons (t := 5) rfl .nil))) ?_
      refine swl_nil ?_
      rw [h18] at hlk
      exact then_n ⟨i + 1, ⟨rfl, rfl, h9', hlk⟩, by omega⟩
  · skip   -- 9 F
    have h9' := of_decide_eq_false h9
    rw [List.drop_eq_nil_of_le (by omega)] at hlk
    refine swp_exit ?_
    refine then_x ?_
    refine then_x ?_
    refine block_hit rfl ?_
    refine then_n ?_
    refine swp_seq ?_
    refine swp_region ?_
    refine s_pu (pu_assign rfl) ?_
    refine swl_sub _ (.cons (t := 4) rfl .nil) ?_
    refine swl_nil ?_
    refine then_n ?_
    refine swp_ret ?_
    exact done_ret [ro μ] (.tmp rfl .nil) ⟨by rw [← hlk]; rfl, rfl⟩ (by repeat (first | exact Split.nil | (apply Split.cons; (repeat (first | with_reducible exact Take.here | apply Take.there)))))
end SX
namespace SX
open Go Go.Proofs
set_option maxHeartbeats 1000000 in
theorem same_spec (μ : PH) (va vb : Value) (la lb : List En) (ha : Row μ va 2 la.length (la.flatMap enc1)) (hb : Row μ vb 2 lb.length (lb.flatMap enc1)) : Spec Try.prog 33 [va, vb] [ro μ] (fun r L => r = .bool (decide (la = lb)) ∧ L = [ro μ]) := by
  have hsa := ha.small
  have hsb := hb.small
  refine Spec.of 26 Try.func33 rfl rfl rfl ?_
  refine swp_seq ?_
  refine swp_region ?_
  refine s_pu (pu_assign rfl) ?_
  refine swl_sub _ (.cons (t := 0) rfl (.cons (t := 1) rfl .nil)) ?_
  refine swl_nil ?_
  refine then_n ?_
  refine swp_seq ?_
  refine swp_seq ?_
  refine swp_region ?_
  refine s_pu (pu_move rfl) ?_
  refine s_pu (pu_len_row ha rfl) ?_
  refine s_pu (pu_move rfl) ?_
  refine s_pu (pu_len_row hb rfl) ?_
  refine s_pu (pu_neq rfl rfl) ?_
  refine swl_sub _ (.cons (t := 0) rfl (.cons (t := 1) rfl (.cons (t := 10) rfl .nil))) ?_
  refine swl_nil ?_
  refine then_n ?_
  refine swp_cond (b := _) rfl (fun h10 => ?_) (fun h10 => ?_)
  · skip   -- 10 T
    refine swp_seq ?_
    refine swp_region ?_
    refine s_pu (pu_assign rfl) ?_
    refine swl_sub _ (.cons (t := 4) rfl .nil) ?_
    refine swl_nil ?_
    refine then_n ?_
    refine swp_ret ?_
    refine then_r ?_
    refine done_ret [ro μ] (.tmp rfl .nil) ⟨?_, rfl⟩ (by repeat (first | exact Split.nil | (apply Split.cons; (repeat (first | with_reducible exact Take.here | apply Take.there)))))
    have : la ≠ lb := by rintro rfl; simp at h10
    rw [decide_eq_false this]; rfl
  · skip   -- 10 F
    have hlen : la.length = lb.length := by simp at h10; omega
    refine swp_skip ?_
    refine then_n ?_
    refine swp_seq ?_
    refine swp_seq ?_
    refine swp_region ?_
    refine s_pu (pu_assign rfl) ?_
    refine swl_sub _ (.cons (t := 0) rfl (.cons (t := 1) rfl (.cons (t := 5) rfl .nil))) ?_
    refine swl_nil ?_
    refine then_n ?_
    refine swp_block ?_
    refine swp_loop (ι := Nat) (fun i env L => env = [(0, va), (1, vb), (5, .int .i64 (i : Nat))] ∧ L = [ro μ] ∧ i ≤ la.length ∧ la.take i = lb.take i) (fun i => la.length - i) 0 ⟨rfl, rfl, Nat.zero_le _, rfl⟩ ?_
    rintro i env L ⟨rfl, rfl, hi, htk⟩
    refine swp_seq ?_
    refine swp_seq ?_
    refine swp_region ?_
    refine s_pu (pu_move rfl) ?_
    refine s_pu (pu_move rfl) ?_
    refine s_pu (pu_len_row ha rfl) ?_
    refine s_pu (pu_lss rfl rfl) ?_
    refine swl_sub _ (.cons (t := 0) rfl (.cons (t := 1) rfl (.cons (t := 5) rfl (.cons (t := 14) rfl .nil)))) ?_
    refine swl_nil ?_
    refine then_n ?_
    refine swp_cond (b := _) rfl (fun h14 => ?_) (fun h14 => ?_)
    · skip   -- 14 T
      have h14' : i < la.length := by have := of_decide_eq_true h14; omega
      obtain ⟨e1, he1⟩ : ∃ e, la[i]? = some e := ⟨_, List.getElem?_eq_getElem h14'⟩
      obtain ⟨e2, he2⟩ : ∃ e, lb[i]? = some e := ⟨_, List.getElem?_eq_getElem (by omega)⟩
      obtain ⟨b1, o1, c1, hv1, _, _, hr1⟩ := ha.pos (by omega)
      obtain ⟨b2, o2, c2, hv2, _, _, hr2⟩ := hb.pos (by omega)
      have hq1 := hr1.elem (f := enc1) (n := 2) (fun _ => rfl) he1
      have hq2 := hr2.elem (f := enc1) (n := 2) (fun _ => rfl) he2
      refine swp_skip ?_
      refine then_n ?_
      refine swp_seq ?_
      refine swp_block ?_
      refine swp_seq ?_
      refine swp_draw [3, 7] _ [] (by simp only [List.append_nil]; exact Ent.refl _) (by kernel_rfl) ?_
      refine d_pu 0 rfl (pu_move rfl) (by kernel_rfl) (by kernel_rfl) (by kernel_rfl) ?_
      refine d_pu 1 rfl (pu_move rfl) (by kernel_rfl) (by kernel_rfl) (by kernel_rfl) ?_
      refine d_pu 2 rfl (pu_indexAddr (o1 + i * 2) (congrArg some hv1) rfl (by omega) (by omega) (by rw [Int.toNat_natCast])) (by kernel_rfl) (by kernel_rfl) (by kernel_rfl) ?_
      refine d_rd 3 rfl (rd_roA rfl rfl hq1) rfl (by kernel_rfl) (by kernel_rfl) (by kernel_rfl) ?_
      refine d_pu 4 rfl (pu_move rfl) (by kernel_rfl) (by kernel_rfl) (by kernel_rfl) ?_
      refine d_pu 5 rfl (pu_move rfl) (by kernel_rfl) (by kernel_rfl) (by kernel_rfl) ?_
      refine d_pu 6 rfl (pu_indexAddr (o2 + i * 2) (congrArg some hv2) rfl (by omega) (by omega) (by rw [Int.toNat_natCast])) (by kernel_rfl) (by kernel_rfl) (by kernel_rfl) ?_
      refine d_rd 7 rfl (rd_roA rfl rfl hq2) rfl (by kernel_rfl) (by kernel_rfl) (by kernel_rfl) ?_
      refine d_pu 8 rfl (pu_stN_ne (vs := enc1 e1) (us := enc1 e2) rfl rfl (.str (.int .nil))) (by kernel_rfl) (by kernel_rfl) (by kernel_rfl) ?_
      refine d_sub _ (.cons (t := 0) rfl (.cons (t := 1) rfl (.cons (t := 5) rfl (.cons (t := 25) rfl .nil)))) ?_
      first | refine d_nilt (by kernel_rfl) ?_ | refine d_nilf (by kernel_rfl) ?_
      refine then_n ?_
      refine swp_cond (b := _) rfl (fun h25 => ?_) (fun h25 => ?_)
      · skip   -- 25 T
        refine swp_seq ?_
        refine swp_region ?_
        refine s_pu (pu_assign rfl) ?_
        refine swl_sub _ (.cons (t := 4) rfl .nil) ?_
        refine swl_nil ?_
        refine then_n ?_
        refine swp_ret ?_
        refine block_r ?_
        refine then_r ?_
        refine then_r ?_
        refine block_r ?_
        refine then_r ?_
        refine done_ret [ro μ] (.tmp rfl .nil) ⟨?_, rfl⟩ (by repeat (first | exact Split.nil | (apply Split.cons; (repeat (first | with_reducible exact Take.here | apply Take.there)))))
        have : la ≠ lb := by
          rintro rfl
          rw [he1] at he2; cases he2
          simp [strEq_refl] at h25
        rw [decide_eq_false this]; rfl
      · skip   -- 25 F
        refine swp_skip ?_
        refine block_n ?_
        refine then_n ?_
        refine swp_region ?_
        refine s_pu (pu_move rfl) ?_
        refine s_pu (pu_add_as ((i + 1 : Nat) : Int) rfl rfl (by omega) (by omega) (by omega)) ?_
        refine s_pu (pu_assign rfl) ?_
        refine swl_sub _ (.cons (t := 0) rfl (.cons (t := 1) rfl (.cons (t := 5) rfl .nil))) ?_
        refine swl_nil ?_
        have he : e1 = e2 := by
          simp only [Bool.not_eq_false', Bool.and_eq_true, decide_eq_true_eq, strEq_iff, and_true] at h25
          obtain ⟨q1, q2⟩ := h25
          exact Prod.ext q1 q2
        exact then_n ⟨i + 1, ⟨rfl, rfl, h14', by rw [List.take_add_one, List.take_add_one, htk, he1, he2, he]⟩, by omega⟩
    · skip   -- 14 F
      have h14' := of_decide_eq_false h14
      obtain rfl : i = la.length := by omega
      refine swp_exit ?_
      refine then_x ?_
      refine then_x ?_
      refine block_hit rfl ?_
      refine then_n ?_
      refine swp_seq ?_
      refine swp_region ?_
      refine s_pu (pu_assign rfl) ?_
      refine swl_sub _ (.cons (t := 4) rfl .nil) ?_
      refine swl_nil ?_
      refine then_n ?_
      refine swp_ret ?_
      refine done_ret [ro μ] (.tmp rfl .nil) ⟨?_, rfl⟩ (by repeat (first | exact Split.nil | (apply Split.cons; (repeat (first | with_reducible exact Take.here | apply Take.there)))))
      rw [List.take_length, hlen, List.take_length] at htk
      rw [decide_eq_true htk]; rfl
end SX
