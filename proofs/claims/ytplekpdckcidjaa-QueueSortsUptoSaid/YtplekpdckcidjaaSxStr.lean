/- The order of texts. -/
import Derived.Test.YtplekpdckcidjaaSxOps2
import Derived.Test.YtplekpdckcidjaaSxHeap
namespace SX
open Go
theorem bl_iff : ∀ x y : List UInt8, Op.bytesLess x y = true ↔ List.Lex (· < ·) x y := by
  intro x
  induction x with
  | nil => intro y; cases y <;> simp [Op.bytesLess]
  | cons a x ih =>
    intro y
    cases y with
    | nil => simp [Op.bytesLess]
    | cons b y =>
      simp only [Op.bytesLess, Bool.or_eq_true, decide_eq_true_eq, Bool.and_eq_true, beq_iff_eq, ih, List.cons_lex_cons_iff]
theorem bl_irrefl : ∀ x : List UInt8, Op.bytesLess x x = false := by
  intro x
  induction x with
  | nil => rfl
  | cons a x ih => simp [Op.bytesLess, ih]
theorem bl_trans : ∀ x y z : List UInt8, Op.bytesLess x y = true → Op.bytesLess y z = true → Op.bytesLess x z = true := by
  intro x
  induction x with
  | nil => intro y z h1 h2; cases y <;> cases z <;> simp_all [Op.bytesLess]
  | cons a x ih =>
    intro y z h1 h2
    cases y with
    | nil => simp [Op.bytesLess] at h1
    | cons b y =>
      cases z with
      | nil => simp [Op.bytesLess] at h2
      | cons c z =>
        simp only [Op.bytesLess, Bool.or_eq_true, decide_eq_true_eq, Bool.and_eq_true, beq_iff_eq] at h1 h2 ⊢
        rcases h1 with h1 | ⟨rfl, h1⟩ <;> rcases h2 with h2 | ⟨rfl, h2⟩
        · exact .inl (UInt8.lt_trans h1 h2)
        · exact .inl h1
        · exact .inl h2
        · exact .inr ⟨rfl, ih _ _ h1 h2⟩
theorem bl_total : ∀ x y : List UInt8, Op.bytesLess x y = true ∨ x = y ∨ Op.bytesLess y x = true := by
  intro x
  induction x with
  | nil => intro y; cases y <;> simp [Op.bytesLess]
  | cons a x ih =>
    intro y
    cases y with
    | nil => simp [Op.bytesLess]
    | cons b y =>
      simp only [Op.bytesLess, Bool.or_eq_true, decide_eq_true_eq, Bool.and_eq_true, beq_iff_eq, List.cons.injEq]
      have h3 : a < b ∨ a = b ∨ b < a := by
        rcases Nat.lt_trichotomy a.toNat b.toNat with h | h | h
        · exact .inl (UInt8.lt_iff_toNat_lt.2 h)
        · exact .inr (.inl (UInt8.toNat_inj.1 h))
        · exact .inr (.inr (UInt8.lt_iff_toNat_lt.2 h))
      rcases h3 with h | rfl | h
      · exact .inl (.inl h)
      · rcases ih y with h | rfl | h
        · exact .inl (.inr ⟨rfl, h⟩)
        · exact .inr (.inl ⟨rfl, rfl⟩)
        · exact .inr (.inr (.inr ⟨rfl, h⟩))
      · exact .inr (.inr (.inl h))
theorem bl_asym {x y : List UInt8} (h : Op.bytesLess x y = true) : Op.bytesLess y x = false := by
  cases h2 : Op.bytesLess y x with
  | false => rfl
  | true => have := bl_trans _ _ _ h h2; rw [bl_irrefl] at this; cases this
theorem strGt_eq (a b : ByteArray) : (!(strLt a b || strEq a b)) = strLt b a := by
  unfold strLt strEq
  rcases bl_total a.toList b.toList with h | h | h
  · rw [h, bl_asym h]; simp
  · rw [h, bl_irrefl]; simp
  · rw [h, bl_asym h]
    have hne : (a.toList == b.toList) = false := by
      cases hb : (a.toList == b.toList) with
      | false => rfl
      | true => rw [beq_iff_eq] at hb; rw [hb, bl_irrefl] at h; cases h
    rw [hne]; rfl
theorem strGt_ord : Hp.Ord (fun a b : ByteArray => !(strLt a b || strEq a b)) := by
  have e : (fun a b : ByteArray => !(strLt a b || strEq a b)) = fun a b => strLt b a := by funext a b; exact strGt_eq a b
  rw [e]
  refine ⟨fun a b h => bl_asym h, fun a b c h1 h2 => ?_⟩
  unfold strLt at *
  cases h : Op.bytesLess a.toList c.toList with
  | false => rfl
  | true =>
    rcases bl_total a.toList b.toList with h3 | h3 | h3
    · rw [h3] at h1; cases h1
    · rw [h3] at h; rw [h] at h2; cases h2
    · rw [bl_trans _ _ _ h3 h] at h2; cases h2
end SX
