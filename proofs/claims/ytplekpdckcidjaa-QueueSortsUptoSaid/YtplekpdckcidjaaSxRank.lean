/- What a heap holds, in the order in which it comes out. No program in sight. -/
import Derived.Test.YtplekpdckcidjaaSxHeap
namespace Hp
section
variable {β : Type} {ah : β → β → Bool}

def Rep (ah : β → β → Bool) (es S : List β) : Prop := es.Perm S ∧ Heap ah es ∧ S.Pairwise (fun a b => ah a b = true)

def ins (ah : β → β → Bool) (x : β) : List β → List β
  | [] => [x]
  | y :: S => if ah x y then x :: y :: S else y :: ins ah x S
theorem ins_perm (x : β) : ∀ S : List β, (ins ah x S).Perm (x :: S)
  | [] => .refl _
  | y :: S => by
    unfold ins
    split
    · exact .refl _
    · exact (List.Perm.cons y (ins_perm x S)).trans (.swap _ _ _)
theorem mem_ins {x y : β} {S : List β} : y ∈ ins ah x S ↔ y = x ∨ y ∈ S := by rw [(ins_perm x S).mem_iff, List.mem_cons]
theorem ins_sorted (o : Ord ah) (ht : ∀ a b c, ah a b = true → ah b c = true → ah a c = true) {x : β} : ∀ {S : List β}, S.Pairwise (fun a b => ah a b = true) → (∀ y ∈ S, ah x y = false → ah y x = true) → (ins ah x S).Pairwise (fun a b => ah a b = true)
  | [], _, _ => by simp [ins]
  | y :: S, h, hx => by
    obtain ⟨h1, h2⟩ := List.pairwise_cons.1 h
    unfold ins
    split
    · rename_i hxy
      refine List.pairwise_cons.2 ⟨fun z hz => ?_, h⟩
      rcases List.mem_cons.1 hz with rfl | hz
      · exact hxy
      · exact ht _ _ _ hxy (h1 z hz)
    · rename_i hxy
      refine List.pairwise_cons.2 ⟨fun z hz => ?_, ins_sorted o ht h2 (fun w hw => hx w (List.mem_cons_of_mem _ hw))⟩
      rcases mem_ins.1 hz with rfl | hz
      · exact hx y (List.mem_cons_self) (by simpa using hxy)
      · exact h1 z hz

theorem Rep.nil : Rep ah [] [] := ⟨.refl _, fun i a p _ h => by simp at h, .nil⟩
theorem Rep.length {es S : List β} (h : Rep ah es S) : es.length = S.length := h.1.length_eq

theorem heap_push {es : List β} (h : Heap ah es) (x : β) : HU ah (es ++ [x]) es.length := by
  refine ⟨fun j a p hj hne ha hp => ?_, fun j a p hj hl hjl ha hp => ?_⟩
  · have hlt : j < (es ++ [x]).length := (List.getElem?_eq_some_iff.1 ha).1
    simp at hlt
    rw [List.getElem?_append_left (by omega)] at ha hp
    exact h j a p hj ha hp
  · have hlt : j < (es ++ [x]).length := (List.getElem?_eq_some_iff.1 ha).1
    simp at hlt; omega

theorem Rep.push (o : Ord ah) (ht : ∀ a b c, ah a b = true → ah b c = true → ah a c = true) {es S : List β} (h : Rep ah es S) {x : β} (hx : ∀ y ∈ S, ah x y = false → ah y x = true) : Rep ah (up ah es.length (es ++ [x]) es.length) (ins ah x S) := by
  refine ⟨(up_perm _ _ _).trans ?_, up_heap o _ _ _ (Nat.le_refl _) (heap_push h.2.1 x), ins_sorted o ht h.2.2 hx⟩
  refine List.Perm.trans ?_ (ins_perm x S).symm
  exact List.perm_append_comm.trans (List.Perm.cons x h.1)

theorem Rep.head (o : Ord ah) {es S : List β} {s z : β} (h : Rep ah es (s :: S)) (hz : es[0]? = some z) : z = s := by
  have hs : s ∈ es := h.1.mem_iff.2 List.mem_cons_self
  obtain ⟨i, hi⟩ := List.getElem?_of_mem hs
  have h1 := h.2.1.first o hz i s hi
  have hzm : z ∈ s :: S := h.1.mem_iff.1 (List.mem_of_getElem? hz)
  rcases List.mem_cons.1 hzm with h2 | h2
  · exact h2
  · have := (List.pairwise_cons.1 h.2.2).1 z h2
    rw [h1] at this; cases this

/-- what is left when the first is taken: the last in its place, and down -/
def pop (ah : β → β → Bool) (es : List β) : List β := match es.getLast? with
  | none => []
  | some l => down ah es.length ((es.set 0 l).dropLast) 0

theorem dropLast_perm : ∀ {es : List β} {z l : β}, es[0]? = some z → es.getLast? = some l → (z :: (es.set 0 l).dropLast).Perm es
  | [], _, _, h, _ => by simp at h
  | [a], z, l, h, hl => by simp at h hl; subst h; subst hl; simp
  | a :: b :: t, z, l, h, hl => by
    simp at h; subst h
    have hl' : (b :: t).getLast? = some l := by simpa using hl
    have hne : b :: t ≠ [] := by simp
    have e : (b :: t) = (b :: t).dropLast ++ [l] := by
      rw [List.getLast?_eq_some_getLast hne, Option.some.injEq] at hl'
      rw [← hl', List.dropLast_concat_getLast]
    have : ((a :: b :: t).set 0 l).dropLast = l :: (b :: t).dropLast := by simp
    rw [this]
    refine List.Perm.cons a ?_
    conv => rhs; rw [e]
    exact (List.perm_append_comm (l₁ := [l])).trans (.refl _)

theorem heap_dropLast {es : List β} (h : Heap ah es) (l : β) : HD ah ((es.set 0 l).dropLast) 0 := by
  have get : ∀ (j : Nat) (a : β), 0 < j → ((es.set 0 l).dropLast)[j]? = some a → es[j]? = some a := fun j a hj ha => by
    rw [List.getElem?_dropLast] at ha
    split at ha
    · rwa [List.getElem?_set_ne (by omega)] at ha
    · cases ha
  refine ⟨fun j a p hj hne ha hp => h j a p hj (get j a hj ha) (get _ p (by omega) hp), fun j a p hj h0 => by omega⟩

theorem Rep.pop (o : Ord ah) {es S : List β} {s : β} (h : Rep ah es (s :: S)) : Rep ah (pop ah es) S := by
  have hlen := h.1.length_eq
  simp at hlen
  cases hes : es with
  | nil => simp [hes] at hlen
  | cons z t =>
    have hz : es[0]? = some z := by simp [hes]
    have hzs := h.head o hz
    subst hzs
    cases hl : es.getLast? with
    | none => simp [hes] at hl
    | some l =>
      have e : Hp.pop ah es = down ah es.length ((es.set 0 l).dropLast) 0 := by unfold Hp.pop; rw [hl]
      rw [← hes, e]
      refine ⟨(down_perm _ _ _).trans ?_, down_heap o _ _ _ (by simp) (heap_dropLast h.2.1 l), (List.pairwise_cons.1 h.2.2).2⟩
      exact List.Perm.cons_inv ((dropLast_perm hz hl).trans h.1)
end

/-! ### things that were pushed at a time -/
section
variable {α : Type} (lt : α → α → Bool)
def ahd (a b : α × Nat) : Bool := lt a.1 b.1 || (!lt b.1 a.1 && decide (a.2 < b.2))
variable {lt}
theorem ahd_ord (h : Ord lt) : Ord (ahd lt) := by
  refine ⟨fun a b hab => ?_, fun a b c hba hcb => ?_⟩
  · unfold ahd at *
    cases h1 : lt a.1 b.1 with
    | true => simp [h.asym _ _ h1]
    | false =>
      simp [h1] at hab ⊢
      refine ⟨hab.1, ?_⟩
      omega
  · unfold ahd at *
    simp only [Bool.or_eq_false_iff, Bool.and_eq_false_iff, Bool.not_eq_false', decide_eq_false_iff_not, Nat.not_lt] at *
    obtain ⟨h1, h2⟩ := hba
    obtain ⟨h3, h4⟩ := hcb
    refine ⟨h.trans _ _ _ h1 h3, ?_⟩
    rcases h2 with h2 | h2
    · -- a before b strictly
      left
      cases hac : lt a.1 c.1 with
      | true => rfl
      | false =>
        have hx := h.trans b.1 c.1 a.1 h3 hac
        rw [h2] at hx; cases hx
    · rcases h4 with h4 | h4
      · left
        cases hac : lt a.1 c.1 with
        | true => rfl
        | false =>
          have hy := h.trans c.1 a.1 b.1 hac h1
          rw [h4] at hy; cases hy
      · exact .inr (Nat.le_trans h2 h4)
theorem ahd_total {a b : α × Nat} (hne : a.2 ≠ b.2) (h : ahd lt a b = false) : ahd lt b a = true := by
  unfold ahd at *
  cases h1 : lt a.1 b.1 <;> cases h2 : lt b.1 a.1 <;> simp [h1, h2] at * ; omega
theorem ahd_trans (h : Ord lt) (a b c : α × Nat) (h1 : ahd lt a b = true) (h2 : ahd lt b c = true) : ahd lt a c = true := by
  have o := ahd_ord h
  cases h3 : ahd lt a c with
  | true => rfl
  | false =>
    -- c <= a, a <= b: c <= b, against b ahead of c
    have := o.trans c a b h3 (o.asym _ _ h1)
    rw [h2] at this; cases this
end
end Hp
