/- A heap in a list: sifting up and down, over any order. No program in sight. -/
namespace Hp

/-- asymmetric, and 'not ahead' goes on -/
structure Ord {β : Type} (ah : β → β → Bool) : Prop where
  asym : ∀ a b, ah a b = true → ah b a = false
  trans : ∀ a b c, ah b a = false → ah c b = false → ah c a = false

section
variable {β : Type} {ah : β → β → Bool}
theorem Ord.irrefl (h : Ord ah) (a : β) : ah a a = false := by
  cases e : ah a a with
  | false => rfl
  | true => exact (h.asym a a e).symm.trans e |>.symm ▸ rfl

def up (ah : β → β → Bool) : Nat → List β → Nat → List β
  | 0, es, _ => es
  | f + 1, es, i => if i = 0 then es else match es[i]?, es[(i - 1) / 2]? with
    | some a, some b => if ah a b then up ah f ((es.set i b).set ((i - 1) / 2) a) ((i - 1) / 2) else es
    | _, _ => es

def better (ah : β → β → Bool) (es : List β) (k i : Nat) : Nat := match es[k]?, es[i]? with
  | some a, some b => if ah a b then k else i
  | _, _ => i
def best (ah : β → β → Bool) (es : List β) (i : Nat) : Nat := better ah es (2 * i + 2) (better ah es (2 * i + 1) i)
def down (ah : β → β → Bool) : Nat → List β → Nat → List β
  | 0, es, _ => es
  | f + 1, es, i => if best ah es i = i then es else match es[i]?, es[best ah es i]? with
    | some a, some b => down ah f ((es.set i b).set (best ah es i) a) (best ah es i)
    | _, _ => es

def Heap (ah : β → β → Bool) (es : List β) : Prop := ∀ i a p, 0 < i → es[i]? = some a → es[(i - 1) / 2]? = some p → ah a p = false
/-- a heap but at i, which may stand too low -/
def HU (ah : β → β → Bool) (es : List β) (i : Nat) : Prop :=
  (∀ j a p, 0 < j → j ≠ i → es[j]? = some a → es[(j - 1) / 2]? = some p → ah a p = false) ∧
  (∀ j a p, 0 < j → 0 < i → (j - 1) / 2 = i → es[j]? = some a → es[(i - 1) / 2]? = some p → ah a p = false)
/-- a heap but at i, which may stand too high -/
def HD (ah : β → β → Bool) (es : List β) (i : Nat) : Prop :=
  (∀ j a p, 0 < j → (j - 1) / 2 ≠ i → es[j]? = some a → es[(j - 1) / 2]? = some p → ah a p = false) ∧
  (∀ j a p, 0 < j → 0 < i → (j - 1) / 2 = i → es[j]? = some a → es[(i - 1) / 2]? = some p → ah a p = false)

theorem get_swap (es : List β) {i p : Nat} {a b : β} (ha : es[i]? = some a) (hb : es[p]? = some b) (_ : i ≠ p) (j : Nat) :
    ((es.set i b).set p a)[j]? = if j = p then some a else if j = i then some b else es[j]? := by
  have hi : i < es.length := (List.getElem?_eq_some_iff.1 ha).1
  have hp : p < es.length := (List.getElem?_eq_some_iff.1 hb).1
  rw [List.getElem?_set]
  by_cases h1 : p = j
  · subst h1; simp [hp]
  · rw [if_neg h1, if_neg (Ne.symm h1), List.getElem?_set]
    by_cases h2 : i = j
    · subst h2; simp [hi]
    · rw [if_neg h2, if_neg (Ne.symm h2)]

theorem swap_perm (es : List β) {i p : Nat} {a b : β} (ha : es[i]? = some a) (hb : es[p]? = some b) (_ : i ≠ p) : ((es.set i b).set p a).Perm es := by
  have hi : i < es.length := (List.getElem?_eq_some_iff.1 ha).1
  have hp : p < es.length := (List.getElem?_eq_some_iff.1 hb).1
  have ea : es[i] = a := (List.getElem?_eq_some_iff.1 ha).2
  have eb : es[p] = b := (List.getElem?_eq_some_iff.1 hb).2
  subst ea; subst eb
  exact List.set_set_perm hi hp

theorem up_zero (f : Nat) (es : List β) : up ah f es 0 = es := by cases f <;> simp [up]
theorem up_enough : ∀ (f g : Nat) (es : List β) (i : Nat), i ≤ f → i ≤ g → up ah f es i = up ah g es i
  | 0, g, es, i, hf, _ => by
    obtain rfl : i = 0 := by omega
    rw [up_zero, up_zero]
  | f + 1, 0, es, i, _, hg => by
    obtain rfl : i = 0 := by omega
    rw [up_zero, up_zero]
  | f + 1, g + 1, es, i, hf, hg => by
    unfold up
    by_cases hi : i = 0
    · rw [if_pos hi, if_pos hi]
    · rw [if_neg hi, if_neg hi]
      cases es[i]? with
      | none => rfl
      | some a => cases es[(i - 1) / 2]? with
        | none => rfl
        | some b =>
          simp only []
          cases ah a b with
          | false => rfl
          | true => exact up_enough f g _ _ (by omega) (by omega)
theorem up_stop {f : Nat} {es : List β} {i : Nat} {a b : β} (ha : es[i]? = some a) (hb : es[(i - 1) / 2]? = some b) (h : ah a b = false) : up ah f es i = es := by
  cases f with
  | zero => rfl
  | succ f =>
    unfold up
    split
    · rfl
    · rw [ha, hb]; simp [h]
theorem up_step {es : List β} {i : Nat} {a b : β} (hi : 0 < i) (ha : es[i]? = some a) (hb : es[(i - 1) / 2]? = some b) (h : ah a b = true) :
    up ah i es i = up ah ((i - 1) / 2) ((es.set i b).set ((i - 1) / 2) a) ((i - 1) / 2) := by
  obtain ⟨k, rfl⟩ : ∃ k, i = k + 1 := ⟨i - 1, by omega⟩
  conv => lhs; unfold up
  rw [if_neg (by omega), ha, hb]
  simp only [h, if_true]
  exact up_enough _ _ _ _ (by omega) (Nat.le_refl _)
theorem up_perm (f : Nat) : ∀ (es : List β) (i : Nat), (up ah f es i).Perm es := by
  induction f with
  | zero => exact fun _ _ => .refl _
  | succ f ih =>
    intro es i
    unfold up
    split
    · exact .refl _
    · rename_i hi
      split
      · rename_i a b ha hb
        split
        · exact (ih _ _).trans (swap_perm es ha hb (by omega))
        · exact .refl _
      · exact .refl _

theorem up_heap (o : Ord ah) (f : Nat) : ∀ (es : List β) (i : Nat), i ≤ f → HU ah es i → Heap ah (up ah f es i) := by
  induction f with
  | zero =>
    intro es i hi h j a p hj ha hp
    obtain rfl : i = 0 := by omega
    exact h.1 j a p hj (by omega) ha hp
  | succ f ih =>
    intro es i hif h
    unfold up
    split
    · rename_i hi
      subst hi
      intro j a p hj ha hp
      exact h.1 j a p hj (by omega) ha hp
    · rename_i hi
      split
      · rename_i a b ha hb
        have hne : i ≠ (i - 1) / 2 := by omega
        split
        · rename_i hab
          have g := get_swap es ha hb hne
          refine ih _ _ (by omega) ⟨?_, ?_⟩
          · intro j x y hj hjp hx hy
            rw [g] at hx hy
            rw [if_neg hjp] at hx
            by_cases hji : j = i
            · subst hji
              rw [if_pos rfl] at hx hy
              cases hx; cases hy
              exact o.asym _ _ hab
            · rw [if_neg hji] at hx
              by_cases hpi : (j - 1) / 2 = i
              · rw [if_neg (by omega), if_pos hpi] at hy
                cases hy
                exact h.2 j x b hj (by omega) hpi hx hb
              · by_cases hpp : (j - 1) / 2 = (i - 1) / 2
                · rw [if_pos hpp] at hy
                  cases hy
                  exact o.trans a b x (o.asym _ _ hab) (h.1 j x b hj hji hx (by rw [hpp]; exact hb))
                · rw [if_neg hpp, if_neg hpi] at hy
                  exact h.1 j x y hj hji hx hy
          · intro j x y hj hp0 hjp hx hy
            rw [g] at hx hy
            rw [if_neg (by omega), if_neg (by omega)] at hy
            rw [if_neg (by omega)] at hx
            have hby : ah b y = false := h.1 ((i - 1) / 2) b y hp0 (by omega) hb hy
            by_cases hji : j = i
            · rw [if_pos hji] at hx
              cases hx; exact hby
            · rw [if_neg hji] at hx
              exact o.trans y b x hby (h.1 j x b hj hji hx (by rw [hjp]; exact hb))
        · rename_i hab
          intro j x y hj hx hy
          by_cases hji : j = i
          · subst hji
            rw [ha] at hx; rw [hb] at hy
            cases hx; cases hy
            simpa using hab
          · exact h.1 j x y hj hji hx hy
      · rename_i hno
        intro j x y hj hx hy
        by_cases hji : j = i
        · subst hji; exact (hno x y hx hy).elim
        · exact h.1 j x y hj hji hx hy

theorem better_cases (es : List β) (k i : Nat) : (better ah es k i = i ∧ ∀ a b, es[k]? = some a → es[i]? = some b → ah a b = false) ∨
    (better ah es k i = k ∧ ∃ a b, es[k]? = some a ∧ es[i]? = some b ∧ ah a b = true) := by
  unfold better
  cases ha : es[k]? with
  | none => exact .inl ⟨rfl, fun _ _ h => by cases h⟩
  | some a =>
    cases hb : es[i]? with
    | none => exact .inl ⟨rfl, fun _ _ _ h => by cases h⟩
    | some b =>
      cases h : ah a b with
      | true => exact .inr ⟨by simp [h], a, b, rfl, rfl, h⟩
      | false => exact .inl ⟨by simp [h], fun x y hx hy => by cases hx; cases hy; exact h⟩

/-- the best of i and its children: no child is ahead of it; it is i or a child that is ahead of i -/
theorem best_spec (o : Ord ah) (es : List β) (i : Nat) {c : β} (hi : es[i]? = some c) :
    ∃ m, es[best ah es i]? = some m ∧ (∀ j a, j = 2 * i + 1 ∨ j = 2 * i + 2 → es[j]? = some a → ah a m = false) ∧
      ((best ah es i = i ∧ m = c) ∨ ((best ah es i = 2 * i + 1 ∨ best ah es i = 2 * i + 2) ∧ ah m c = true)) := by
  unfold best
  rcases better_cases (ah := ah) es (2 * i + 1) i with ⟨e1, h1⟩ | ⟨e1, a, b, ha, hb, h1⟩
  · rw [e1]
    rcases better_cases (ah := ah) es (2 * i + 2) i with ⟨e2, h2⟩ | ⟨e2, a, b, ha, hb, h2⟩
    · rw [e2]
      exact ⟨c, hi, fun j x hj hx => by
        rcases hj with rfl | rfl
        · exact h1 x c hx hi
        · exact h2 x c hx hi, .inl ⟨rfl, rfl⟩⟩
    · rw [e2]
      have : b = c := Option.some.inj (hb.symm.trans hi)
      subst this
      exact ⟨a, ha, fun j x hj hx => by
        rcases hj with rfl | rfl
        · exact o.trans a b x (o.asym _ _ h2) (h1 x b hx hi)
        · have : x = a := Option.some.inj (hx.symm.trans ha)
          subst this; exact o.irrefl x, .inr ⟨.inr rfl, h2⟩⟩
  · rw [e1]
    have : b = c := Option.some.inj (hb.symm.trans hi)
    subst this
    rcases better_cases (ah := ah) es (2 * i + 2) (2 * i + 1) with ⟨e2, h2⟩ | ⟨e2, a', b', ha', hb', h2⟩
    · rw [e2]
      exact ⟨a, ha, fun j x hj hx => by
        rcases hj with rfl | rfl
        · have : x = a := Option.some.inj (hx.symm.trans ha)
          subst this; exact o.irrefl x
        · exact h2 x a hx ha, .inr ⟨.inl rfl, h1⟩⟩
    · rw [e2]
      have : b' = a := Option.some.inj (hb'.symm.trans ha)
      subst this
      refine ⟨a', ha', fun j x hj hx => ?_, .inr ⟨.inr rfl, ?_⟩⟩
      · rcases hj with rfl | rfl
        · have : x = b' := Option.some.inj (hx.symm.trans ha)
          subst this; exact o.asym _ _ h2
        · have : x = a' := Option.some.inj (hx.symm.trans ha')
          subst this; exact o.irrefl x
      · cases hc : ah a' b with
        | true => rfl
        | false => exact (o.trans b a' b' hc (o.asym _ _ h2)).symm.trans h1 |>.symm ▸ rfl

theorem down_enough : ∀ (f g : Nat) (es : List β) (i : Nat), es.length ≤ f + i → es.length ≤ g + i → down ah f es i = down ah g es i := by
  intro f
  induction f with
  | zero =>
    intro g es i hf hg
    cases g with
    | zero => rfl
    | succ g =>
      have hn : es[i]? = none := List.getElem?_eq_none_iff.2 (by omega)
      have hb : best ah es i = i := by
        have h1 : es[2 * i + 1]? = none := List.getElem?_eq_none_iff.2 (by omega)
        have h2 : es[2 * i + 2]? = none := List.getElem?_eq_none_iff.2 (by omega)
        simp [best, better, h1, h2]
      simp [down, hb]
  | succ f ih =>
    intro g es i hf hg
    cases g with
    | zero =>
      have hb : best ah es i = i := by
        have h1 : es[2 * i + 1]? = none := List.getElem?_eq_none_iff.2 (by omega)
        have h2 : es[2 * i + 2]? = none := List.getElem?_eq_none_iff.2 (by omega)
        simp [best, better, h1, h2]
      simp [down, hb]
    | succ g =>
      unfold down
      by_cases hb : best ah es i = i
      · rw [if_pos hb, if_pos hb]
      · rw [if_neg hb, if_neg hb]
        have hgt : i < best ah es i := by
          unfold best
          rcases better_cases (ah := ah) es (2 * i + 1) i with ⟨e1, _⟩ | ⟨e1, _⟩ <;> rw [e1]
          · rcases better_cases (ah := ah) es (2 * i + 2) i with ⟨e2, _⟩ | ⟨e2, _⟩
            · exact absurd (by unfold best; rw [e1]; exact e2) hb
            · rw [e2]; omega
          · rcases better_cases (ah := ah) es (2 * i + 2) (2 * i + 1) with ⟨e2, _⟩ | ⟨e2, _⟩ <;> rw [e2] <;> omega
        cases es[i]? with
        | none => rfl
        | some a => cases es[best ah es i]? with
          | none => rfl
          | some b => exact ih _ _ _ (by simp; omega) (by simp; omega)
theorem down_stop {f : Nat} {es : List β} {i : Nat} (h : best ah es i = i) : down ah f es i = es := by
  cases f with
  | zero => rfl
  | succ f => simp [down, h]
theorem best_gt {es : List β} {i : Nat} (h : best ah es i ≠ i) : i < best ah es i ∧ best ah es i < es.length := by
  have hb : ∀ k m, m ≤ k → better ah es k m = m ∨ (better ah es k m = k ∧ k < es.length) := fun k m _ => by
    rcases better_cases (ah := ah) es k m with ⟨e, _⟩ | ⟨e, a, b, ha, _⟩
    · exact .inl e
    · exact .inr ⟨e, (List.getElem?_eq_some_iff.1 ha).1⟩
  unfold best at *
  rcases hb (2 * i + 1) i (by omega) with h1 | ⟨h1, l1⟩
  · rw [h1] at h ⊢
    rcases hb (2 * i + 2) i (by omega) with h2 | ⟨h2, l2⟩
    · exact absurd h2 h
    · rw [h2]; omega
  · rw [h1] at h ⊢
    rcases hb (2 * i + 2) (2 * i + 1) (by omega) with h2 | ⟨h2, l2⟩ <;> rw [h2] <;> omega
theorem down_step {n : Nat} {es : List β} {i : Nat} {a b : β} (hn : es.length ≤ n) (hne : best ah es i ≠ i) (ha : es[i]? = some a) (hb : es[best ah es i]? = some b) :
    down ah n es i = down ah n ((es.set i b).set (best ah es i) a) (best ah es i) := by
  have hlt := best_gt hne
  cases n with
  | zero => omega
  | succ n =>
    conv => lhs; unfold down
    rw [if_neg hne, ha, hb]
    exact down_enough _ _ _ _ (by simp; omega) (by simp; omega)
theorem down_perm (f : Nat) : ∀ (es : List β) (i : Nat), (down ah f es i).Perm es := by
  induction f with
  | zero => exact fun _ _ => .refl _
  | succ f ih =>
    intro es i
    unfold down
    split
    · exact .refl _
    · rename_i hi
      split
      · rename_i a b ha hb
        exact (ih _ _).trans (swap_perm es ha hb (Ne.symm hi))
      · exact .refl _

theorem down_heap (o : Ord ah) (f : Nat) : ∀ (es : List β) (i : Nat), es.length ≤ f + i → HD ah es i → Heap ah (down ah f es i) := by
  induction f with
  | zero =>
    intro es i hl h
    show Heap ah es
    intro j a p hj ha hp
    by_cases hpi : (j - 1) / 2 = i
    · have := (List.getElem?_eq_some_iff.1 hp).1
      omega
    · exact h.1 j a p hj hpi ha hp
  | succ f ih =>
    intro es i hl h
    unfold down
    cases hc : es[i]? with
    | none =>
      have hge : es.length ≤ i := List.getElem?_eq_none_iff.1 hc
      have hheap : Heap ah es := fun j a p hj ha hp => by
        by_cases hpi : (j - 1) / 2 = i
        · have := (List.getElem?_eq_some_iff.1 hp).1
          omega
        · exact h.1 j a p hj hpi ha hp
      split
      · exact hheap
      · exact hheap
    | some c =>
      obtain ⟨m, hm, hall, hcase⟩ := best_spec o es i hc
      rcases hcase with ⟨hb, rfl⟩ | ⟨hb, hmc⟩
      · rw [if_pos hb]
        intro j a p hj ha hp
        by_cases hpi : (j - 1) / 2 = i
        · rw [hpi, hc] at hp
          cases hp
          exact hall j a (by omega) ha
        · exact h.1 j a p hj hpi ha hp
      · have hne : best ah es i ≠ i := by omega
        rw [if_neg hne]
        rw [hm]
        simp only []
        have hgt : i < best ah es i := by omega
        have hpar : (best ah es i - 1) / 2 = i := by omega
        generalize hk : best ah es i = k at *
        have g := get_swap es hc hm (Ne.symm hne)
        refine ih _ _ (by simp; omega) ⟨?_, ?_⟩
        · intro j x y hj hjk hx hy
          rw [g] at hx hy
          rw [if_neg hjk] at hy
          by_cases hjk2 : j = k
          · subst hjk2
            rw [if_pos rfl] at hx
            rw [hpar, if_pos rfl] at hy
            cases hx; cases hy
            exact o.asym _ _ hmc
          · rw [if_neg hjk2] at hx
            by_cases hji : j = i
            · subst hji
              rw [if_pos rfl] at hx
              rw [if_neg (by omega)] at hy
              cases hx
              exact h.2 k m y (by omega) hj hpar hm hy
            · rw [if_neg hji] at hx
              by_cases hpi : (j - 1) / 2 = i
              · rw [if_pos hpi] at hy
                cases hy
                exact hall j x (by omega) hx
              · rw [if_neg hpi] at hy
                exact h.1 j x y hj hpi hx hy
        · intro j x y hj hk0 hjk hx hy
          rw [g] at hx hy
          rw [hpar, if_neg (by omega), if_pos rfl] at hy
          rw [if_neg (by omega), if_neg (by omega)] at hx
          cases hy
          exact h.1 j x m hj (by omega) hx (by rw [hjk]; exact hm)

/-- nobody is ahead of the first -/
theorem Heap.first (o : Ord ah) {es : List β} (h : Heap ah es) {z : β} (hz : es[0]? = some z) : ∀ (i : Nat) (a : β), es[i]? = some a → ah a z = false := by
  intro i
  induction i using Nat.strongRecOn with
  | _ i ih =>
    intro a ha
    by_cases hi : i = 0
    · subst hi
      rw [hz] at ha; cases ha; exact o.irrefl z
    · have hlt : (i - 1) / 2 < es.length := by have := (List.getElem?_eq_some_iff.1 ha).1; omega
      have hp : es[(i - 1) / 2]? = some es[(i - 1) / 2] := List.getElem?_eq_getElem hlt
      exact o.trans z _ a (ih _ (by omega) _ hp) (h i a _ (by omega) ha hp)
theorem up_length (f : Nat) (es : List β) (i : Nat) : (up ah f es i).length = es.length := (up_perm f es i).length_eq
theorem down_length (f : Nat) (es : List β) (i : Nat) : (down ah f es i).length = es.length := (down_perm f es i).length_eq
end
end Hp
