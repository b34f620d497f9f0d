/- A part of the proof: walks of the program's functions, and the rules by which they go. -/
import Derived.Test.YtkldhmbmahgnjaaGreatDoorBd87140dc
import Derived.Test.YtkldhmbmahgnjaaGreatDoorBd75cf67b
import Derived.Laws.CopyRow
import Derived.Maps.RangeRun
import Derived.Lib.AppendStr
import Derived.Laws.Externs
import Derived.Lib.BufferRead
import Derived.OpenShut
import Derived.ChangeSame
import Derived.Test.YtkldhmbmahgnjaaGreatDoorProg
import Derived.Shelf.Small.Bits
import Derived.Shelf.Small.Strs
import Derived.Shelf.Strconv.Itoa0
import Derived.Shelf.Sort.Plain
import Derived.Shelf.Slices.CompactS
import Derived.Shelf.Slices.Cells
import Derived.Shelf.Slices.In.SortNone
namespace SX

/-- a paint: 0 none, 1 left, 2 right, 3 both, 7 stale (both, and by way of a base) -/
def isV (v : Nat) : Prop := v = 0 ∨ v = 1 ∨ v = 2 ∨ v = 3 ∨ v = 7
theorem isV.or {a b : Nat} (ha : isV a) (hb : isV b) : isV (a ||| b) := by
  rcases ha with rfl | rfl | rfl | rfl | rfl <;> rcases hb with rfl | rfl | rfl | rfl | rfl <;> (unfold isV; decide)
theorem isV.lt {a : Nat} (h : isV a) : a < 8 := by rcases h with rfl | rfl | rfl | rfl | rfl <;> decide
/-- what goes on to the parents -/
def pOut (v : Nat) : Nat := if v = 3 then 7 else v
theorem isV.out {a : Nat} (h : isV a) : isV (pOut a) := by rcases h with rfl | rfl | rfl | rfl | rfl <;> (unfold isV pOut; decide)
theorem pOut_ne {a : Nat} (h : a ≠ 0) : pOut a ≠ 0 := by unfold pOut; split <;> omega
def stepP (g : List (List Int)) (c : Nat) (P : Nat → Nat) : Nat → Nat := fun j => if (j : Int) ∈ rowOf g c then P j ||| pOut (P c) else P j
def pF (g : List (List Int)) : Nat → (Nat → Nat) → (Nat → Nat)
  | 0, P => P
  | c + 1, P => pF g c (stepP g c P)
def seedP (l r : List Int) : Nat → Nat := fun j => (if (j : Int) ∈ l then 1 else 0) ||| (if (j : Int) ∈ r then 2 else 0)
theorem seedP_V (l r : List Int) (j : Nat) : isV (seedP l r j) := by unfold seedP isV; split <;> split <;> decide
theorem stepP_V {g : List (List Int)} {c : Nat} {P : Nat → Nat} (h : ∀ j, isV (P j)) (j : Nat) : isV (stepP g c P j) := by
  unfold stepP
  split
  · exact (h j).or (h c).out
  · exact h j
theorem stepP_zero {g : List (List Int)} {c : Nat} {P : Nat → Nat} (h : P c = 0) : stepP g c P = P := by
  funext j
  unfold stepP
  rw [h]
  split
  · show P j ||| 0 = P j
    exact Nat.or_zero _
  · rfl
theorem stepP_ge {g : List (List Int)} (hg : Good g) {c : Nat} {P : Nat → Nat} {j : Nat} (h : c ≤ j) : stepP g c P j = P j := by
  unfold stepP
  rw [if_neg]
  intro hj
  have := row_good hg hj
  omega
theorem pF_ge {g : List (List Int)} (hg : Good g) : ∀ {m : Nat} {P : Nat → Nat} {j : Nat}, m ≤ j → pF g m P j = P j
  | 0, _, _, _ => rfl
  | m + 1, P, j, h => by
    show pF g m (stepP g m P) j = _
    rw [pF_ge hg (by omega), stepP_ge hg (by omega)]
theorem pF_V {g : List (List Int)} : ∀ {m : Nat} {P : Nat → Nat}, (∀ j, isV (P j)) → ∀ j, isV (pF g m P j)
  | 0, _, h => h
  | m + 1, P, h => by
    show ∀ j, isV (pF g m (stepP g m P) j)
    exact pF_V (stepP_V h)
theorem pF_skip {g : List (List Int)} {P : Nat → Nat} {c : Nat} : ∀ {m : Nat}, c ≤ m → (∀ i, c ≤ i → i < m → P i = 0) → pF g m P = pF g c P
  | 0, h, _ => by obtain rfl : c = 0 := by omega
                  rfl
  | m + 1, h, hz => by
    by_cases e : c = m + 1
    · rw [e]
    · show pF g m (stepP g m P) = _
      rw [stepP_zero (hz m (by omega) (by omega))]
      exact pF_skip (by omega) fun i h1 h2 => hz i h1 (by omega)
theorem pF_pop {g : List (List Int)} {P : Nat → Nat} {m c : Nat} (hc : c < m) (hz : ∀ i, c < i → i < m → P i = 0) : pF g m P = pF g c (stepP g c P) := by
  rw [pF_skip (c := c + 1) (by omega) (fun i h1 h2 => hz i (by omega) h2)]; rfl
/-- where all that is to come is stale it stays so -/
theorem pF_stale {g : List (List Int)} : ∀ {m : Nat} {P : Nat → Nat}, (∀ j, isV (P j)) → (∀ k, k < m → P k = 0 ∨ P k = 7) → ∀ k, k < m → pF g m P k = 0 ∨ pF g m P k = 7
  | 0, _, _, _, k, h => by omega
  | m + 1, P, hV, hP, k, hk => by
    show pF g m (stepP g m P) k = 0 ∨ pF g m (stepP g m P) k = 7
    have h1 : ∀ j, (P j = 0 ∨ P j = 7) → stepP g m P j = 0 ∨ stepP g m P j = 7 := fun j hj => by
      unfold stepP
      split
      · rcases hP m (by omega) with h | h <;> rcases hj with e | e <;> rw [h, e] <;> decide
      · exact hj
    have h2 : ∀ (m' : Nat) (Q : Nat → Nat), (∀ j, j < m' → Q j = 0 ∨ Q j = 7) → ∀ j, (Q j = 0 ∨ Q j = 7) → pF g m' Q j = 0 ∨ pF g m' Q j = 7 := fun m' => by
      induction m' with
      | zero => exact fun Q _ j hj => hj
      | succ m' ih =>
        intro Q hQ j hj
        have h3 : ∀ j, (Q j = 0 ∨ Q j = 7) → stepP g m' Q j = 0 ∨ stepP g m' Q j = 7 := fun j hj => by
          unfold stepP
          split
          · rcases hQ m' (by omega) with h | h <;> rcases hj with e | e <;> rw [h, e] <;> decide
          · exact hj
        exact ih (stepP g m' Q) (fun i hi => h3 i (hQ i (by omega))) j (h3 j hj)
    exact h2 m (stepP g m P) (fun j hj => h1 j (hP j (by omega))) k (h1 k (hP k hk))

/-! the three bits -/
def isL (v : Nat) : Bool := v == 1 || v == 3 || v == 7
def isR (v : Nat) : Bool := v == 2 || v == 3 || v == 7
theorem bit_or {a b : Nat} (ha : isV a) (hb : isV b) : isL (a ||| b) = (isL a || isL b) ∧ isR (a ||| b) = (isR a || isR b) ∧ (a ||| b == 7) = (a == 7 || b == 7) := by
  rcases ha with rfl | rfl | rfl | rfl | rfl <;> rcases hb with rfl | rfl | rfl | rfl | rfl <;> decide
theorem bit_out {a : Nat} (ha : isV a) : isL (pOut a) = isL a ∧ isR (pOut a) = isR a ∧ (pOut a == 7) = (isL a && isR a) := by
  rcases ha with rfl | rfl | rfl | rfl | rfl <;> decide
theorem bit_three {a : Nat} (ha : isV a) : (a = 3) ↔ (isL a && isR a) = true ∧ (a == 7) = false := by
  rcases ha with rfl | rfl | rfl | rfl | rfl <;> decide
theorem pF_L {g : List (List Int)} : ∀ {m : Nat} {P : Nat → Nat}, (∀ j, isV (P j)) → (fun j => isL (pF g m P j)) = upF g m (fun j => isL (P j))
  | 0, _, _ => rfl
  | m + 1, P, h => by
    show (fun j => isL (pF g m (stepP g m P) j)) = upF g m (stepUp g m fun j => isL (P j))
    rw [pF_L (stepP_V h)]
    congr 1
    funext j
    unfold stepP stepUp
    split
    · rename_i hj
      rw [(bit_or (h j) (h m).out).1, (bit_out (h m)).1, decide_eq_true hj, Bool.and_true]
    · rename_i hj
      rw [decide_eq_false hj, Bool.and_false, Bool.or_false]
theorem pF_R {g : List (List Int)} : ∀ {m : Nat} {P : Nat → Nat}, (∀ j, isV (P j)) → (fun j => isR (pF g m P j)) = upF g m (fun j => isR (P j))
  | 0, _, _ => rfl
  | m + 1, P, h => by
    show (fun j => isR (pF g m (stepP g m P) j)) = upF g m (stepUp g m fun j => isR (P j))
    rw [pF_R (stepP_V h)]
    congr 1
    funext j
    unfold stepP stepUp
    split
    · rename_i hj
      rw [(bit_or (h j) (h m).out).2.1, (bit_out (h m)).2.1, decide_eq_true hj, Bool.and_true]
    · rename_i hj
      rw [decide_eq_false hj, Bool.and_false, Bool.or_false]
theorem pF_T {g : List (List Int)} (hg : Good g) : ∀ {m : Nat} {P : Nat → Nat}, (∀ j, isV (P j)) → ∀ j, (pF g m P j == 7) = true ↔ (P j == 7) = true ∨ ∃ c, c < m ∧ (j : Int) ∈ rowOf g c ∧ (isL (pF g m P c) && isR (pF g m P c)) = true
  | 0, _, _, j => ⟨.inl, fun h => h.resolve_right (by rintro ⟨c, h, _⟩; omega)⟩
  | m + 1, P, h, j => by
    show (pF g m (stepP g m P) j == 7) = true ↔ _
    rw [pF_T hg (stepP_V h) j]
    have e0 : ∀ c, pF g (m + 1) P c = pF g m (stepP g m P) c := fun _ => rfl
    have em : pF g m (stepP g m P) m = P m := by rw [pF_ge hg (Nat.le_refl _), stepP_ge hg (Nat.le_refl _)]
    have e1 : (stepP g m P j == 7) = true ↔ (P j == 7) = true ∨ ((j : Int) ∈ rowOf g m ∧ (isL (P m) && isR (P m)) = true) := by
      unfold stepP
      split
      · rename_i hj
        rw [(bit_or (h j) (h m).out).2.2, (bit_out (h m)).2.2, Bool.or_eq_true]
        exact ⟨fun h => h.imp id fun h => ⟨hj, h⟩, fun h => h.imp id fun h => h.2⟩
      · rename_i hj
        exact ⟨.inl, fun h => h.resolve_right fun h => hj h.1⟩
    rw [e1]
    constructor
    · rintro ((h1 | ⟨h1, h2⟩) | ⟨c, hc, h1, h2⟩)
      · exact .inl h1
      · exact .inr ⟨m, by omega, h1, by rw [e0, em]; exact h2⟩
      · exact .inr ⟨c, by omega, h1, by rw [e0]; exact h2⟩
    · rintro (h1 | ⟨c, hc, h1, h2⟩)
      · exact .inl (.inl h1)
      · by_cases e : c = m
        · subst e
          rw [e0, em] at h2
          exact .inl (.inr ⟨h1, h2⟩)
        · exact .inr ⟨c, by omega, h1, by rw [e0] at h2; exact h2⟩
/-- what is reached from both sides -/
def bothS (g : List (List Int)) (l r : List Int) : Nat → Bool := fun j => anyUp g g.length l j && anyUp g g.length r j
theorem seed_L (l r : List Int) : (fun j => isL (seedP l r j)) = seedS l := funext fun j => by
  unfold seedP seedS
  by_cases h1 : (j : Int) ∈ l <;> by_cases h2 : (j : Int) ∈ r <;> simp [h1, h2, isL]
theorem seed_R (l r : List Int) : (fun j => isR (seedP l r j)) = seedS r := funext fun j => by
  unfold seedP seedS
  by_cases h1 : (j : Int) ∈ l <;> by_cases h2 : (j : Int) ∈ r <;> simp [h1, h2, isR]
theorem seed_T (l r : List Int) (j : Nat) : (seedP l r j == 7) = false := by
  unfold seedP
  by_cases h1 : (j : Int) ∈ l <;> by_cases h2 : (j : Int) ∈ r <;> simp [h1, h2]
theorem paint_best {g : List (List Int)} (hg : Good g) (l r : List Int) (j : Nat) : pF g g.length (seedP l r) j = 3 ↔ bestT g (bothS g l r) g.length j = true := by
  have hV := seedP_V l r
  have eb : ∀ c, (isL (pF g g.length (seedP l r) c) && isR (pF g g.length (seedP l r) c)) = bothS g l r c := fun c => by
    have e1 := congrFun (pF_L (g := g) (m := g.length) hV) c
    have e2 := congrFun (pF_R (g := g) (m := g.length) hV) c
    rw [seed_L] at e1
    rw [seed_R] at e2
    unfold bothS anyUp
    rw [← e1, ← e2]
  rw [bit_three (pF_V hV j), eb, best_iff]
  refine and_congr Iff.rfl ?_
  rw [← Bool.not_eq_true, pF_T hg hV, seed_T]
  constructor
  · intro h y hy h1 h2
    exact h (.inr ⟨y, hy, h2, by rw [eb]; exact h1⟩)
  · rintro h (h1 | ⟨c, hc, h1, h2⟩)
    · cases h1
    · rw [eb] at h2
      exact h c hc h2 h1

/-! the walk -/
abbrev PS := (Nat → Nat) × List Nat
def addP (s : PS) (c v : Nat) : PS := (fun j => if j = c then s.1 j ||| v else s.1 j, if s.1 c = 0 then insD c s.2 else s.2)
/-- how many in the queue are not stale -/
def frP (s : PS) : Nat := (s.2.filter fun k => decide (s.1 k < 4)).length
structure PI (n m : Nat) (s : PS) : Prop where
  falls : Falls s.2
  lt : ∀ q ∈ s.2, q < m
  seen : ∀ k, k < m → (s.1 k ≠ 0 ↔ k ∈ s.2)
  val : ∀ k, isV (s.1 k)
  top : ∀ k, n ≤ k → s.1 k = 0
theorem PI.add {n m : Nat} {s : PS} {c v : Nat} (h : PI n m s) (hc : c < m) (hm : m ≤ n) (hv : isV v) (h0 : v ≠ 0) : PI n m (addP s c v) := by
  have hne : s.1 c ||| v ≠ 0 := by
    have := h.val c
    rcases this with e | e | e | e | e <;> rcases hv with rfl | rfl | rfl | rfl | rfl <;> rw [e] <;> first | decide | exact absurd rfl h0
  refine ⟨?_, fun q hq => ?_, fun k hk => ?_, fun k => ?_, fun k hk => ?_⟩
  · show Falls (if s.1 c = 0 then insD c s.2 else s.2)
    split
    · rename_i h1
      exact insD_falls h.falls fun hq => (h.seen c hc).2 hq h1
    · exact h.falls
  · replace hq : q ∈ (if s.1 c = 0 then insD c s.2 else s.2) := hq
    split at hq
    · rcases mem_insD.1 hq with rfl | hq
      · exact hc
      · exact h.lt q hq
    · exact h.lt q hq
  · show (if k = c then s.1 k ||| v else s.1 k) ≠ 0 ↔ k ∈ (if s.1 c = 0 then insD c s.2 else s.2)
    by_cases e : k = c
    · subst e
      rw [if_pos rfl]
      refine ⟨fun _ => ?_, fun _ => hne⟩
      split
      · exact mem_insD.2 (.inl rfl)
      · rename_i h1; exact (h.seen k hk).1 h1
    · rw [if_neg e, h.seen k hk]
      split
      · rw [mem_insD]; exact ⟨.inr, fun h => h.resolve_left e⟩
      · rfl
  · show isV (if k = c then s.1 k ||| v else s.1 k)
    split
    · exact (h.val k).or hv
    · exact h.val k
  · show (if k = c then s.1 k ||| v else s.1 k) = 0
    rw [if_neg (by omega)]; exact h.top k hk
theorem filt_insD (p : Nat → Bool) (c : Nat) : ∀ l : List Nat, ((insD c l).filter p).length = (l.filter p).length + if p c = true then 1 else 0
  | [] => by unfold insD; rw [List.filter_cons]; split <;> simp
  | y :: l => by
    unfold insD
    split
    · rw [List.filter_cons (x := c)]
      split <;> simp
    · rw [List.filter_cons, List.filter_cons]
      have := filt_insD p c l
      split
      · rw [List.length_cons, this, List.length_cons]; omega
      · exact this
theorem filt_change {l : List Nat} (h : Falls l) {c : Nat} {p q : Nat → Bool} (hpq : ∀ k, k ≠ c → p k = q k) (hc : c ∈ l) (hp : p c = false) (hq : q c = true) : (l.filter q).length = (l.filter p).length + 1 := by
  induction l with
  | nil => cases hc
  | cons y l ih =>
    obtain ⟨h1, h2⟩ := List.pairwise_cons.1 h
    rw [List.filter_cons, List.filter_cons]
    by_cases e : y = c
    · subst e
      rw [if_pos hq, if_neg (by rw [hp]; exact Bool.false_ne_true), List.length_cons, List.filter_congr fun k hk => (hpq k (fun e => by have := h1 k hk; omega)).symm]
    · rw [hpq y e]
      have hc' : c ∈ l := (List.mem_cons.1 hc).resolve_left (fun h => e h.symm)
      have := ih h2 hc'
      split
      · rw [List.length_cons, List.length_cons, this]
      · exact this
theorem filt_same {l : List Nat} {c : Nat} {p q : Nat → Bool} (hpq : ∀ k, k ≠ c → p k = q k) (h : p c = q c) : (l.filter p).length = (l.filter q).length := by
  refine congrArg List.length (List.filter_congr fun k _ => ?_)
  by_cases e : k = c
  · rw [e]; exact h
  · exact hpq k e
/-- was it there and not stale; is it now -/
def pWas (s : PS) (c : Nat) : Bool := decide (s.1 c ≠ 0) && decide (s.1 c < 4)
def pIs (s : PS) (c v : Nat) : Bool := decide (s.1 c ||| v < 4)
theorem frP_add {n m : Nat} {s : PS} {c v : Nat} (h : PI n m s) (hc : c < m) (_hv : isV v) :
    (pIs s c v = true → pWas s c = false → frP (addP s c v) = frP s + 1) ∧ (pIs s c v = false → pWas s c = true → frP s = frP (addP s c v) + 1) ∧ (pIs s c v = pWas s c → frP (addP s c v) = frP s) := by
  have hP : ∀ k, k ≠ c → decide (s.1 k < 4) = decide ((addP s c v).1 k < 4) := fun k hk => by
    show _ = decide ((if k = c then s.1 k ||| v else s.1 k) < 4)
    rw [if_neg hk]
  have hPc : (addP s c v).1 c = s.1 c ||| v := if_pos rfl
  have hpc : decide ((addP s c v).1 c < 4) = pIs s c v := by rw [hPc]; rfl
  by_cases h0 : s.1 c = 0
  · have hq : (addP s c v).2 = insD c s.2 := if_pos h0
    have hw : pWas s c = false := by unfold pWas; rw [h0]; rfl
    have hcq : c ∉ s.2 := fun hm => (h.seen c hc).2 hm h0
    have e1 : frP (addP s c v) = frP s + if pIs s c v = true then 1 else 0 := by
      unfold frP
      rw [hq, filt_insD, hpc]
      congr 1
      rw [List.filter_congr fun k hk => (hP k (fun e => hcq (e ▸ hk))).symm]
    rw [hw]
    refine ⟨fun h1 _ => (by rw [e1, if_pos h1]), fun _ h2 => (by cases h2), fun h1 => (by rw [e1, if_neg (by rw [h1]; exact Bool.false_ne_true)]; rfl)⟩
  · have hq : (addP s c v).2 = s.2 := if_neg h0
    have hcq : c ∈ s.2 := (h.seen c hc).1 h0
    have hw : pWas s c = decide (s.1 c < 4) := by unfold pWas; rw [decide_eq_true h0, Bool.true_and]
    have h7 : pIs s c v = true → pWas s c = true := fun h1 => by
      rw [hw]
      unfold pIs at h1
      have h1 := of_decide_eq_true h1
      have hle : s.1 c ≤ s.1 c ||| v := Nat.left_le_or
      exact decide_eq_true (by omega)
    refine ⟨fun h1 h2 => (by rw [h7 h1] at h2; cases h2), fun h1 h2 => ?_, fun h1 => ?_⟩
    · unfold frP
      rw [hq]
      exact filt_change h.falls (p := fun k => decide ((addP s c v).1 k < 4)) (q := fun k => decide (s.1 k < 4)) (fun k hk => (hP k hk).symm) hcq (by rw [hpc]; exact h1) (by rw [← hw]; exact h2)
    · unfold frP
      rw [hq]
      exact filt_same (c := c) (fun k hk => (hP k hk).symm) (by rw [hpc, h1, hw])
def addRow (v : Nat) (s : PS) (l : List Int) : PS := l.foldl (fun s p => addP s p.toNat v) s
theorem addRow_succ {v : Nat} {s : PS} {l : List Int} {i : Nat} {c : Int} (h : l[i]? = some c) : addRow v s (l.take (i + 1)) = addP (addRow v s (l.take i)) c.toNat v := by
  unfold addRow
  rw [List.take_add_one, h, List.foldl_append]; rfl
theorem PI.addRow {n m v : Nat} (hm : m ≤ n) (hv : isV v) (h0 : v ≠ 0) : ∀ {l : List Int} {s : PS}, PI n m s → (∀ p ∈ l, 0 ≤ p ∧ p < m) → PI n m (addRow v s l) ∧ ∀ j, (SX.addRow v s l).1 j = if (j : Int) ∈ l then s.1 j ||| v else s.1 j
  | [], s, h, _ => ⟨h, fun j => by simp [SX.addRow]⟩
  | c :: l, s, h, hl => by
    have hc := hl c (List.mem_cons_self ..)
    obtain ⟨k, rfl⟩ : ∃ k : Nat, c = k := ⟨c.toNat, by omega⟩
    have h1 := h.add (c := k) (v := v) (by omega) hm hv h0
    obtain ⟨k1, k2⟩ := PI.addRow hm hv h0 h1 (fun p hp => hl p (List.mem_cons_of_mem _ hp))
    have e : SX.addRow v s ((k : Int) :: l) = SX.addRow v (addP s k v) l := rfl
    rw [e]
    refine ⟨k1, fun j => ?_⟩
    rw [k2]
    show (if (j : Int) ∈ l then (if j = k then s.1 j ||| v else s.1 j) ||| v else if j = k then s.1 j ||| v else s.1 j) = _
    by_cases e1 : j = k
    · subst e1
      rw [if_pos rfl, if_pos (List.mem_cons_self ..), Nat.or_assoc, Nat.or_self, ite_self]
    · rw [if_neg e1]
      have : ((j : Int) ∈ (k : Int) :: l) ↔ (j : Int) ∈ l := by rw [List.mem_cons]; exact ⟨fun h => h.resolve_left (by omega), .inr⟩
      simp only [this]
theorem PI.start (n : Nat) : PI n n (fun _ => 0, []) := ⟨.nil, fun _ h => (by cases h), fun k _ => ⟨fun h => absurd rfl h, fun h => (by cases h)⟩, fun _ => .inl rfl, fun _ _ => rfl⟩
theorem PI.pop {n m c : Nat} {P : Nat → Nat} {Q : List Nat} (h : PI n m (P, c :: Q)) : PI n c (P, Q) := by
  obtain ⟨h1, h2⟩ := List.pairwise_cons.1 h.falls
  refine ⟨h2, fun q hq => h1 q hq, fun k hk => ?_, h.val, h.top⟩
  have hc := h.lt c (List.mem_cons_self ..)
  refine (h.seen k (by omega)).trans ?_
  show k ∈ c :: Q ↔ k ∈ Q
  rw [List.mem_cons]
  exact ⟨fun h => h.resolve_left (by omega), .inr⟩
/-- the walk as a whole: at the head of a round -/
structure PW (g : List (List Int)) (l r : List Int) (m : Nat) (s : PS) (F : Nat → Bool) : Prop where
  pi : PI g.length m s
  le : m ≤ g.length
  fin : pF g g.length (seedP l r) = pF g m s.1
  found : ∀ k, F k = (decide (m ≤ k) && decide (s.1 k = 3))
/-- a round: c comes out -/
theorem PW.step {g : List (List Int)} (hg : Good g) {l r : List Int} {m c : Nat} {P : Nat → Nat} {Q : List Nat} {F : Nat → Bool} (h : PW g l r m (P, c :: Q) F) :
    PI g.length c (P, Q) ∧ P c ≠ 0 ∧ c < m ∧ PW g l r c (addRow (pOut (P c)) (P, Q) (rowOf g c)) (fun k => F k || (decide (P c = 3) && decide (k = c))) := by
  have hcm : c < m := h.pi.lt c (List.mem_cons_self ..)
  have hPc : P c ≠ 0 := (h.pi.seen c hcm).2 (List.mem_cons_self ..)
  have h1 := h.pi.pop
  have hrow : ∀ p ∈ rowOf g c, 0 ≤ p ∧ p < c := fun p hp => ⟨(row_good hg hp).1, (row_good hg hp).2.1⟩
  have hle := h.le
  obtain ⟨k1, k2⟩ := PI.addRow (v := pOut (P c)) (by omega) (h.pi.val c).out (pOut_ne hPc) h1 hrow
  have hfun : (addRow (pOut (P c)) (P, Q) (rowOf g c)).1 = stepP g c P := funext fun j => k2 j
  have hz : ∀ i, c < i → i < m → P i = 0 := fun i h2 h3 => by
    by_cases e : P i = 0
    · exact e
    · have := (h.pi.seen i h3).1 e
      rcases List.mem_cons.1 this with rfl | hi
      · omega
      · have := (List.pairwise_cons.1 h.pi.falls).1 i hi; omega
  refine ⟨h1, hPc, hcm, k1, by omega, ?_, fun k => ?_⟩
  · rw [hfun, h.fin]; exact pF_pop hcm hz
  · rw [hfun, h.found]
    show (decide (m ≤ k) && decide (P k = 3) || (decide (P c = 3) && decide (k = c))) = (decide (c ≤ k) && decide (stepP g c P k = 3))
    by_cases e : c ≤ k
    · rw [stepP_ge hg e, decide_eq_true e, Bool.true_and]
      by_cases e1 : k = c
      · subst e1
        rw [decide_eq_false (show ¬ m ≤ k by omega), Bool.false_and, Bool.false_or, decide_eq_true (rfl : k = k), Bool.and_true]
      · rw [decide_eq_false e1, Bool.and_false, Bool.or_false]
        by_cases e2 : m ≤ k
        · rw [decide_eq_true e2, Bool.true_and]
        · rw [hz k (by omega) (by omega)]; simp
    · rw [decide_eq_false e, decide_eq_false (show ¬ m ≤ k by omega), decide_eq_false (show ¬ k = c by omega)]; simp
/-- it ends where none is fresh -/
theorem PW.done {g : List (List Int)} (hg : Good g) {l r : List Int} {m : Nat} {s : PS} {F : Nat → Bool} (h : PW g l r m s F) (h0 : frP s = 0) : ∀ k, F k = bestT g (bothS g l r) g.length k := by
  intro k
  have hall : ∀ q ∈ s.2, ¬ s.1 q < 4 := fun q hq hlt => by
    have : s.2.filter (fun k => decide (s.1 k < 4)) = [] := List.eq_nil_of_length_eq_zero h0
    have hm : q ∈ s.2.filter fun k => decide (s.1 k < 4) := List.mem_filter.2 ⟨hq, decide_eq_true hlt⟩
    rw [this] at hm; cases hm
  have hst : ∀ k, k < m → s.1 k = 0 ∨ s.1 k = 7 := fun k hk => by
    by_cases e : s.1 k = 0
    · exact .inl e
    · have h1 := hall k ((h.pi.seen k hk).1 e)
      rcases h.pi.val k with h2 | h2 | h2 | h2 | h2
      · exact .inl h2
      · omega
      · omega
      · omega
      · exact .inr h2
  rw [Bool.eq_iff_iff, ← paint_best hg, h.fin, h.found]
  by_cases e : m ≤ k
  · rw [decide_eq_true e, Bool.true_and, pF_ge hg e, decide_eq_true_eq]
  · rw [decide_eq_false e, Bool.false_and]
    have := pF_stale (g := g) h.pi.val hst k (by omega)
    constructor
    · intro h; cases h
    · intro h2; rcases this with h1 | h1 <;> rw [h1] at h2 <;> cases h2
/-- as long as one is fresh the queue isn't empty -/
theorem frP_pos {s : PS} (h : 0 < frP s) : ∃ c Q, s.2 = c :: Q := by
  cases hs : s.2 with
  | nil => unfold frP at h; rw [hs] at h; simp at h
  | cons c Q => exact ⟨c, Q, rfl⟩
theorem frP_pop {P : Nat → Nat} {c : Nat} {Q : List Nat} : frP (P, c :: Q) = frP (P, Q) + if P c < 4 then 1 else 0 := by
  unfold frP
  show (List.filter _ (c :: Q)).length = _
  rw [List.filter_cons]
  by_cases h : P c < 4
  · rw [if_pos (decide_eq_true h), if_pos h]; rfl
  · rw [if_neg (by rw [decide_eq_false h]; exact Bool.false_ne_true), if_neg h]; rfl
theorem frP_le {n m : Nat} {s : PS} (h : PI n m s) : frP s ≤ m := by
  have h1 := falls_len h.falls h.lt
  have h2 : frP s ≤ s.2.length := List.length_filter_le ..
  omega
/-- the two lists are laid in -/
theorem seed_add {n : Nat} {l r : List Int} (hl : ∀ p ∈ l, 0 ≤ p ∧ p < n) (hr : ∀ p ∈ r, 0 ≤ p ∧ p < n) : (addRow 2 (addRow 1 (fun _ => 0, []) l) r).1 = seedP l r ∧ PI n n (addRow 2 (addRow 1 (fun _ => 0, []) l) r) := by
  obtain ⟨h1, h2⟩ := PI.addRow (v := 1) (Nat.le_refl n) (by unfold isV; decide) (by decide) (PI.start n) hl
  obtain ⟨h3, h4⟩ := PI.addRow (v := 2) (Nat.le_refl n) (by unfold isV; decide) (by decide) h1 hr
  refine ⟨funext fun j => ?_, h3⟩
  rw [h4, h2]
  unfold seedP
  by_cases e1 : (j : Int) ∈ l <;> by_cases e2 : (j : Int) ∈ r <;> simp [e1, e2]
theorem PW.start {g : List (List Int)} {l r : List Int} (hl : ∀ p ∈ l, 0 ≤ p ∧ p < g.length) (hr : ∀ p ∈ r, 0 ≤ p ∧ p < g.length) : PW g l r g.length (addRow 2 (addRow 1 (fun _ => 0, []) l) r) (fun _ => false) := by
  obtain ⟨h1, h2⟩ := seed_add hl hr
  refine ⟨h2, Nat.le_refl _, by rw [h1], fun k => ?_⟩
  by_cases e : g.length ≤ k
  · rw [h2.top k e]; simp
  · rw [decide_eq_false e]; rfl
end SX
namespace SX
open Go

section
variable {P : Program} {env : Env} {L : List Assn}
theorem ef_copy {t t' e n by_ : Nat} [ht : TSl P t e n by_] {x y : Operand} {db dl dc sb so sl sc st : Nat} {cs1 cs2 : List Value} {R : List Assn} (news : List Value)
    (hx : evalE env x = some (.slice (some ⟨db, 0, none⟩) dl dc)) (hy : evalE env y = some (.slice (some ⟨sb, so, none⟩) sl sc)) (hL : Split L [blk db e cs1, blk sb st cs2] R)
    (hnl : news.length = Nat.min sl dl * n) (hnews : ∀ j u, news[j]? = some u → cs2[so + j]? = some u) (h1 : news.all Value.oneCell' = true) (hfit : news.length ≤ cs1.length) :
    Ef P env L (.call { callee := .builtin .copy, args := #[x, y], argTypes := #[t, t'] }) (fun k => k (.int .i64 (Nat.min sl dl : Nat)) (blk db e (news ++ cs1.drop news.length) :: blk sb st cs2 :: R)) := by
  intro ro dst tt pos af g N E a w next Q k hf hh hk hn
  have h2 := hh.ent hL.ent
  have hd : w.heap[db]? = some (.cells cs1.toArray e (0, 0)) := h2.one_get .here
  have hs : w.heap[sb]? = some (.cells cs2.toArray st (0, 0)) := h2.one_get (.there .here)
  obtain ⟨i, hu, hi, hin, _⟩ := ht.ok
  have hld : (Builtin.firstCells n (Nat.min sl dl) (.slice (some ⟨sb, so, none⟩) sl sc)).run P w = .ok news.toArray w :=
    run_firstCells_some (P := P) w n (Nat.min sl dl) ⟨sb, so, none⟩ sl sc news hnl (fun j u hj => by
      rw [addr_add, cell_of_row w sb (so + j) cs2.toArray st (0, 0) hs]
      simpa using hnews j u hj)
  have hst := run_storeCells_at P db 0 e news 0 cs1.toArray w hd (by simpa using hfit) (by simpa using h1)
  simp only [Nat.zero_add, List.take_zero, List.nil_append] at hst
  have hrun : (Builtin.copy_ #[t, t'] tt #[.slice (some ⟨db, 0, none⟩) dl dc, .slice (some ⟨sb, so, none⟩) sl sc]).run P w = .ok (.int .i64 (Nat.min sl dl : Nat)) (w.setRow db (news ++ cs1.drop news.length).toArray) := by
    simp [Builtin.copy_, run_underlying hu, Builtin.lenOf, Go.sizeOf, typeInfo, hi, hin, hld, hst, goInt]
  have hb : (execOp a.eval ⟨dst, .call { callee := .builtin .copy, args := #[x, y], argTypes := #[t, t'] }, tt, pos, af, g⟩).run P w = .ok (.value (.int .i64 (Nat.min sl dl : Nat))) (w.setRow db (news ++ cs1.drop news.length).toArray) := by
    simp [execOp, resolve, invoke, builtin, hf.ev x _ hx, hf.ev y _ hy, hrun]
  refine wpIn_value hb (hn _ _ _ hk (h2.upd (b := db) .here _ rfl rfl rfl (by simp [World.setRow]) ?_ ?_))
  · exact setRow_heap w db cs1.toArray _ e (0, 0) hd
  · intro k hne
    exact setRow_other w db k _ hne
end
end SX
namespace SX
section
variable {τ : Type} (S : List Int → Int → List Int) (T : Int → τ) (M : τ → τ → τ → τ) (z : τ)
/-- the bases that are still to come, one behind the other -/
def vloop (rec : Nat → List Int → Int → Option (τ × Bool) × Nat) : List Int → List Int → τ → Nat → Option τ × Nat
  | [], _, t, left => (some t, left)
  | c :: rest, node, t, left => match rec left node c with
    | (none, l) => (none, l)
    | (some (u, _), l) => vloop rec rest (node ++ [c]) (M u t (T c)) l
/-- a question: f is enough if it is no less than the steps that are left -/
def vrec : Nat → Nat → List Int → Int → Option (τ × Bool) × Nat
  | 0, left, _, _ => (none, left)
  | f + 1, left, x, y => if left = 0 then (none, 0) else match S x y with
    | [] => (some (z, false), left - 1)
    | b :: l => match vloop T M (vrec f) l [b] (T b) (left - 1) with
      | (none, k) => (none, k)
      | (some t, k) => (some (t, true), k)
theorem vloop_le {rec : Nat → List Int → Int → Option (τ × Bool) × Nat} (h : ∀ left x y, (rec left x y).2 ≤ left) : ∀ (rest node : List Int) (t : τ) (left : Nat), (vloop T M rec rest node t left).2 ≤ left
  | [], _, _, _ => Nat.le_refl _
  | c :: rest, node, t, left => by
    unfold vloop
    have h1 := h left node c
    generalize rec left node c = r at h1
    obtain ⟨u, l⟩ := r
    cases u with
    | none => exact h1
    | some u => exact Nat.le_trans (vloop_le h rest (node ++ [c]) (M u.1 t (T c)) l) h1
theorem vrec_le : ∀ (f left : Nat) (x : List Int) (y : Int), (vrec S T M z f left x y).2 ≤ left
  | 0, _, _, _ => Nat.le_refl _
  | f + 1, left, x, y => by
    unfold vrec
    split
    · exact Nat.zero_le _
    · split
      · exact Nat.sub_le _ _
      · rename_i b l hs
        have h1 := vloop_le T M (vrec_le f) l [b] (T b) (left - 1)
        generalize vloop T M (vrec S T M z f) l [b] (T b) (left - 1) = r at h1
        obtain ⟨u, k⟩ := r
        cases u <;> exact Nat.le_trans h1 (Nat.sub_le _ _)
theorem vloop_congr {r1 r2 : Nat → List Int → Int → Option (τ × Bool) × Nat} (n : Nat) (h : ∀ left x y, left ≤ n → r1 left x y = r2 left x y) (hle : ∀ left x y, (r1 left x y).2 ≤ left) : ∀ (rest node : List Int) (t : τ) (left : Nat), left ≤ n → vloop T M r1 rest node t left = vloop T M r2 rest node t left
  | [], _, _, _, _ => rfl
  | c :: rest, node, t, left, hn => by
    unfold vloop
    rw [← h left node c hn]
    have h1 := hle left node c
    generalize r1 left node c = r at h1
    obtain ⟨u, l⟩ := r
    cases u with
    | none => rfl
    | some u => exact vloop_congr n h hle rest (node ++ [c]) (M u.1 t (T c)) l (Nat.le_trans h1 hn)
theorem vrec_fuel : ∀ (f f' left : Nat) (x : List Int) (y : Int), left ≤ f → left ≤ f' → vrec S T M z f left x y = vrec S T M z f' left x y
  | 0, 0, _, _, _, _, _ => rfl
  | 0, f' + 1, left, x, y, h, _ => by
    obtain rfl : left = 0 := by omega
    unfold vrec; rw [if_pos rfl]
  | f + 1, 0, left, x, y, _, h => by
    obtain rfl : left = 0 := by omega
    unfold vrec; rw [if_pos rfl]
  | f + 1, f' + 1, left, x, y, h, h' => by
    unfold vrec
    by_cases h0 : left = 0
    · rw [if_pos h0, if_pos h0]
    · rw [if_neg h0, if_neg h0]
      cases S x y with
      | nil => rfl
      | cons b l =>
        dsimp only
        rw [vloop_congr T M (left - 1) (fun k x y hk => vrec_fuel f f' k x y (by omega) (by omega)) (vrec_le S T M z f) l [b] (T b) (left - 1) (Nat.le_refl _)]
/-- with all the steps that are left -/
def vall (left : Nat) (x : List Int) (y : Int) : Option (τ × Bool) × Nat := vrec S T M z left left x y
theorem vall_eq (left : Nat) (x : List Int) (y : Int) : vall S T M z left x y = if left = 0 then (none, 0) else match S x y with
    | [] => (some (z, false), left - 1)
    | b :: l => match vloop T M (vall S T M z) l [b] (T b) (left - 1) with
      | (none, k) => (none, k)
      | (some t, k) => (some (t, true), k) := by
  unfold vall
  cases left with
  | zero => unfold vrec; rfl
  | succ n =>
    rw [vrec, if_neg (by omega), if_neg (by omega)]
    cases S x y with
    | nil => rfl
    | cons b l =>
      dsimp only
      rw [Nat.add_sub_cancel, vloop_congr T M n (fun k x y hk => vrec_fuel S T M z n k k x y hk (Nat.le_refl _)) (vrec_le S T M z n) l [b] (T b) n (Nat.le_refl _)]
/-- a question under work -/
structure VF (τ : Type) where
  rest : List Int
  node : List Int
  tree : τ
def vfr : List Int → VF τ
  | [] => ⟨[], [], z⟩
  | b :: l => ⟨l, [b], T b⟩
def vup (u : τ) (f : VF τ) : VF τ := match f.rest with | [] => f | c :: r => ⟨r, f.node ++ [c], M u f.tree (T c)⟩
/-- what comes of a stack, the topmost first -/
def vst : List (VF τ) → Nat → Option (τ × Bool) × Nat
  | [], left => (none, left)
  | [f], left => match vloop T M (vall S T M z) f.rest f.node f.tree left with | (none, l) => (none, l) | (some t, l) => (some (t, !(f.node ++ f.rest).isEmpty), l)
  | f :: up :: st, left => match vloop T M (vall S T M z) f.rest f.node f.tree left with | (none, l) => (none, l) | (some t, l) => vst (vup T M t up :: st) l
termination_by l => l.length
theorem vst_cons (f : VF τ) (st : List (VF τ)) (left : Nat) : vst S T M z (f :: st) left = match vloop T M (vall S T M z) f.rest f.node f.tree left with
    | (none, l) => (none, l)
    | (some t, l) => match st with | [] => (some (t, !(f.node ++ f.rest).isEmpty), l) | up :: st => vst S T M z (vup T M t up :: st) l := by
  cases st with
  | nil => rw [vst]
  | cons up st => rw [vst]
theorem vst_pop (node : List Int) (t : τ) (up : VF τ) (st : List (VF τ)) (left : Nat) : vst S T M z (⟨[], node, t⟩ :: up :: st) left = vst S T M z (vup T M t up :: st) left := by
  rw [vst_cons]; rfl
theorem vst_end (node : List Int) (t : τ) (left : Nat) : vst S T M z [⟨[], node, t⟩] left = (some (t, !node.isEmpty), left) := by
  rw [vst_cons]
  show (some (t, !(node ++ []).isEmpty), left) = _
  rw [List.append_nil]
theorem vst_out (c : Int) (rest node : List Int) (t : τ) (st : List (VF τ)) : (vst S T M z (⟨c :: rest, node, t⟩ :: st) 0).1 = none := by
  rw [vst_cons, vloop, vall_eq, if_pos rfl]
theorem vst_push (c : Int) (rest node : List Int) (t : τ) (st : List (VF τ)) (left : Nat) (h : left ≠ 0) :
    vst S T M z (⟨c :: rest, node, t⟩ :: st) left = vst S T M z (vfr T z (S node c) :: ⟨c :: rest, node, t⟩ :: st) (left - 1) := by
  rw [vst_cons, vst_cons S T M z (vfr T z (S node c))]
  dsimp only
  rw [vloop, vall_eq, if_neg h]
  cases S node c with
  | nil =>
    show _ = vst S T M z (vup T M z ⟨c :: rest, node, t⟩ :: st) (left - 1)
    rw [vst_cons]
    dsimp only [vup]
    rw [List.append_assoc]; rfl
  | cons b l =>
    dsimp only [vfr]
    generalize vloop T M (vall S T M z) l [b] (T b) (left - 1) = r
    obtain ⟨u, k⟩ := r
    cases u with
    | none => rfl
    | some u =>
      show _ = vst S T M z (vup T M u ⟨c :: rest, node, t⟩ :: st) k
      rw [vst_cons]
      dsimp only [vup]
      rw [List.append_assoc]; rfl
theorem vst_start (x : List Int) (y : Int) (left : Nat) (h : left ≠ 0) : vall S T M z left x y = vst S T M z [vfr T z (S x y)] (left - 1) := by
  rw [vall_eq, if_neg h]
  cases S x y with
  | nil => rw [vst_cons]; rfl
  | cons b l =>
    rw [vst_cons]
    dsimp only [vfr]
    generalize vloop T M (vall S T M z) l [b] (T b) (left - 1) = r
    obtain ⟨u, k⟩ := r
    cases u <;> rfl
end
end SX
namespace SX
open Go Go.MapKept
open Go.ChangeMaps (setBlock)
section
variable {κ : Type} [DecidableEq κ]
/-- the stamps: each below the clock, no two alike -/
def Born (l : Ents κ) (c : Nat) : Prop := (∀ x ∈ l, x.2.2 < c) ∧ (l.map (·.2.2)).Nodup
omit [DecidableEq κ] in
theorem Born.nil (c : Nat) : Born ([] : Ents κ) c := ⟨(fun _ h => by cases h), List.nodup_nil⟩
theorem upd_borns (a : κ) (c : Nat) (v : Value) : ∀ (l : Ents κ), (upd l c a v).map (·.2.2) = l.map (·.2.2) ++ (if (mlook l a).isSome then [] else [c])
  | [] => rfl
  | x :: l => by
    unfold upd mlook
    by_cases e : x.1 = a
    · simp [e]
    · simp [e, upd_borns a c v l]
theorem Born.upd {l : Ents κ} {c : Nat} (h : Born l c) (a : κ) (v : Value) : Born (upd l c a v) (updC l c a) := by
  have hb := upd_borns a c v l
  unfold updC
  by_cases hs : (mlook l a).isSome = true
  · rw [if_pos hs, List.append_nil] at hb
    rw [if_pos hs]
    refine ⟨fun x hx => ?_, by rw [hb]; exact h.2⟩
    have : x.2.2 ∈ l.map (·.2.2) := by rw [← hb]; exact List.mem_map.2 ⟨x, hx, rfl⟩
    obtain ⟨y, hy, e⟩ := List.mem_map.1 this
    rw [← e]; exact h.1 y hy
  · rw [if_neg hs] at hb
    rw [if_neg hs]
    refine ⟨fun x hx => ?_, ?_⟩
    · have : x.2.2 ∈ l.map (·.2.2) ++ [c] := by rw [← hb]; exact List.mem_map.2 ⟨x, hx, rfl⟩
      rcases List.mem_append.1 this with k | k
      · obtain ⟨y, hy, e⟩ := List.mem_map.1 k
        rw [← e]; have := h.1 y hy; omega
      · rw [List.mem_singleton.1 k]; omega
    · rw [hb, List.nodup_append]
      refine ⟨h.2, by simp, fun x hx y hy e => ?_⟩
      rw [List.mem_singleton.1 hy] at e
      obtain ⟨z, hz, e2⟩ := List.mem_map.1 hx
      have := h.1 z hz
      omega
variable {P : Program} {env : Env} {L : List Assn}
/-- how far a range is: done, and what is to come, are all there are -/
def Going (l dn td : Ents κ) : Prop := (dn ++ td).Perm l
omit [DecidableEq κ] in
theorem Going.start (l : Ents κ) : Going l [] l := .refl _
omit [DecidableEq κ] in
theorem Going.step {l dn td : Ents κ} (h : Going l dn td) {x : κ × Value × Nat} (hx : x ∈ l) (hs : x.2.2 ∉ dn.map (·.2.2)) : ∃ td', Going l (dn ++ [x]) td' ∧ td.length = td'.length + 1 := by
  have hm : x ∈ dn ++ td := h.mem_iff.2 hx
  rcases List.mem_append.1 hm with k | k
  · exact absurd (List.mem_map.2 ⟨x, k, rfl⟩) hs
  · obtain ⟨s, t, rfl⟩ := List.append_of_mem k
    refine ⟨s ++ t, ?_, by simp; omega⟩
    refine List.Perm.trans ?_ h
    rw [List.append_assoc]
    exact List.Perm.append_left _ (show ([x] ++ (s ++ t)).Perm _ from (List.perm_middle (a := x) (l₁ := s) (l₂ := t)).symm)
end
end SX
namespace SX
open Go Go.MapKept Go.Lib
section
variable {P : Program} {env : Env}
end
end SX
namespace SX
open Go
section
variable {P : Program} {env : Env} {L L' : List Assn}
theorem own_cap2 {e n : Nat} {v : Value} {l : Nat} {xs : List Value} {m : PH} (h : Sat (own e n v l xs :: L) m) : ∃ A c, v = .slice A l c ∧ l ≤ c ∧ c ≤ maxLen ∧ (A = none → c = 0) ∧ ∀ a, A = some a → ∃ b, a = ⟨b, 0, none⟩ := by
  obtain ⟨m1, _, ⟨_, ho⟩, _⟩ := h
  rcases ho with ⟨rfl, rfl⟩ | ⟨g, cap, cur, rfl, _, h3, h4, _⟩
  · exact ⟨_, _, rfl, Nat.le_refl _, Nat.zero_le _, (fun _ => rfl), fun a h => by cases h⟩
  · exact ⟨_, _, rfl, h3, h4, (fun h => by cases h), fun a h => ⟨g, (Option.some.inj h).symm⟩⟩
theorem own_cell {E : Ctx} {w : World} {e n b c l i : Nat} {xs : List Value} {v : Value} (hh : H E w L) (hL : Take (own e n (.slice (some ⟨b, 0, none⟩) l c) l xs) L L') (hv : xs[i]? = some v) : w.cell? ⟨b, i, none⟩ = some v := by
  obtain ⟨m1, m2, ⟨_, ho⟩, _, _, s1, _⟩ := (hh.ent (Ent.perm hL.perm)).sat
  rcases ho with ⟨h0, _⟩ | ⟨g, cap, cur, h1, hg, _, _, _, htk⟩
  · cases h0
  · obtain ⟨h2, _, _⟩ := Value.slice.inj h1
    obtain ⟨rfl, _, _⟩ := Addr.mk.inj (Option.some.inj h2)
    have hw : w.heap[b]? = some (.cells cur e (0, 0)) := s1 _ _ hg
    rw [← htk, List.getElem?_take] at hv
    split at hv
    · rw [cell_of_row w b i _ e (0, 0) hw, ← Array.getElem?_toList]; exact hv
    · cases hv
/-- an element of a slice of the call's own -/
theorem rd_own {t : TypeId} [ht : TOne P t] {x : Operand} {e n b c l i : Nat} {xs : List Value} {v : Value} (hx : evalE env x = some (.pointer (some ⟨b, i, none⟩))) (hL : Take (own e n (.slice (some ⟨b, 0, none⟩) l c) l xs) L L') (hv : xs[i]? = some v) : Rd P env L (.load t x) v :=
  rd_of_ld hx fun {E w} hh => by
    have ha := run_isAgg ht.und w
    simp [loadVar, ha, own_cell hh hL hv]
theorem rd_ownA {t k : Nat} [ht : TAgg P t k] {x : Operand} {e n b c l i : Nat} {xs vs : List Value} (hx : evalE env x = some (.pointer (some ⟨b, i, none⟩))) (hL : Take (own e n (.slice (some ⟨b, 0, none⟩) l c) l xs) L L') (hl : vs.length = k) (hv : ∀ (j : Nat) (v : Value), vs[j]? = some v → xs[i + j]? = some v) : Rd P env L (.load t x) (.agg vs.toArray) :=
  rd_of_ld hx fun {E w} hh => by
    have ha := run_isAgg ht.und w
    have hr := run_loadCells_list (P := P) w ⟨b, i, none⟩ vs (fun j v hj => by rw [addr_add]; exact own_cell hh hL (hv j v hj))
    rw [hl] at hr
    simp [loadVar, ha, run_sizeOf ht.inf, hr]
theorem set_app {xs ex : List Value} {i : Nat} {v : Value} (h : i < xs.length) : (xs ++ ex).set i v = xs.set i v ++ ex := by rw [List.set_append_left _ _ h]
/-- an element of a slice of the call's own is written -/
theorem ef_store_own {t : TypeId} [ht : TOne P t] {x y : Operand} {e n b c l i : Nat} {xs : List Value} {v : Value} {R : List Assn} (hx : evalE env x = some (.pointer (some ⟨b, i, none⟩))) (hy : evalE env y = some v) (hL : Split L [own e n (.slice (some ⟨b, 0, none⟩) l c) l xs] R) (hi : i < xs.length) (hv : v.oneCell' = true) :
    Ef P env L (.store t x y) (fun k => k undef (own e n (.slice (some ⟨b, 0, none⟩) l c) l (xs.set i v) :: R)) := by
  intro ro dst tt pos af g N E a w next Q k hf hh hk hn
  have h2 := hh.ent hL.ent
  obtain ⟨h21, h22, h23, h24, h25⟩ := h2
  have k6 : Sat (own e n (.slice (some ⟨b, 0, none⟩) l c) l xs :: (E.X ++ R)) (fun b => w.heap[b]?) := Sat.perm (perm_out (.refl _)) _ h25
  rcases own_open k6 with ⟨h0, _⟩ | ⟨b', cap, ex, h1, h3, h4, h5, h6, h7⟩
  · cases h0
  · obtain ⟨h8, _, rfl⟩ := Value.slice.inj h1
    obtain ⟨rfl, _, _⟩ := Addr.mk.inj (Option.some.inj h8)
    have h9 : H E w (blk b e (xs ++ ex) :: R) := ⟨h21, h22, h23, h24, Sat.perm (perm_out (.refl _)).symm _ h7⟩
    refine ef_storeP (P := P) (t := t) (L := blk b e (xs ++ ex) :: R) (i := i) hx hy hv (by rw [List.length_append]; omega) ro dst tt pos af g N E a w next Q (fun u L' => u = undef ∧ Ent L' (own e n (.slice (some ⟨b, 0, none⟩) l c) l (xs.set i v) :: R)) hf h9 ⟨rfl, ?_⟩ ?_
    · rw [set_app hi]
      exact own_close (by rw [List.length_set]; exact h5) h6 h3 h4
    · rintro u w' L' ⟨rfl, he⟩ hh'
      exact hn _ _ _ hk (hh'.ent he)
theorem over_app {xs ex vs : List Value} {i : Nat} (h : i + vs.length ≤ xs.length) : over (xs ++ ex) vs i = over xs vs i ++ ex := by
  unfold over
  rw [List.take_append_of_le_length (by omega), List.drop_append_of_le_length h]; simp only [List.append_assoc]
theorem over_len {xs vs : List Value} {i : Nat} (h : i + vs.length ≤ xs.length) : (over xs vs i).length = xs.length := by
  unfold over; rw [List.length_append, List.length_append, List.length_take, List.length_drop]; omega
theorem ef_store_ownA {t k : Nat} [ht : TAgg P t k] {x y : Operand} {e n b c l i : Nat} {xs vs : List Value} {R : List Assn} (hx : evalE env x = some (.pointer (some ⟨b, i, none⟩))) (hy : evalE env y = some (.agg vs.toArray)) (hL : Split L [own e n (.slice (some ⟨b, 0, none⟩) l c) l xs] R) (hi : i + vs.length ≤ xs.length) (hl : vs.length = k) (hv : vs.all Value.oneCell' = true) :
    Ef P env L (.store t x y) (fun k => k undef (own e n (.slice (some ⟨b, 0, none⟩) l c) l (over xs vs i) :: R)) := by
  intro ro dst tt pos af g N E a w next Q k hf hh hk hn
  have h2 := hh.ent hL.ent
  obtain ⟨h21, h22, h23, h24, h25⟩ := h2
  have k6 : Sat (own e n (.slice (some ⟨b, 0, none⟩) l c) l xs :: (E.X ++ R)) (fun b => w.heap[b]?) := Sat.perm (perm_out (.refl _)) _ h25
  rcases own_open k6 with ⟨h0, _⟩ | ⟨b', cap, ex, h1, h3, h4, h5, h6, h7⟩
  · cases h0
  · obtain ⟨h8, _, rfl⟩ := Value.slice.inj h1
    obtain ⟨rfl, _, _⟩ := Addr.mk.inj (Option.some.inj h8)
    have h9 : H E w (blk b e (xs ++ ex) :: R) := ⟨h21, h22, h23, h24, Sat.perm (perm_out (.refl _)).symm _ h7⟩
    refine ef_storeAP (P := P) (t := t) (L := blk b e (xs ++ ex) :: R) (i := i) hx hy hv hl (by rw [List.length_append]; omega) ro dst tt pos af g N E a w next Q (fun u L' => u = undef ∧ Ent L' (own e n (.slice (some ⟨b, 0, none⟩) l c) l (over xs vs i) :: R)) hf h9 ⟨rfl, ?_⟩ ?_
    · rw [over_app hi]
      exact own_close (by rw [over_len hi]; exact h5) h6 h3 h4
    · rintro u w' L' ⟨rfl, he⟩ hh'
      exact hn _ _ _ hk (hh'.ent he)
/-- elements laid in cells -/
theorem flat_at {α : Type} {f : α → List Value} {n : Nat} (hf : ∀ a, (f a).length = n) {l : List α} {i : Nat} {a : α} (h : l[i]? = some a) (j : Nat) (v : Value) (hj : (f a)[j]? = some v) : (l.flatMap f)[i * n + j]? = some v := by
  have := flat_get hf l [] i a h j v hj
  rwa [List.append_nil] at this
theorem flat_over2 {α : Type} {f : α → List Value} {n : Nat} (hf : ∀ a, (f a).length = n) : ∀ {l : List α} {i : Nat} {a : α}, i < l.length → over (l.flatMap f) (f a) (i * n) = (l.set i a).flatMap f
  | [], _, _, h => by cases h
  | b :: l, 0, a, _ => by
    unfold over
    rw [Nat.zero_mul, List.take_zero, List.nil_append, Nat.zero_add, List.set_cons_zero, List.flatMap_cons, List.flatMap_cons, hf a, ← hf b, List.drop_left]
  | b :: l, i + 1, a, h => by
    have ih := flat_over2 hf (l := l) (i := i) (a := a) (by simpa using h)
    unfold over at ih ⊢
    rw [List.set_cons_succ, List.flatMap_cons, List.flatMap_cons, ← ih]
    rw [show (i + 1) * n = (f b).length + i * n by rw [hf b, Nat.add_mul, Nat.one_mul, Nat.add_comm], List.take_length_add_append, Nat.add_assoc, List.drop_length_add_append]
    simp only [List.append_assoc]
/-- make of elements of more cells than one -/
theorem madeCells_flat {zs : List Value} {n l : Nat} (hz : zs.length = n) (hn : 0 < n) : madeCells zs.toArray (l * n) = ((List.replicate l ()).flatMap fun _ => zs).toArray := by
  apply Array.ext
  · rw [size_madeCells, List.size_toArray, flat_length (f := fun _ : Unit => zs) (k := n) (fun _ => hz), List.length_replicate]
  · intro i h1 h2
    have hi : i < l * n := by rwa [size_madeCells] at h1
    have hq : i / n < l := by rw [Nat.div_lt_iff_lt_mul hn]; exact hi
    have hr : i % n < zs.length := by rw [hz]; exact Nat.mod_lt _ hn
    have e1 : ((List.replicate l ()).flatMap fun _ => zs)[i]? = some zs[i % n] := by
      have := flat_at (f := fun _ : Unit => zs) (n := n) (fun _ => hz) (l := List.replicate l ()) (i := i / n) (a := ()) (by rw [List.getElem?_replicate, if_pos hq]) (i % n) zs[i % n] (List.getElem?_eq_getElem hr)
      rwa [show i / n * n + i % n = i by rw [Nat.mul_comm]; exact Nat.div_add_mod i n] at this
    have e2 : (madeCells zs.toArray (l * n))[i] = zs[i % n] := by
      subst hz
      simp only [madeCells, Array.getElem_map, Array.getElem_range, List.size_toArray]
      rw [getElem!_pos zs.toArray (i % zs.length) (by simpa using hr)]; simp
    rw [e2]
    have e3 : ((List.replicate l ()).flatMap fun _ => zs).toArray[i]? = some zs[i % n] := by rw [List.getElem?_toArray]; exact e1
    rw [Array.getElem?_eq_getElem h2] at e3
    exact (Option.some.inj e3).symm
theorem ef_makeN {t e n by_ : Nat} [ht : TSl P t e n by_] {zs : List Value} [hz : TZero P e zs] {x y : Operand} {kx ky : IntKind} {c : Int} (l : Nat) (hx : evalE env x = some (.int kx c)) (hy : evalE env y = some (.int ky c)) (h0 : c = (l : Int)) (hb : (by_ : Int) * l ≤ 281474976710656) (hc : l ≤ maxLen) (hzl : zs.length = n := by rfl) (hn0 : 0 < n := by decide) :
    Ef P env L (.makeSlice t x y) (fun k => ∀ b, k (.slice (some ⟨b, 0, none⟩) l l) (own e n (.slice (some ⟨b, 0, none⟩) l l) l ((List.replicate l ()).flatMap fun _ => zs) :: L)) := by
  intro ro dst ty pos af g N E a w next Q k hf hh hk hn
  obtain ⟨i, hu, hi, hin, hib⟩ := ht.ok
  obtain ⟨i', z', hi', hzz, hzc⟩ := hz.ok
  have : i' = i := Option.some.inj (hi'.symm.trans hi)
  subst this
  subst h0
  have hr := run_make (P := P) w t e i' z' hu hi hzz kx ky l l (by omega) (by omega) (by rw [hib]; exact hb) (by simp only [maxLen] at hc; omega)
  rw [hin, Int.toNat_natCast, hzc, madeCells_flat hzl hn0] at hr
  refine wpIn_value (v := .slice (some ⟨w.heap.size, 0, none⟩) l l) (w' := w.alloc (.cells ((List.replicate l ()).flatMap fun _ => zs).toArray e)) (by simp [execOp, hf.ev x _ hx, hf.ev y _ hy, hr]) (hn _ _ _ (hk _) ((hh.alloc _).ent ?_))
  have hfl : ((List.replicate l ()).flatMap fun _ => zs).length = l * n := by rw [flat_length (f := fun _ : Unit => zs) (k := n) (fun _ => hzl), List.length_replicate]
  refine Ent.imp fun m hm => ⟨hfl, .inr ⟨w.heap.size, l, _, rfl, hm, Nat.le_refl _, hc, by rw [List.size_toArray, hfl], ?_⟩⟩
  rw [← hfl]; exact List.take_length
end
end SX
namespace SX
section
variable {τ : Type} (S : List Int → Int → List Int) (T : Int → τ) (M : τ → τ → τ → τ) (z : τ)
end
end SX
namespace SX
open Go Go.ChangeShapes Go.WideShapes Go.ChangeAt Go.RowKit
variable {P : Program} {H0 : Type} {enc : TypeId × Value → H0} {W : World}
end SX
namespace SX
open Go Go.ChangeShapes Go.WideShapes Go.ChangeAt Go.RowKit
variable {P : Program} {W : World} {H0 : Type} {enc : TypeId × Value → H0}
/-- a call: kind, name, to, text, number, and a fate (a number, a list) -/
structure OpA where
  kind : Int
  name : ByteArray
  to : ByteArray
  text : ByteArray
  n : Int
  fn : Int
  kv : Value
  keep : List Int
instance : Inhabited OpA := ⟨⟨0, ⟨#[]⟩, ⟨#[]⟩, ⟨#[]⟩, 0, 0, .bool false, []⟩⟩
structure OpOk (μ : PH) (o : OpA) : Prop where
  kind : 0 ≤ o.kind ∧ o.kind ≤ 255
  n : -9223372036854775808 ≤ o.n ∧ o.n ≤ 9223372036854775807
  keep : Row μ o.kv 1 o.keep.length (o.keep.flatMap (icsk .i64))
theorem OpOk.le {μ μ' : PH} {o : OpA} (h : OpOk μ o) (k : Le μ μ') : OpOk μ' o := ⟨h.kind, h.n, h.keep.le k⟩
end SX
namespace SX
open Go Go.ChangeShapes Go.WideShapes Go.ChangeAt Go.RowKit
variable {P : Program} {W : World} {H0 : Type} {enc : TypeId × Value → H0}
end SX
namespace SX
open Go Go.ChangeShapes Go.WideShapes Go.ChangeAt Go.RowKit
variable {P : Program} {W : World} {H0 : Type} {enc : TypeId × Value → H0}
/-- what a list's data say -/
def GraphD (xs : List (Value × List Int)) (d : DataW H0) : Prop := (d = .nil ∧ xs = []) ∨ ∃ (Ds sp : List (DataW H0)), d = .slice Ds sp ∧ Ds.length = xs.length ∧ ∀ (i : Nat) (a : Value × List Int) (D : DataW H0), xs[i]? = some a → Ds[i]? = some D → (D = .nil ∧ a.2 = []) ∨ ∃ (Ds sp : List (DataW H0)), D = .slice Ds sp ∧ Ds.length = a.2.length
theorem slice_all {α : Type} [Inhabited α] {d : DataW H0} {xs : List α} {R : α → DataW H0 → Prop} {Q : α → Prop} (hd : (d = .nil ∧ xs = []) ∨ ∃ (Ds sp : List (DataW H0)), d = .slice Ds sp ∧ Ds.length = xs.length ∧ ∀ (i : Nat) (a : α) (D : DataW H0), xs[i]? = some a → Ds[i]? = some D → R a D) (h : ∀ a D, R a D → Q a) : ∀ x ∈ xs, Q x := fun x hx => by
  rcases hd with ⟨_, rfl⟩ | ⟨Ds, sp, h1, h2, h3⟩
  · cases hx
  · obtain ⟨i, hi⟩ := List.getElem?_of_mem hx
    have hlt := (List.getElem?_eq_some_iff.1 hi).1
    exact h x _ (h3 i x Ds[i] hi (List.getElem?_eq_getElem (by omega)))
theorem trod_graph {t e q : TypeId} (ht : P.underlying t = some (.slice e)) (he : P.underlying e = some (.slice q)) (hq : P.underlying q = some (.int .i64)) (hc : P.cellsOf e = 1) (hcq : P.cellsOf q = 1)
    {fuel : Nat} {cs : List Value} {d : DataW H0} {ps : List MemPlace} (h : DataW.trod enc P W 0 (fun _ => true) true fuel t cs = some (d, ps)) :
    ∃ (v : Value) (xs : List (Value × List Int)), cs = [v] ∧ Row (fun b => W.heap[b]?) v 1 xs.length (xs.flatMap gcs) ∧ (∀ x ∈ xs, Row (fun b => W.heap[b]?) x.1 1 x.2.length (x.2.flatMap (icsk .i64))) ∧ GraphD xs d := by
  obtain ⟨v', xs, hcs, hrow, hd⟩ := trod_slice (f := gcs) (by decide) gcs_len (fun x D => Row (fun b => W.heap[b]?) x.1 1 x.2.length (x.2.flatMap (icsk .i64)) ∧ ((D = .nil ∧ x.2 = []) ∨ ∃ (Ds sp : List (DataW H0)), D = .slice Ds sp ∧ Ds.length = x.2.length)) ht hc (fun fuel cs D Pl h => by
    obtain ⟨v2, ys, rfl, hr2, hd2⟩ := trod_slice (f := icsk .i64) (by decide) (icsk_len .i64) (fun _ _ => True) he hcq (fun fuel cs D Pl h => by
      obtain ⟨y, rfl, _, hw⟩ := DataW.trod_int hq h
      exact ⟨y, rfl, trivial⟩) h
    exact ⟨(v2, ys), rfl, hr2, hd2.imp id fun ⟨Ds, sp, h1, h2, _⟩ => ⟨Ds, sp, h1, h2⟩⟩) h
  exact ⟨v', xs, hcs, hrow, slice_all hd fun _ _ h => h.1, hd.imp id fun ⟨Ds, sp, h1, h2, h3⟩ => ⟨Ds, sp, h1, h2, fun i a D ha hD => (h3 i a D ha hD).2⟩⟩
abbrev gTw (t : Value × List En) : List Value := [t.1]
theorem trod_trees {t q e ts tu : TypeId} {f0 f1 : Field} (ht : P.underlying t = some (.slice q)) (hq : P.underlying q = some (.slice e)) (he : P.underlying e = some (.struct #[f0, f1])) (h0 : f0.type = ts ∧ f0.offset = 0) (h1 : f1.type = tu ∧ f1.offset = 1)
    (hs : P.underlying ts = some .string) (hu : P.underlying tu = some (.int .u32)) (hc : P.cellsOf e = 2) (hcs : P.cellsOf ts = 1) (hcu : P.cellsOf tu = 1) (hcq : P.cellsOf q = 1)
    {fuel : Nat} {cs : List Value} {d : DataW H0} {ps : List MemPlace} (h : DataW.trod enc P W 0 (fun _ => true) true fuel t cs = some (d, ps)) :
    ∃ (v : Value) (xs : List (Value × List En)), cs = [v] ∧ Row (fun b => W.heap[b]?) v 1 xs.length (xs.flatMap gTw) ∧ (∀ x ∈ xs, Row (fun b => W.heap[b]?) x.1 2 x.2.length (ens x.2) ∧ U32s x.2) := by
  haveI : Inhabited (Value × List En) := ⟨(.bool false, [])⟩
  obtain ⟨v', xs, hcs2, hrow, hd⟩ := trod_slice (f := gTw) (by decide) (fun _ => rfl) (fun x _ => Row (fun b => W.heap[b]?) x.1 2 x.2.length (ens x.2) ∧ U32s x.2) ht hcq (fun fuel cs D Pl h => by
    obtain ⟨v2, ys, rfl, hr2, hd2⟩ := trod_slice (f := enc1) (by decide) enc1_len (fun x _ => U32 x.2) hq hc (fun fuel cs D Pl h => by
      obtain ⟨y0, y1, n, _, hl, k0, k1⟩ := trod_struct2 he h
      rw [h0.1, h0.2, hcs] at k0
      rw [h1.1, h1.2, hcu] at k1
      obtain ⟨b, hb, _, _⟩ := DataW.trod_string hs k0
      obtain ⟨x, hx, _, hw⟩ := DataW.trod_int hu k1
      rw [hc] at hl
      match cs, hl with
      | [c0, c1], _ =>
        simp at hb hx
        subst hb hx
        exact ⟨(b, x), rfl, wf_u32 hw⟩) h
    exact ⟨(v2, ys), rfl, hr2, slice_all hd2 fun _ _ h => h⟩) h
  exact ⟨v', xs, hcs2, hrow, slice_all hd fun _ _ h => h⟩
theorem trod_bools {t e : TypeId} (ht : P.underlying t = some (.slice e)) (he : P.underlying e = some .bool) (hc : P.cellsOf e = 1) {fuel : Nat} {cs : List Value} {d : DataW H0} {ps : List MemPlace} (h : DataW.trod enc P W 0 (fun _ => true) true fuel t cs = some (d, ps)) :
    ∃ (v : Value) (xs : List Bool), cs = [v] ∧ Row (fun b => W.heap[b]?) v 1 xs.length (xs.map .bool) := by
  obtain ⟨v', xs, hcs, hrow, hd⟩ := trod_slice (f := fun b : Bool => [Value.bool b]) (by decide) (fun _ => rfl) (fun _ _ => True) ht hc (fun fuel cs D Pl h => by
    obtain ⟨y, rfl, _⟩ := DataW.trod_bool he h
    exact ⟨y, rfl, trivial⟩) h
  refine ⟨v', xs, hcs, ?_⟩
  have e : ∀ l : List Bool, l.flatMap (fun b : Bool => [Value.bool b]) = l.map .bool := fun l => by
    induction l with
    | nil => rfl
    | cons x l ih => rw [List.flatMap_cons, List.map_cons, ih]; rfl
  rwa [e] at hrow
/-- the types of a world's parts -/
structure WldT (P : Program) (t tG tS tI tTs tT tE ts tu tSet tBs tB : TypeId) : Prop where
  ok : ∃ f0 f1 f2 f3 g0 g1 g2 g3 h0 h1, P.underlying t = some (.struct #[f0, f1, f2, f3]) ∧ P.underlying tSet = some (.struct #[g0, g1, g2, g3]) ∧ P.underlying tE = some (.struct #[h0, h1]) ∧
    (f0.type = tG ∧ f0.offset = 0) ∧ (f1.type = tTs ∧ f1.offset = 1) ∧ (f2.type = tSet ∧ f2.offset = 2) ∧ (f3.type = tBs ∧ f3.offset = 6) ∧
    (g0.type = tI ∧ g0.offset = 0) ∧ (g1.type = tI ∧ g1.offset = 1) ∧ (g2.type = tI ∧ g2.offset = 2) ∧ (g3.type = tu ∧ g3.offset = 3) ∧ (h0.type = ts ∧ h0.offset = 0) ∧ (h1.type = tu ∧ h1.offset = 1)
  uG : P.underlying tG = some (.slice tS)
  uS : P.underlying tS = some (.slice tI)
  uI : P.underlying tI = some (.int .i64)
  uTs : P.underlying tTs = some (.slice tT)
  uT : P.underlying tT = some (.slice tE)
  us : P.underlying ts = some .string
  uu : P.underlying tu = some (.int .u32)
  uBs : P.underlying tBs = some (.slice tB)
  uB : P.underlying tB = some .bool
  c : P.cellsOf t = 7 ∧ P.cellsOf tG = 1 ∧ P.cellsOf tS = 1 ∧ P.cellsOf tI = 1 ∧ P.cellsOf tTs = 1 ∧ P.cellsOf tT = 1 ∧ P.cellsOf tE = 2 ∧ P.cellsOf ts = 1 ∧ P.cellsOf tu = 1 ∧ P.cellsOf tSet = 4 ∧ P.cellsOf tBs = 1 ∧ P.cellsOf tB = 1
theorem seed_int {x : Int} (h : U32 x) : Value.int .u32 x = .int .u32 ((BitVec.ofInt 32 x).toNat : Nat) := by
  obtain ⟨h1, h2⟩ := h
  congr 1
  rw [BitVec.toNat_ofInt]
  omega
theorem arg_world {t tG tS tI tTs tT tE ts tu tSet tBs tB : TypeId} (hT : WldT P t tG tS tI tTs tT tE ts tu tSet tBs tB) {v : Value} {d : DataW H0} {ps : List MemPlace} {r : Go.Reach} {b0 : Nat} (hv : Value.okWide P W r b0 t v) (h : DataW.Trod enc P W 0 (fun _ => true) true t v d ps) :
    ∃ (vG vT vF : Value) (S : Sett) (G : List (Value × List Int)) (T : List (Value × List En)) (F : List Bool), v = .agg #[vG, vT, .int .i64 S.ha, .int .i64 S.pe, .int .i64 S.mo, .int .u32 (S.seed.toNat : Nat), vF] ∧
      (Row (fun b => W.heap[b]?) vG 1 G.length (G.flatMap gcs) ∧ ∀ x ∈ G, Row (fun b => W.heap[b]?) x.1 1 x.2.length (x.2.flatMap (icsk .i64))) ∧ Row (fun b => W.heap[b]?) vT 1 T.length (T.flatMap gTw) ∧ (∀ x ∈ T, Row (fun b => W.heap[b]?) x.1 2 x.2.length (ens x.2) ∧ U32s x.2) ∧
      Row (fun b => W.heap[b]?) vF 1 F.length (F.map .bool) ∧ ∃ dG d1 d2 d3, d = .agg [dG, d1, d2, d3] ∧ GraphD G dG := by
  obtain ⟨f0, f1, f2, f3, g0, g1, g2, g3, h0, h1, ht, hS, hE, e0, e1, e2, e3, k0, k1, k2, k3, m0, m1⟩ := hT.ok
  obtain ⟨c7, cG, cS, cI, cTs, cT, cE, cs, cu, cSet, cBs, cB⟩ := hT.c
  unfold Value.okWide at hv
  rw [ht] at hv
  obtain ⟨vs, rfl, hvs, _⟩ := hv
  obtain ⟨fuel, hh⟩ := h
  have hh : DataW.trod enc P W 0 (fun _ => true) true fuel t vs.toList = some (d, ps) := hh
  obtain ⟨xs, n, _, hx, hl, hlen, hel⟩ := DataW.trod_struct ht hh
  rw [c7] at hl
  match xs, hlen with
  | [y0, y1, y2, y3], _ =>
    have q0 := hel 0 f0 rfl
    have q1 := hel 1 f1 rfl
    have q2 := hel 2 f2 rfl
    have q3 := hel 3 f3 rfl
    rw [e0.1, e0.2, cG] at q0
    rw [e1.1, e1.2, cTs] at q1
    rw [e2.1, e2.2, cSet] at q2
    rw [e3.1, e3.2, cBs] at q3
    match hc : vs.toList, hl with
    | [c0, c1, c2, c3, c4, c5, c6], _ =>
      rw [hc] at q0 q1 q2 q3
      obtain ⟨v0, G, r0, hG, hGr, hGd⟩ := trod_graph hT.uG hT.uS hT.uI cS cI q0
      obtain ⟨v1, T, r1, hTr, hTe⟩ := trod_trees hT.uTs hT.uT hE m0 m1 hT.us hT.uu cE cs cu cT q1
      obtain ⟨v3, F, r3, hF⟩ := trod_bools hT.uBs hT.uB cB q3
      obtain ⟨zs, n2, _, hz, hzl, hzlen, hzel⟩ := DataW.trod_struct hS q2
      match zs, hzlen with
      | [z0, z1, z2, z3], _ =>
        have p0 := hzel 0 g0 rfl
        have p1 := hzel 1 g1 rfl
        have p2 := hzel 2 g2 rfl
        have p3 := hzel 3 g3 rfl
        rw [k0.1, k0.2, cI] at p0
        rw [k1.1, k1.2, cI] at p1
        rw [k2.1, k2.2, cI] at p2
        rw [k3.1, k3.2, cu] at p3
        obtain ⟨n0, s0, _, _⟩ := DataW.trod_int hT.uI p0
        obtain ⟨n1, s1, _, _⟩ := DataW.trod_int hT.uI p1
        obtain ⟨n2, s2, _, _⟩ := DataW.trod_int hT.uI p2
        obtain ⟨n3, s3, _, w3⟩ := DataW.trod_int hT.uu p3
        simp at r0 r1 r3 s0 s1 s2 s3
        subst r0 r1 r3 s0 s1 s2 s3
        have e : vs = #[c0, c1, .int .i64 n0, .int .i64 n1, .int .i64 n2, .int .u32 n3, c6] := by rw [← Array.toList_inj, hc]
        refine ⟨c0, c1, c6, ⟨n0, n1, n2, BitVec.ofInt 32 n3⟩, G, T, F, ?_, ⟨hG, hGr⟩, hTr, hTe, hF, y0.1, y1.1, y2.1, y3.1, (Prod.mk.inj hx).1, hGd⟩
        rw [e]
        dsimp only
        rw [← seed_int (wf_u32 w3)]
end SX
namespace SX
open Go Go.ChangeShapes Go.WideShapes Go.ChangeAt Go.RowKit
variable {P : Program} {W : World} {H0 : Type} {enc : TypeId × Value → H0}
theorem arg_three {t ti : TypeId} (hF : ∃ g0 g1 g2, P.underlying t = some (.struct #[g0, g1, g2]) ∧ (g0.type = ti ∧ g0.offset = 0) ∧ (g1.type = ti ∧ g1.offset = 1) ∧ g2.type = ti ∧ g2.offset = 2) (ui : P.underlying ti = some (.int .i64))
    (cs : P.cellsOf ti = 1 ∧ P.cellsOf t = 3) {v : Value} {d : DataW H0} {ps : List MemPlace} {r : Go.Reach} {b0 : Nat} (hv : Value.okWide P W r b0 t v) (h : DataW.Trod enc P W 0 (fun _ => true) true t v d ps) :
    ∃ a b c : Int, v = .agg #[.int .i64 a, .int .i64 b, .int .i64 c] := by
  obtain ⟨g0, g1, g2, hf, k0, k1, k2⟩ := hF
  obtain ⟨cI, cF⟩ := cs
  unfold Value.okWide at hv
  rw [hf] at hv
  obtain ⟨vs, rfl, hvs, _⟩ := hv
  obtain ⟨fuel, hh⟩ := h
  have hh : DataW.trod enc P W 0 (fun _ => true) true fuel t vs.toList = some (d, ps) := hh
  obtain ⟨xs, n, _, hx, hl, hlen, hel⟩ := DataW.trod_struct hf hh
  rw [cF] at hl
  match xs, hlen with
  | [y0, y1, y2], _ =>
    have q0 := hel 0 g0 rfl
    have q1 := hel 1 g1 rfl
    have q2 := hel 2 g2 rfl
    rw [k0.1, k0.2, cI] at q0
    rw [k1.1, k1.2, cI] at q1
    rw [k2.1, k2.2, cI] at q2
    match hc : vs.toList, hl with
    | [c0, c1, c2], _ =>
      rw [hc] at q0 q1 q2
      obtain ⟨n0, s0, _, _⟩ := DataW.trod_int ui q0
      obtain ⟨n1, s1, _, _⟩ := DataW.trod_int ui q1
      obtain ⟨n2, s2, _, _⟩ := DataW.trod_int ui q2
      simp at s0 s1 s2
      subst s0 s1 s2
      exact ⟨n0, n1, n2, by congr 1; rw [← Array.toList_inj, hc]⟩
end SX
namespace SX
open Go Go.Proofs
instance : Body Tryz.prog 2 := ⟨_, Tryz.func2, rfl, by decide⟩
instance : Body Tryz.prog 3 := ⟨_, Tryz.func3, rfl, by decide⟩
instance : Body Tryz.prog 4 := ⟨_, Tryz.func4, rfl, by decide⟩
instance : Body Tryz.prog 5 := ⟨_, Tryz.func5, rfl, by decide⟩
instance : Body Tryz.prog 6 := ⟨_, Tryz.func6, rfl, by decide⟩
instance : Body Tryz.prog 7 := ⟨_, Tryz.func7, rfl, by decide⟩
instance : Body Tryz.prog 8 := ⟨_, Tryz.func8, rfl, by decide⟩
instance : Body Tryz.prog 9 := ⟨_, Tryz.func9, rfl, by decide⟩
instance : Body Tryz.prog 10 := ⟨_, Tryz.func10, rfl, by decide⟩
instance : Body Tryz.prog 11 := ⟨_, Tryz.func11, rfl, by decide⟩
instance : Body Tryz.prog 12 := ⟨_, Tryz.func12, rfl, by decide⟩
instance : Body Tryz.prog 13 := ⟨_, Tryz.func13, rfl, by decide⟩
instance : Body Tryz.prog 14 := ⟨_, Tryz.func14, rfl, by decide⟩
instance : Body Tryz.prog 15 := ⟨_, Tryz.func15, rfl, by decide⟩
instance : Body Tryz.prog 16 := ⟨_, Tryz.func16, rfl, by decide⟩
instance : Body Tryz.prog 17 := ⟨_, Tryz.func17, rfl, by decide⟩
instance : Body Tryz.prog 18 := ⟨_, Tryz.func18, rfl, by decide⟩
instance : Body Tryz.prog 19 := ⟨_, Tryz.func19, rfl, by decide⟩
instance : Body Tryz.prog 20 := ⟨_, Tryz.func20, rfl, by decide⟩
instance : Body Tryz.prog 21 := ⟨_, Tryz.func21, rfl, by decide⟩
instance : Body Tryz.prog 22 := ⟨_, Tryz.func22, rfl, by decide⟩
instance : Body Tryz.prog 23 := ⟨_, Tryz.func23, rfl, by decide⟩
instance : Body Tryz.prog 24 := ⟨_, Tryz.func24, rfl, by decide⟩
instance : Body Tryz.prog 25 := ⟨_, Tryz.func25, rfl, by decide⟩
instance : Body Tryz.prog 26 := ⟨_, Tryz.func26, rfl, by decide⟩
instance : Body Tryz.prog 27 := ⟨_, Tryz.func27, rfl, by decide⟩
instance : Body Tryz.prog 28 := ⟨_, Tryz.func28, rfl, by decide⟩
instance : Body Tryz.prog 29 := ⟨_, Tryz.func29, rfl, by decide⟩
instance : Body Tryz.prog 30 := ⟨_, Tryz.func30, rfl, by decide⟩
instance : Body Tryz.prog 31 := ⟨_, Tryz.func31, rfl, by decide⟩
instance : Body Tryz.prog 32 := ⟨_, Tryz.func32, rfl, by decide⟩
instance : Body Tryz.prog 33 := ⟨_, Tryz.func33, rfl, by decide⟩
instance : Body Tryz.prog 34 := ⟨_, Tryz.func34, rfl, by decide⟩
instance : Body Tryz.prog 35 := ⟨_, Tryz.func35, rfl, by decide⟩
instance : Body Tryz.prog 36 := ⟨_, Tryz.func36, rfl, by decide⟩
instance : Body Tryz.prog 37 := ⟨_, Tryz.func37, rfl, by decide⟩
instance : Body Tryz.prog 38 := ⟨_, Tryz.func38, rfl, by decide⟩
instance : Body Tryz.prog 39 := ⟨_, Tryz.func39, rfl, by decide⟩
instance : Body Tryz.prog 40 := ⟨_, Tryz.func40, rfl, by decide⟩
instance : Body Tryz.prog 41 := ⟨_, Tryz.func41, rfl, by decide⟩
instance : Body Tryz.prog 42 := ⟨_, Tryz.func42, rfl, by decide⟩
instance : Body Tryz.prog 43 := ⟨_, Tryz.func43, rfl, by decide⟩
instance : Body Tryz.prog 44 := ⟨_, Tryz.func44, rfl, by decide⟩
instance : Body Tryz.prog 45 := ⟨_, Tryz.func45, rfl, by decide⟩
instance : Body Tryz.prog 46 := ⟨_, Tryz.func46, rfl, by decide⟩
instance : Body Tryz.prog 47 := ⟨_, Tryz.func47, rfl, by decide⟩
instance : Body Tryz.prog 48 := ⟨_, Tryz.func48, rfl, by decide⟩
instance : Body Tryz.prog 49 := ⟨_, Tryz.func49, rfl, by decide⟩
instance : Body Tryz.prog 50 := ⟨_, Tryz.func50, rfl, by decide⟩
instance : Body Tryz.prog 51 := ⟨_, Tryz.func51, rfl, by decide⟩
instance : Body Tryz.prog 52 := ⟨_, Tryz.func52, rfl, by decide⟩
instance : Body Tryz.prog 53 := ⟨_, Tryz.func53, rfl, by decide⟩
instance : Body Tryz.prog 54 := ⟨_, Tryz.func54, rfl, by decide⟩
instance : Body Tryz.prog 55 := ⟨_, Tryz.func55, rfl, by decide⟩
instance : Body Tryz.prog 56 := ⟨_, Tryz.func56, rfl, by decide⟩
instance : Body Tryz.prog 57 := ⟨_, Tryz.func57, rfl, by decide⟩
instance : Body Tryz.prog 58 := ⟨_, Tryz.func58, rfl, by decide⟩
instance : Body Tryz.prog 59 := ⟨_, Tryz.func59, rfl, by decide⟩
instance : Body Tryz.prog 60 := ⟨_, Tryz.func60, rfl, by decide⟩
instance : Body Tryz.prog 61 := ⟨_, Tryz.func61, rfl, by decide⟩
instance : Body Tryz.prog 62 := ⟨_, Tryz.func62, rfl, by decide⟩
instance : Body Tryz.prog 63 := ⟨_, Tryz.func63, rfl, by decide⟩
instance : Body Tryz.prog 64 := ⟨_, Tryz.func64, rfl, by decide⟩
instance : Body Tryz.prog 65 := ⟨_, Tryz.func65, rfl, by decide⟩
instance : Body Tryz.prog 66 := ⟨_, Tryz.func66, rfl, by decide⟩
instance : Body Tryz.prog 67 := ⟨_, Tryz.func67, rfl, by decide⟩
instance : Body Tryz.prog 68 := ⟨_, Tryz.func68, rfl, by decide⟩
instance : Body Tryz.prog 69 := ⟨_, Tryz.func69, rfl, by decide⟩
instance : Body Tryz.prog 70 := ⟨_, Tryz.func70, rfl, by decide⟩
instance : Body Tryz.prog 71 := ⟨_, Tryz.func71, rfl, by decide⟩
instance : Body Tryz.prog 72 := ⟨_, Tryz.func72, rfl, by decide⟩
instance : Body Tryz.prog 73 := ⟨_, Tryz.func73, rfl, by decide⟩
instance : Body Tryz.prog 74 := ⟨_, Tryz.func74, rfl, by decide⟩
instance : Body Tryz.prog 75 := ⟨_, Tryz.func75, rfl, by decide⟩
instance : Body Tryz.prog 76 := ⟨_, Tryz.func76, rfl, by decide⟩
instance : Body Tryz.prog 77 := ⟨_, Tryz.func77, rfl, by decide⟩
instance : Body Tryz.prog 78 := ⟨_, Tryz.func78, rfl, by decide⟩
instance : Body Tryz.prog 79 := ⟨_, Tryz.func79, rfl, by decide⟩
instance : Body Tryz.prog 80 := ⟨_, Tryz.func80, rfl, by decide⟩
instance : Body Tryz.prog 81 := ⟨_, Tryz.func81, rfl, by decide⟩
instance : Body Tryz.prog 82 := ⟨_, Tryz.func82, rfl, by decide⟩
instance : Body Tryz.prog 83 := ⟨_, Tryz.func83, rfl, by decide⟩
instance : Body Tryz.prog 84 := ⟨_, Tryz.func84, rfl, by decide⟩
instance : Body Tryz.prog 85 := ⟨_, Tryz.func85, rfl, by decide⟩
instance : Body Tryz.prog 86 := ⟨_, Tryz.func86, rfl, by decide⟩
instance : Body Tryz.prog 87 := ⟨_, Tryz.func87, rfl, by decide⟩
instance : Body Tryz.prog 88 := ⟨_, Tryz.func88, rfl, by decide⟩
instance : Body Tryz.prog 89 := ⟨_, Tryz.func89, rfl, by decide⟩
instance : Body Tryz.prog 90 := ⟨_, Tryz.func90, rfl, by decide⟩
instance : Body Tryz.prog 91 := ⟨_, Tryz.func91, rfl, by decide⟩
instance : Body Tryz.prog 92 := ⟨_, Tryz.func92, rfl, by decide⟩
instance : Body Tryz.prog 93 := ⟨_, Tryz.func93, rfl, by decide⟩
instance : Body Tryz.prog 94 := ⟨_, Tryz.func94, rfl, by decide⟩
instance : Body Tryz.prog 95 := ⟨_, Tryz.func95, rfl, by decide⟩
instance : Body Tryz.prog 96 := ⟨_, Tryz.func96, rfl, by decide⟩
instance : Body Tryz.prog 97 := ⟨_, Tryz.func97, rfl, by decide⟩
instance : Body Tryz.prog 98 := ⟨_, Tryz.func98, rfl, by decide⟩
instance : Body Tryz.prog 99 := ⟨_, Tryz.func99, rfl, by decide⟩
instance : Body Tryz.prog 100 := ⟨_, Tryz.func100, rfl, by decide⟩
instance : Body Tryz.prog 101 := ⟨_, Tryz.func101, rfl, by decide⟩
instance : Body Tryz.prog 102 := ⟨_, Tryz.func102, rfl, by decide⟩
instance : Body Tryz.prog 103 := ⟨_, Tryz.func103, rfl, by decide⟩
instance : Body Tryz.prog 104 := ⟨_, Tryz.func104, rfl, by decide⟩
instance : Body Tryz.prog 105 := ⟨_, Tryz.func105, rfl, by decide⟩
instance : Body Tryz.prog 106 := ⟨_, Tryz.func106, rfl, by decide⟩
instance : Body Tryz.prog 108 := ⟨_, Tryz.func108, rfl, by decide⟩
instance : Body Tryz.prog 109 := ⟨_, Tryz.func109, rfl, by decide⟩
instance : Body Tryz.prog 125 := ⟨_, Tryz.func125, rfl, by decide⟩
instance : Body Tryz.prog 126 := ⟨_, Tryz.func126, rfl, by decide⟩
instance : Body Tryz.prog 128 := ⟨_, Tryz.func128, rfl, by decide⟩
instance : Body Tryz.prog 130 := ⟨_, Tryz.func130, rfl, by decide⟩
instance : Body Tryz.prog 137 := ⟨_, Tryz.func137, rfl, by decide⟩
instance : Meth Tryz.prog 33 "Content" 126 := ⟨by intro k v w; kernel_rfl⟩
instance : Meth Tryz.prog 128 "Before" 130 := ⟨by intro k v w; kernel_rfl⟩
instance : TOne Tryz.prog 3 := ⟨by kernel_rfl, by kernel_rfl⟩
instance : TZero Tryz.prog 3 [(.int .i64 0)] := ⟨by kernel_rfl⟩
instance : TInt Tryz.prog 3 .i64 := ⟨Tryz.underlying3⟩
instance : TConc Tryz.prog 3 := ⟨_, Tryz.underlying3, rfl⟩
instance : TOne Tryz.prog 4 := ⟨by kernel_rfl, by kernel_rfl⟩
instance : TZero Tryz.prog 4 [(.bool false)] := ⟨by kernel_rfl⟩
instance : TBool Tryz.prog 4 := ⟨Tryz.underlying4⟩
instance : TConc Tryz.prog 4 := ⟨_, Tryz.underlying4, rfl⟩
instance : TOne Tryz.prog 5 := ⟨by kernel_rfl, by kernel_rfl⟩
instance : TZero Tryz.prog 5 [(.int .u8 0)] := ⟨by kernel_rfl⟩
instance : TInt Tryz.prog 5 .u8 := ⟨Tryz.underlying5⟩
instance : TConc Tryz.prog 5 := ⟨_, Tryz.underlying5, rfl⟩
instance : TOne Tryz.prog 9 := ⟨by kernel_rfl, by kernel_rfl⟩
instance : TZero Tryz.prog 9 [(.string ⟨#[]⟩)] := ⟨by kernel_rfl⟩
instance : TStr Tryz.prog 9 := ⟨Tryz.underlying9⟩
instance : TConc Tryz.prog 9 := ⟨_, Tryz.underlying9, rfl⟩
instance : TOne Tryz.prog 22 := ⟨by kernel_rfl, by kernel_rfl⟩
instance : TZero Tryz.prog 22 [(.slice none 0 0)] := ⟨by kernel_rfl⟩
instance : TSl Tryz.prog 22 44 1 24 := ⟨Tryz.underlying22, by kernel_rfl⟩
instance : TConc Tryz.prog 22 := ⟨_, Tryz.underlying22, rfl⟩
instance : TOne Tryz.prog 23 := ⟨by kernel_rfl, by kernel_rfl⟩
instance : TZero Tryz.prog 23 [(.slice none 0 0)] := ⟨by kernel_rfl⟩
instance : TSl Tryz.prog 23 35 1 24 := ⟨Tryz.underlying23, by kernel_rfl⟩
instance : TConc Tryz.prog 23 := ⟨_, Tryz.underlying23, rfl⟩
instance : TOne Tryz.prog 24 := ⟨by kernel_rfl, by kernel_rfl⟩
instance : TZero Tryz.prog 24 [(.int .u32 0)] := ⟨by kernel_rfl⟩
instance : TInt Tryz.prog 24 .u32 := ⟨Tryz.underlying24⟩
instance : TConc Tryz.prog 24 := ⟨_, Tryz.underlying24, rfl⟩
instance : TAgg Tryz.prog 26 4 := ⟨by kernel_rfl, by kernel_rfl⟩
instance : TZero Tryz.prog 26 [(.int .i64 0), (.int .i64 0), (.int .i64 0), (.int .u32 0)] := ⟨by kernel_rfl⟩
instance : TBld Tryz.prog 26 [(.int .i64 0), (.int .i64 0), (.int .i64 0), (.int .u32 0)] [(0, 1), (1, 1), (2, 1), (3, 1)] := ⟨by kernel_rfl, by kernel_rfl⟩
instance : TFld Tryz.prog 26 0 0 := ⟨by kernel_rfl⟩
instance : TPart Tryz.prog 26 0 0 1 false := ⟨by kernel_rfl⟩
instance : TFld Tryz.prog 26 1 1 := ⟨by kernel_rfl⟩
instance : TPart Tryz.prog 26 1 1 1 false := ⟨by kernel_rfl⟩
instance : TFld Tryz.prog 26 2 2 := ⟨by kernel_rfl⟩
instance : TPart Tryz.prog 26 2 2 1 false := ⟨by kernel_rfl⟩
instance : TFld Tryz.prog 26 3 3 := ⟨by kernel_rfl⟩
instance : TPart Tryz.prog 26 3 3 1 false := ⟨by kernel_rfl⟩
instance : TConc Tryz.prog 26 := ⟨_, Tryz.underlying26, rfl⟩
instance : TOne Tryz.prog 27 := ⟨by kernel_rfl, by kernel_rfl⟩
instance : TZero Tryz.prog 27 [(.slice none 0 0)] := ⟨by kernel_rfl⟩
instance : TSl Tryz.prog 27 4 1 1 := ⟨Tryz.underlying27, by kernel_rfl⟩
instance : TConc Tryz.prog 27 := ⟨_, Tryz.underlying27, rfl⟩
instance : TAgg Tryz.prog 29 7 := ⟨by kernel_rfl, by kernel_rfl⟩
instance : TZero Tryz.prog 29 [(.slice none 0 0), (.slice none 0 0), (.int .i64 0), (.int .i64 0), (.int .i64 0), (.int .u32 0), (.slice none 0 0)] := ⟨by kernel_rfl⟩
instance : TBld Tryz.prog 29 [(.slice none 0 0), (.slice none 0 0), (.int .i64 0), (.int .i64 0), (.int .i64 0), (.int .u32 0), (.slice none 0 0)] [(0, 1), (1, 1), (2, 4), (6, 1)] := ⟨by kernel_rfl, by kernel_rfl⟩
instance : TFld Tryz.prog 29 0 0 := ⟨by kernel_rfl⟩
instance : TPart Tryz.prog 29 0 0 1 false := ⟨by kernel_rfl⟩
instance : TFld Tryz.prog 29 1 1 := ⟨by kernel_rfl⟩
instance : TPart Tryz.prog 29 1 1 1 false := ⟨by kernel_rfl⟩
instance : TFld Tryz.prog 29 2 2 := ⟨by kernel_rfl⟩
instance : TPart Tryz.prog 29 2 2 4 true := ⟨by kernel_rfl⟩
instance : TFld Tryz.prog 29 3 6 := ⟨by kernel_rfl⟩
instance : TPart Tryz.prog 29 3 6 1 false := ⟨by kernel_rfl⟩
instance : TConc Tryz.prog 29 := ⟨_, Tryz.underlying29, rfl⟩
instance : TAgg Tryz.prog 31 3 := ⟨by kernel_rfl, by kernel_rfl⟩
instance : TZero Tryz.prog 31 [(.int .i64 0), (.int .i64 0), (.int .i64 0)] := ⟨by kernel_rfl⟩
instance : TBld Tryz.prog 31 [(.int .i64 0), (.int .i64 0), (.int .i64 0)] [(0, 1), (1, 1), (2, 1)] := ⟨by kernel_rfl, by kernel_rfl⟩
instance : TFld Tryz.prog 31 0 0 := ⟨by kernel_rfl⟩
instance : TPart Tryz.prog 31 0 0 1 false := ⟨by kernel_rfl⟩
instance : TFld Tryz.prog 31 1 1 := ⟨by kernel_rfl⟩
instance : TPart Tryz.prog 31 1 1 1 false := ⟨by kernel_rfl⟩
instance : TFld Tryz.prog 31 2 2 := ⟨by kernel_rfl⟩
instance : TPart Tryz.prog 31 2 2 1 false := ⟨by kernel_rfl⟩
instance : TConc Tryz.prog 31 := ⟨_, Tryz.underlying31, rfl⟩
instance : TOne Tryz.prog 33 := ⟨by kernel_rfl, by kernel_rfl⟩
instance : TZero Tryz.prog 33 [(.pointer none)] := ⟨by kernel_rfl⟩
instance : TPtr Tryz.prog 33 := ⟨_, Tryz.underlying33⟩
instance : TConc Tryz.prog 33 := ⟨_, Tryz.underlying33, rfl⟩
instance : TOne Tryz.prog 35 := ⟨by kernel_rfl, by kernel_rfl⟩
instance : TZero Tryz.prog 35 [(.slice none 0 0)] := ⟨by kernel_rfl⟩
instance : TSl Tryz.prog 35 49 2 24 := ⟨Tryz.underlying35, by kernel_rfl⟩
instance : TConc Tryz.prog 35 := ⟨_, Tryz.underlying35, rfl⟩
instance : TOne Tryz.prog 36 := ⟨by kernel_rfl, by kernel_rfl⟩
instance : TZero Tryz.prog 36 [(.int .i64 0)] := ⟨by kernel_rfl⟩
instance : TInt Tryz.prog 36 .i64 := ⟨Tryz.underlying36⟩
instance : TConc Tryz.prog 36 := ⟨_, Tryz.underlying36, rfl⟩
instance : TOne Tryz.prog 40 := ⟨by kernel_rfl, by kernel_rfl⟩
instance : TZero Tryz.prog 40 [(.pointer none)] := ⟨by kernel_rfl⟩
instance : TPtr Tryz.prog 40 := ⟨_, Tryz.underlying40⟩
instance : TConc Tryz.prog 40 := ⟨_, Tryz.underlying40, rfl⟩
instance : TOne Tryz.prog 41 := ⟨by kernel_rfl, by kernel_rfl⟩
instance : TZero Tryz.prog 41 [(.slice none 0 0)] := ⟨by kernel_rfl⟩
instance : TSl Tryz.prog 41 61 2 24 := ⟨Tryz.underlying41, by kernel_rfl⟩
instance : TConc Tryz.prog 41 := ⟨_, Tryz.underlying41, rfl⟩
instance : TAgg Tryz.prog 43 9 := ⟨by kernel_rfl, by kernel_rfl⟩
instance : TZero Tryz.prog 43 [(.pointer none), (.slice none 0 0), (.int .i64 0), (.int .i64 0), (.int .i64 0), (.int .u32 0), (.slice none 0 0), (.slice none 0 0), (.slice none 0 0)] := ⟨by kernel_rfl⟩
instance : TBld Tryz.prog 43 [(.pointer none), (.slice none 0 0), (.int .i64 0), (.int .i64 0), (.int .i64 0), (.int .u32 0), (.slice none 0 0), (.slice none 0 0), (.slice none 0 0)] [(0, 1), (1, 1), (2, 4), (6, 1), (7, 1), (8, 1)] := ⟨by kernel_rfl, by kernel_rfl⟩
instance : TFld Tryz.prog 43 0 0 := ⟨by kernel_rfl⟩
instance : TPart Tryz.prog 43 0 0 1 false := ⟨by kernel_rfl⟩
instance : TFld Tryz.prog 43 1 1 := ⟨by kernel_rfl⟩
instance : TPart Tryz.prog 43 1 1 1 false := ⟨by kernel_rfl⟩
instance : TFld Tryz.prog 43 2 2 := ⟨by kernel_rfl⟩
instance : TPart Tryz.prog 43 2 2 4 true := ⟨by kernel_rfl⟩
instance : TFld Tryz.prog 43 3 6 := ⟨by kernel_rfl⟩
instance : TPart Tryz.prog 43 3 6 1 false := ⟨by kernel_rfl⟩
instance : TFld Tryz.prog 43 4 7 := ⟨by kernel_rfl⟩
instance : TPart Tryz.prog 43 4 7 1 false := ⟨by kernel_rfl⟩
instance : TFld Tryz.prog 43 5 8 := ⟨by kernel_rfl⟩
instance : TPart Tryz.prog 43 5 8 1 false := ⟨by kernel_rfl⟩
instance : TConc Tryz.prog 43 := ⟨_, Tryz.underlying43, rfl⟩
instance : TOne Tryz.prog 44 := ⟨by kernel_rfl, by kernel_rfl⟩
instance : TZero Tryz.prog 44 [(.slice none 0 0)] := ⟨by kernel_rfl⟩
instance : TSl Tryz.prog 44 3 1 8 := ⟨Tryz.underlying44, by kernel_rfl⟩
instance : TConc Tryz.prog 44 := ⟨_, Tryz.underlying44, rfl⟩
instance : TAgg Tryz.prog 46 3 := ⟨by kernel_rfl, by kernel_rfl⟩
instance : TZero Tryz.prog 46 [(.slice none 0 0), (.slice none 0 0), (.slice none 0 0)] := ⟨by kernel_rfl⟩
instance : TBld Tryz.prog 46 [(.slice none 0 0), (.slice none 0 0), (.slice none 0 0)] [(0, 1), (1, 1), (2, 1)] := ⟨by kernel_rfl, by kernel_rfl⟩
instance : TFld Tryz.prog 46 0 0 := ⟨by kernel_rfl⟩
instance : TPart Tryz.prog 46 0 0 1 false := ⟨by kernel_rfl⟩
instance : TFld Tryz.prog 46 1 1 := ⟨by kernel_rfl⟩
instance : TPart Tryz.prog 46 1 1 1 false := ⟨by kernel_rfl⟩
instance : TFld Tryz.prog 46 2 2 := ⟨by kernel_rfl⟩
instance : TPart Tryz.prog 46 2 2 1 false := ⟨by kernel_rfl⟩
instance : TConc Tryz.prog 46 := ⟨_, Tryz.underlying46, rfl⟩
instance : TAgg Tryz.prog 49 2 := ⟨by kernel_rfl, by kernel_rfl⟩
instance : TZero Tryz.prog 49 [(.string ⟨#[]⟩), (.int .u32 0)] := ⟨by kernel_rfl⟩
instance : TBld Tryz.prog 49 [(.string ⟨#[]⟩), (.int .u32 0)] [(0, 1), (1, 1)] := ⟨by kernel_rfl, by kernel_rfl⟩
instance : TEqN Tryz.prog 49 [true, false] := ⟨by kernel_rfl, by kernel_rfl, by kernel_rfl, by kernel_rfl⟩
instance : TFld Tryz.prog 49 0 0 := ⟨by kernel_rfl⟩
instance : TPart Tryz.prog 49 0 0 1 false := ⟨by kernel_rfl⟩
instance : TFld Tryz.prog 49 1 1 := ⟨by kernel_rfl⟩
instance : TPart Tryz.prog 49 1 1 1 false := ⟨by kernel_rfl⟩
instance : TConc Tryz.prog 49 := ⟨_, Tryz.underlying49, rfl⟩
instance : TOne Tryz.prog 50 := ⟨by kernel_rfl, by kernel_rfl⟩
instance : TZero Tryz.prog 50 [(.slice none 0 0)] := ⟨by kernel_rfl⟩
instance : TSl Tryz.prog 50 88 4 32 := ⟨Tryz.underlying50, by kernel_rfl⟩
instance : TConc Tryz.prog 50 := ⟨_, Tryz.underlying50, rfl⟩
instance : TAgg Tryz.prog 61 2 := ⟨by kernel_rfl, by kernel_rfl⟩
instance : TZero Tryz.prog 61 [(.int .i64 0), (.string ⟨#[]⟩)] := ⟨by kernel_rfl⟩
instance : TBld Tryz.prog 61 [(.int .i64 0), (.string ⟨#[]⟩)] [(0, 1), (1, 1)] := ⟨by kernel_rfl, by kernel_rfl⟩
instance : TEqN Tryz.prog 61 [false, true] := ⟨by kernel_rfl, by kernel_rfl, by kernel_rfl, by kernel_rfl⟩
instance : TFld Tryz.prog 61 0 0 := ⟨by kernel_rfl⟩
instance : TPart Tryz.prog 61 0 0 1 false := ⟨by kernel_rfl⟩
instance : TFld Tryz.prog 61 1 1 := ⟨by kernel_rfl⟩
instance : TPart Tryz.prog 61 1 1 1 false := ⟨by kernel_rfl⟩
instance : TConc Tryz.prog 61 := ⟨_, Tryz.underlying61, rfl⟩
instance : TOne Tryz.prog 66 := ⟨by kernel_rfl, by kernel_rfl⟩
instance : TZero Tryz.prog 66 [.nilIface] := ⟨by kernel_rfl⟩
instance : TOne Tryz.prog 68 := ⟨by kernel_rfl, by kernel_rfl⟩
instance : TZero Tryz.prog 68 [(.pointer none)] := ⟨by kernel_rfl⟩
instance : TPtr Tryz.prog 68 := ⟨_, Tryz.underlying68⟩
instance : TConc Tryz.prog 68 := ⟨_, Tryz.underlying68, rfl⟩
instance : TOne Tryz.prog 69 := ⟨by kernel_rfl, by kernel_rfl⟩
instance : TZero Tryz.prog 69 [(.slice none 0 0)] := ⟨by kernel_rfl⟩
instance : TSl Tryz.prog 69 74 3 72 := ⟨Tryz.underlying69, by kernel_rfl⟩
instance : TConc Tryz.prog 69 := ⟨_, Tryz.underlying69, rfl⟩
instance : TAgg Tryz.prog 71 4 := ⟨by kernel_rfl, by kernel_rfl⟩
instance : TZero Tryz.prog 71 [.nilIface, (.slice none 0 0), (.int .i64 0), (.int .i64 0)] := ⟨by kernel_rfl⟩
instance : TBld Tryz.prog 71 [.nilIface, (.slice none 0 0), (.int .i64 0), (.int .i64 0)] [(0, 1), (1, 1), (2, 1), (3, 1)] := ⟨by kernel_rfl, by kernel_rfl⟩
instance : TFld Tryz.prog 71 0 0 := ⟨by kernel_rfl⟩
instance : TPart Tryz.prog 71 0 0 1 false := ⟨by kernel_rfl⟩
instance : TFld Tryz.prog 71 1 1 := ⟨by kernel_rfl⟩
instance : TPart Tryz.prog 71 1 1 1 false := ⟨by kernel_rfl⟩
instance : TFld Tryz.prog 71 2 2 := ⟨by kernel_rfl⟩
instance : TPart Tryz.prog 71 2 2 1 false := ⟨by kernel_rfl⟩
instance : TFld Tryz.prog 71 3 3 := ⟨by kernel_rfl⟩
instance : TPart Tryz.prog 71 3 3 1 false := ⟨by kernel_rfl⟩
instance : TConc Tryz.prog 71 := ⟨_, Tryz.underlying71, rfl⟩
instance : TAgg Tryz.prog 74 3 := ⟨by kernel_rfl, by kernel_rfl⟩
instance : TZero Tryz.prog 74 [(.slice none 0 0), (.slice none 0 0), (.slice none 0 0)] := ⟨by kernel_rfl⟩
instance : TBld Tryz.prog 74 [(.slice none 0 0), (.slice none 0 0), (.slice none 0 0)] [(0, 1), (1, 1), (2, 1)] := ⟨by kernel_rfl, by kernel_rfl⟩
instance : TFld Tryz.prog 74 0 0 := ⟨by kernel_rfl⟩
instance : TPart Tryz.prog 74 0 0 1 false := ⟨by kernel_rfl⟩
instance : TFld Tryz.prog 74 1 1 := ⟨by kernel_rfl⟩
instance : TPart Tryz.prog 74 1 1 1 false := ⟨by kernel_rfl⟩
instance : TFld Tryz.prog 74 2 2 := ⟨by kernel_rfl⟩
instance : TPart Tryz.prog 74 2 2 1 false := ⟨by kernel_rfl⟩
instance : TConc Tryz.prog 74 := ⟨_, Tryz.underlying74, rfl⟩
instance : TOne Tryz.prog 78 := ⟨by kernel_rfl, by kernel_rfl⟩
instance : TZero Tryz.prog 78 [(.pointer none)] := ⟨by kernel_rfl⟩
instance : TPtr Tryz.prog 78 := ⟨_, Tryz.underlying78⟩
instance : TConc Tryz.prog 78 := ⟨_, Tryz.underlying78, rfl⟩
instance : TAgg Tryz.prog 81 4 := ⟨by kernel_rfl, by kernel_rfl⟩
instance : TZero Tryz.prog 81 [(.slice none 0 0), (.slice none 0 0), (.int .i64 0), (.int .i64 0)] := ⟨by kernel_rfl⟩
instance : TBld Tryz.prog 81 [(.slice none 0 0), (.slice none 0 0), (.int .i64 0), (.int .i64 0)] [(0, 1), (1, 1), (2, 1), (3, 1)] := ⟨by kernel_rfl, by kernel_rfl⟩
instance : TFld Tryz.prog 81 0 0 := ⟨by kernel_rfl⟩
instance : TPart Tryz.prog 81 0 0 1 false := ⟨by kernel_rfl⟩
instance : TFld Tryz.prog 81 1 1 := ⟨by kernel_rfl⟩
instance : TPart Tryz.prog 81 1 1 1 false := ⟨by kernel_rfl⟩
instance : TFld Tryz.prog 81 2 2 := ⟨by kernel_rfl⟩
instance : TPart Tryz.prog 81 2 2 1 false := ⟨by kernel_rfl⟩
instance : TFld Tryz.prog 81 3 3 := ⟨by kernel_rfl⟩
instance : TPart Tryz.prog 81 3 3 1 false := ⟨by kernel_rfl⟩
instance : TConc Tryz.prog 81 := ⟨_, Tryz.underlying81, rfl⟩
instance : TAgg Tryz.prog 88 4 := ⟨by kernel_rfl, by kernel_rfl⟩
instance : TZero Tryz.prog 88 [(.string ⟨#[]⟩), (.int .u32 0), (.int .u32 0), (.int .u32 0)] := ⟨by kernel_rfl⟩
instance : TBld Tryz.prog 88 [(.string ⟨#[]⟩), (.int .u32 0), (.int .u32 0), (.int .u32 0)] [(0, 1), (1, 1), (2, 1), (3, 1)] := ⟨by kernel_rfl, by kernel_rfl⟩
instance : TEqN Tryz.prog 88 [true, false, false, false] := ⟨by kernel_rfl, by kernel_rfl, by kernel_rfl, by kernel_rfl⟩
instance : TFld Tryz.prog 88 0 0 := ⟨by kernel_rfl⟩
instance : TPart Tryz.prog 88 0 0 1 false := ⟨by kernel_rfl⟩
instance : TFld Tryz.prog 88 1 1 := ⟨by kernel_rfl⟩
instance : TPart Tryz.prog 88 1 1 1 false := ⟨by kernel_rfl⟩
instance : TFld Tryz.prog 88 2 2 := ⟨by kernel_rfl⟩
instance : TPart Tryz.prog 88 2 2 1 false := ⟨by kernel_rfl⟩
instance : TFld Tryz.prog 88 3 3 := ⟨by kernel_rfl⟩
instance : TPart Tryz.prog 88 3 3 1 false := ⟨by kernel_rfl⟩
instance : TConc Tryz.prog 88 := ⟨_, Tryz.underlying88, rfl⟩
instance : TOne Tryz.prog 95 := ⟨by kernel_rfl, by kernel_rfl⟩
instance : TZero Tryz.prog 95 [(.slice none 0 0)] := ⟨by kernel_rfl⟩
instance : TSl Tryz.prog 95 99 3 24 := ⟨Tryz.underlying95, by kernel_rfl⟩
instance : TConc Tryz.prog 95 := ⟨_, Tryz.underlying95, rfl⟩
instance : TOne Tryz.prog 97 := ⟨by kernel_rfl, by kernel_rfl⟩
instance : TZero Tryz.prog 97 [(.slice none 0 0)] := ⟨by kernel_rfl⟩
instance : TSl Tryz.prog 97 9 1 16 := ⟨Tryz.underlying97, by kernel_rfl⟩
instance : TConc Tryz.prog 97 := ⟨_, Tryz.underlying97, rfl⟩
instance : TAgg Tryz.prog 99 3 := ⟨by kernel_rfl, by kernel_rfl⟩
instance : TZero Tryz.prog 99 [(.string ⟨#[]⟩), (.int .u32 0), (.int .u32 0)] := ⟨by kernel_rfl⟩
instance : TBld Tryz.prog 99 [(.string ⟨#[]⟩), (.int .u32 0), (.int .u32 0)] [(0, 1), (1, 1), (2, 1)] := ⟨by kernel_rfl, by kernel_rfl⟩
instance : TEqN Tryz.prog 99 [true, false, false] := ⟨by kernel_rfl, by kernel_rfl, by kernel_rfl, by kernel_rfl⟩
instance : TFld Tryz.prog 99 0 0 := ⟨by kernel_rfl⟩
instance : TPart Tryz.prog 99 0 0 1 false := ⟨by kernel_rfl⟩
instance : TFld Tryz.prog 99 1 1 := ⟨by kernel_rfl⟩
instance : TPart Tryz.prog 99 1 1 1 false := ⟨by kernel_rfl⟩
instance : TFld Tryz.prog 99 2 2 := ⟨by kernel_rfl⟩
instance : TPart Tryz.prog 99 2 2 1 false := ⟨by kernel_rfl⟩
instance : TConc Tryz.prog 99 := ⟨_, Tryz.underlying99, rfl⟩
instance : TOne Tryz.prog 118 := ⟨by kernel_rfl, by kernel_rfl⟩
instance : TZero Tryz.prog 118 [(.slice none 0 0)] := ⟨by kernel_rfl⟩
instance : TSl Tryz.prog 118 5 1 1 := ⟨Tryz.underlying118, by kernel_rfl⟩
instance : TConc Tryz.prog 118 := ⟨_, Tryz.underlying118, rfl⟩
instance : TOne Tryz.prog 121 := ⟨by kernel_rfl, by kernel_rfl⟩
instance : TZero Tryz.prog 121 [.nilIface] := ⟨by kernel_rfl⟩
instance : TOne Tryz.prog 123 := ⟨by kernel_rfl, by kernel_rfl⟩
instance : TZero Tryz.prog 123 [(.pointer none)] := ⟨by kernel_rfl⟩
instance : TPtr Tryz.prog 123 := ⟨_, Tryz.underlying123⟩
instance : TConc Tryz.prog 123 := ⟨_, Tryz.underlying123, rfl⟩
instance : TOne Tryz.prog 125 := ⟨by kernel_rfl, by kernel_rfl⟩
instance : TZero Tryz.prog 125 [(.map none)] := ⟨by kernel_rfl⟩
instance : TMap Tryz.prog 125 3 3 := ⟨Tryz.underlying125⟩
instance : TZv Tryz.prog 3 (.int .i64 0) := ⟨by kernel_rfl⟩
instance : TConc Tryz.prog 125 := ⟨_, Tryz.underlying125, rfl⟩
instance : TOne Tryz.prog 126 := ⟨by kernel_rfl, by kernel_rfl⟩
instance : TZero Tryz.prog 126 [(.pointer none)] := ⟨by kernel_rfl⟩
instance : TPtr Tryz.prog 126 := ⟨_, Tryz.underlying126⟩
instance : TConc Tryz.prog 126 := ⟨_, Tryz.underlying126, rfl⟩
instance : TOne Tryz.prog 128 := ⟨by kernel_rfl, by kernel_rfl⟩
instance : TZero Tryz.prog 128 [(.int .i64 0)] := ⟨by kernel_rfl⟩
instance : TInt Tryz.prog 128 .i64 := ⟨Tryz.underlying128⟩
instance : TConc Tryz.prog 128 := ⟨_, Tryz.underlying128, rfl⟩
instance : TAgg Tryz.prog 130 5 := ⟨by kernel_rfl, by kernel_rfl⟩
instance : TZero Tryz.prog 130 [.nilIface, (.int .i64 0), (.map none), (.pointer none), (.int .i64 0)] := ⟨by kernel_rfl⟩
instance : TBld Tryz.prog 130 [.nilIface, (.int .i64 0), (.map none), (.pointer none), (.int .i64 0)] [(0, 1), (1, 1), (2, 1), (3, 1), (4, 1)] := ⟨by kernel_rfl, by kernel_rfl⟩
instance : TFld Tryz.prog 130 0 0 := ⟨by kernel_rfl⟩
instance : TPart Tryz.prog 130 0 0 1 false := ⟨by kernel_rfl⟩
instance : TFld Tryz.prog 130 1 1 := ⟨by kernel_rfl⟩
instance : TPart Tryz.prog 130 1 1 1 false := ⟨by kernel_rfl⟩
instance : TFld Tryz.prog 130 2 2 := ⟨by kernel_rfl⟩
instance : TPart Tryz.prog 130 2 2 1 false := ⟨by kernel_rfl⟩
instance : TFld Tryz.prog 130 3 3 := ⟨by kernel_rfl⟩
instance : TPart Tryz.prog 130 3 3 1 false := ⟨by kernel_rfl⟩
instance : TFld Tryz.prog 130 4 4 := ⟨by kernel_rfl⟩
instance : TPart Tryz.prog 130 4 4 1 false := ⟨by kernel_rfl⟩
instance : TConc Tryz.prog 130 := ⟨_, Tryz.underlying130, rfl⟩
instance : TOne Tryz.prog 139 := ⟨by kernel_rfl, by kernel_rfl⟩
instance : TZero Tryz.prog 139 [.nilFunc] := ⟨by kernel_rfl⟩
instance : TFn Tryz.prog 139 := ⟨_, _, _, Tryz.underlying139⟩
instance : TConc Tryz.prog 139 := ⟨_, Tryz.underlying139, rfl⟩
instance : TOne Tryz.prog 140 := ⟨by kernel_rfl, by kernel_rfl⟩
instance : TZero Tryz.prog 140 [(.pointer none)] := ⟨by kernel_rfl⟩
instance : TPtr Tryz.prog 140 := ⟨_, Tryz.underlying140⟩
instance : TConc Tryz.prog 140 := ⟨_, Tryz.underlying140, rfl⟩
instance : TOne Tryz.prog 148 := ⟨by kernel_rfl, by kernel_rfl⟩
instance : TZero Tryz.prog 148 [(.slice none 0 0)] := ⟨by kernel_rfl⟩
instance : TSl Tryz.prog 148 128 1 8 := ⟨Tryz.underlying148, by kernel_rfl⟩
instance : TConc Tryz.prog 148 := ⟨_, Tryz.underlying148, rfl⟩
instance : TOne Tryz.prog 149 := ⟨by kernel_rfl, by kernel_rfl⟩
instance : TZero Tryz.prog 149 [(.slice none 0 0)] := ⟨by kernel_rfl⟩
instance : TSl Tryz.prog 149 174 2 16 := ⟨Tryz.underlying149, by kernel_rfl⟩
instance : TConc Tryz.prog 149 := ⟨_, Tryz.underlying149, rfl⟩
instance : TOne Tryz.prog 150 := ⟨by kernel_rfl, by kernel_rfl⟩
instance : TZero Tryz.prog 150 [(.int .u64 0)] := ⟨by kernel_rfl⟩
instance : TInt Tryz.prog 150 .u64 := ⟨Tryz.underlying150⟩
instance : TConc Tryz.prog 150 := ⟨_, Tryz.underlying150, rfl⟩
instance : TAgg Tryz.prog 152 2 := ⟨by kernel_rfl, by kernel_rfl⟩
instance : TZero Tryz.prog 152 [(.slice none 0 0), (.int .u64 0)] := ⟨by kernel_rfl⟩
instance : TBld Tryz.prog 152 [(.slice none 0 0), (.int .u64 0)] [(0, 1), (1, 1)] := ⟨by kernel_rfl, by kernel_rfl⟩
instance : TFld Tryz.prog 152 0 0 := ⟨by kernel_rfl⟩
instance : TPart Tryz.prog 152 0 0 1 false := ⟨by kernel_rfl⟩
instance : TFld Tryz.prog 152 1 1 := ⟨by kernel_rfl⟩
instance : TPart Tryz.prog 152 1 1 1 false := ⟨by kernel_rfl⟩
instance : TConc Tryz.prog 152 := ⟨_, Tryz.underlying152, rfl⟩
instance : TOne Tryz.prog 154 := ⟨by kernel_rfl, by kernel_rfl⟩
instance : TZero Tryz.prog 154 [(.pointer none)] := ⟨by kernel_rfl⟩
instance : TPtr Tryz.prog 154 := ⟨_, Tryz.underlying154⟩
instance : TConc Tryz.prog 154 := ⟨_, Tryz.underlying154, rfl⟩
instance : TOne Tryz.prog 163 := ⟨by kernel_rfl, by kernel_rfl⟩
instance : TZero Tryz.prog 163 [(.int .u64 0)] := ⟨by kernel_rfl⟩
instance : TInt Tryz.prog 163 .u64 := ⟨Tryz.underlying163⟩
instance : TConc Tryz.prog 163 := ⟨_, Tryz.underlying163, rfl⟩
instance : TAgg Tryz.prog 166 1 := ⟨by kernel_rfl, by kernel_rfl⟩
instance : TZero Tryz.prog 166 [(.slice none 0 0)] := ⟨by kernel_rfl⟩
instance : TBld Tryz.prog 166 [(.slice none 0 0)] [(0, 1)] := ⟨by kernel_rfl, by kernel_rfl⟩
instance : TFld Tryz.prog 166 0 0 := ⟨by kernel_rfl⟩
instance : TPart Tryz.prog 166 0 0 1 false := ⟨by kernel_rfl⟩
instance : TConc Tryz.prog 166 := ⟨_, Tryz.underlying166, rfl⟩
instance : TAgg Tryz.prog 168 256 := ⟨by kernel_rfl, by kernel_rfl⟩
instance : TArr Tryz.prog 168 256 24 1 := ⟨Tryz.underlying168, by kernel_rfl⟩
instance : TConc Tryz.prog 168 := ⟨_, Tryz.underlying168, rfl⟩
instance : TOne Tryz.prog 171 := ⟨by kernel_rfl, by kernel_rfl⟩
instance : TZero Tryz.prog 171 [(.pointer none)] := ⟨by kernel_rfl⟩
instance : TPtr Tryz.prog 171 := ⟨_, Tryz.underlying171⟩
instance : TConc Tryz.prog 171 := ⟨_, Tryz.underlying171, rfl⟩
instance : TAgg Tryz.prog 174 2 := ⟨by kernel_rfl, by kernel_rfl⟩
instance : TZero Tryz.prog 174 [(.int .i64 0), (.int .u64 0)] := ⟨by kernel_rfl⟩
instance : TBld Tryz.prog 174 [(.int .i64 0), (.int .u64 0)] [(0, 1), (1, 1)] := ⟨by kernel_rfl, by kernel_rfl⟩
instance : TEq2 Tryz.prog 174 := ⟨by kernel_rfl, by kernel_rfl⟩
instance : TFld Tryz.prog 174 0 0 := ⟨by kernel_rfl⟩
instance : TPart Tryz.prog 174 0 0 1 false := ⟨by kernel_rfl⟩
instance : TFld Tryz.prog 174 1 1 := ⟨by kernel_rfl⟩
instance : TPart Tryz.prog 174 1 1 1 false := ⟨by kernel_rfl⟩
instance : TConc Tryz.prog 174 := ⟨_, Tryz.underlying174, rfl⟩
instance : TOne Tryz.prog 176 := ⟨by kernel_rfl, by kernel_rfl⟩
instance : TZero Tryz.prog 176 [(.slice none 0 0)] := ⟨by kernel_rfl⟩
instance : TSl Tryz.prog 176 150 1 8 := ⟨Tryz.underlying176, by kernel_rfl⟩
instance : TConc Tryz.prog 176 := ⟨_, Tryz.underlying176, rfl⟩
instance : TAgg Tryz.prog 178 2 := ⟨by kernel_rfl, by kernel_rfl⟩
instance : TZero Tryz.prog 178 [(.int .i64 0), (.slice none 0 0)] := ⟨by kernel_rfl⟩
instance : TBld Tryz.prog 178 [(.int .i64 0), (.slice none 0 0)] [(0, 1), (1, 1)] := ⟨by kernel_rfl, by kernel_rfl⟩
instance : TFld Tryz.prog 178 0 0 := ⟨by kernel_rfl⟩
instance : TPart Tryz.prog 178 0 0 1 false := ⟨by kernel_rfl⟩
instance : TFld Tryz.prog 178 1 1 := ⟨by kernel_rfl⟩
instance : TPart Tryz.prog 178 1 1 1 false := ⟨by kernel_rfl⟩
instance : TConc Tryz.prog 178 := ⟨_, Tryz.underlying178, rfl⟩
instance : TOne Tryz.prog 180 := ⟨by kernel_rfl, by kernel_rfl⟩
instance : TZero Tryz.prog 180 [(.int .i64 0)] := ⟨by kernel_rfl⟩
instance : TInt Tryz.prog 180 .i64 := ⟨Tryz.underlying180⟩
instance : TConc Tryz.prog 180 := ⟨_, Tryz.underlying180, rfl⟩
instance : TOne Tryz.prog 191 := ⟨by kernel_rfl, by kernel_rfl⟩
instance : TZero Tryz.prog 191 [(.int .u64 0)] := ⟨by kernel_rfl⟩
instance : TInt Tryz.prog 191 .u64 := ⟨Tryz.underlying191⟩
instance : TConc Tryz.prog 191 := ⟨_, Tryz.underlying191, rfl⟩
instance : TOne Tryz.prog 195 := ⟨by kernel_rfl, by kernel_rfl⟩
instance : TZero Tryz.prog 195 [(.pointer none)] := ⟨by kernel_rfl⟩
instance : TPtr Tryz.prog 195 := ⟨_, Tryz.underlying195⟩
instance : TConc Tryz.prog 195 := ⟨_, Tryz.underlying195, rfl⟩
instance : TAgg Tryz.prog 198 64 := ⟨by kernel_rfl, by kernel_rfl⟩
instance : TZero Tryz.prog 198 [(.int .u8 0), (.int .u8 0), (.int .u8 0), (.int .u8 0), (.int .u8 0), (.int .u8 0), (.int .u8 0), (.int .u8 0), (.int .u8 0), (.int .u8 0), (.int .u8 0), (.int .u8 0), (.int .u8 0), (.int .u8 0), (.int .u8 0), (.int .u8 0), (.int .u8 0), (.int .u8 0), (.int .u8 0), (.int .u8 0), (.int .u8 0), (.int .u8 0), (.int .u8 0), (.int .u8 0), (.int .u8 0), (.int .u8 0), (.int .u8 0), (.int .u8 0), (.int .u8 0), (.int .u8 0), (.int .u8 0), (.int .u8 0), (.int .u8 0), (.int .u8 0), (.int .u8 0), (.int .u8 0), (.int .u8 0), (.int .u8 0), (.int .u8 0), (.int .u8 0), (.int .u8 0), (.int .u8 0), (.int .u8 0), (.int .u8 0), (.int .u8 0), (.int .u8 0), (.int .u8 0), (.int .u8 0), (.int .u8 0), (.int .u8 0), (.int .u8 0), (.int .u8 0), (.int .u8 0), (.int .u8 0), (.int .u8 0), (.int .u8 0), (.int .u8 0), (.int .u8 0), (.int .u8 0), (.int .u8 0), (.int .u8 0), (.int .u8 0), (.int .u8 0), (.int .u8 0)] := ⟨by kernel_rfl⟩
instance : TArr Tryz.prog 198 64 5 1 := ⟨Tryz.underlying198, by kernel_rfl⟩
instance : TConc Tryz.prog 198 := ⟨_, Tryz.underlying198, rfl⟩
instance : TOne Tryz.prog 199 := ⟨by kernel_rfl, by kernel_rfl⟩
instance : TZero Tryz.prog 199 [(.pointer none)] := ⟨by kernel_rfl⟩
instance : TPtr Tryz.prog 199 := ⟨_, Tryz.underlying199⟩
instance : TConc Tryz.prog 199 := ⟨_, Tryz.underlying199, rfl⟩
end SX
namespace SX
open Go Go.Proofs
theorem turn_spec (c : W32) : Spec Tryz.prog 97 [.int .u32 (c.toNat : Nat)] [] (fun v L => v = .int .u32 ((turnW c).toNat : Nat) ∧ L = []) := by
 refine Spec.of 11 Tryz.func97 rfl rfl rfl ?_
 refine swp_seq ?_
 refine swp_region ?_
 refine s_pu (pu_assign rfl) ?_
 refine swl_sub _ (.cons (t := 0) rfl .nil) ?_
 refine swl_nil ?_
 refine then_n ?_
 refine swp_seq ?_
 refine swp_seq ?_
 refine swp_region ?_
 refine s_pu (pu_move rfl) ?_
 refine s_pu (pu_and_w32 (b := 1#32) rfl rfl) ?_
 refine s_pu (pu_neq rfl rfl) ?_
 refine swl_sub _ (.cons (t := 0) rfl (.cons (t := 5) rfl .nil)) ?_
 refine swl_nil ?_
 refine then_n ?_
 refine swp_cond (b := _) rfl (fun h5 => ?_) (fun h5 => ?_)
 ·skip
  have h5' : ¬ (c &&& 1#32) = 0#32 := by
   intro e; rw [e] at h5; simp at h5
  refine swp_seq ?_
  refine swp_region ?_
  refine s_pu (pu_move rfl) ?_
  refine s_pu (pu_shr_w32 1 rfl rfl (by decide)) ?_
  refine s_pu (pu_xor_w32 (b := polyW) rfl rfl) ?_
  refine s_pu (pu_assign rfl) ?_
  refine swl_sub _ (.cons (t := 2) rfl .nil) ?_
  refine swl_nil ?_
  refine then_n ?_
  refine swp_ret ?_
  refine then_r ?_
  exact done_ret [] (.tmp rfl .nil) ⟨by unfold turnW; rw [if_neg h5']; rfl, rfl⟩ (by repeat (first | exact Split.nil | (apply Split.cons; (repeat (first | with_reducible exact Take.here | apply Take.there)))))
 ·skip
  have h5' : (c &&& 1#32) = 0#32 := by
   have := of_decide_eq_true ((Bool.not_eq_false' _).mp h5)
   exact BitVec.eq_of_toNat_eq (Int.ofNat.inj this)
  refine swp_skip ?_
  refine then_n ?_
  refine swp_seq ?_
  refine swp_region ?_
  refine s_pu (pu_move rfl) ?_
  refine s_pu (pu_shr_w32 1 rfl rfl (by decide)) ?_
  refine s_pu (pu_assign rfl) ?_
  refine swl_sub _ (.cons (t := 2) rfl .nil) ?_
  refine swl_nil ?_
  refine then_n ?_
  refine swp_ret ?_
  exact done_ret [] (.tmp rfl .nil) ⟨by unfold turnW; rw [if_pos h5']; rfl, rfl⟩ (by repeat (first | exact Split.nil | (apply Split.cons; (repeat (first | with_reducible exact Take.here | apply Take.there)))))
theorem low_one (c : W32) : (c &&& 1#32) = 0#32 ∨ (c &&& 1#32) = 1#32 := by
  have : (c &&& 1#32).toNat < 2 := by
    rw [BitVec.toNat_and]; exact Nat.lt_of_le_of_lt Nat.and_le_right (by decide)
  rcases Nat.lt_or_ge (c &&& 1#32).toNat 1 with h | h
  · exact .inl (BitVec.eq_of_toNat_eq (by show _ = 0; omega))
  · exact .inr (BitVec.eq_of_toNat_eq (by show _ = 1; omega))
theorem rturn_spec (c : W32) : Spec Tryz.prog 108 [.int .u32 (c.toNat : Nat)] [] (fun v L => v = .int .u32 ((turnW c).toNat : Nat) ∧ L = []) := by
 refine Spec.of 11 Tryz.func108 rfl rfl rfl ?_
 refine swp_seq ?_
 refine swp_region ?_
 refine s_pu (pu_assign rfl) ?_
 refine swl_sub _ (.cons (t := 0) rfl .nil) ?_
 refine swl_nil ?_
 refine then_n ?_
 refine swp_seq ?_
 refine swp_seq ?_
 refine swp_region ?_
 refine s_pu (pu_move rfl) ?_
 refine s_pu (pu_and_w32 (b := 1#32) rfl rfl) ?_
 refine s_pu (pu_eql rfl rfl) ?_
 refine swl_sub _ (.cons (t := 0) rfl (.cons (t := 5) rfl .nil)) ?_
 refine swl_nil ?_
 refine then_n ?_
 refine swp_cond (b := _) rfl (fun h5 => ?_) (fun h5 => ?_)
 ·skip
  have h5' : ¬ (c &&& 1#32) = 0#32 := by
   intro e; rw [e] at h5; simp at h5
  refine swp_seq ?_
  refine swp_region ?_
  refine s_pu (pu_move rfl) ?_
  refine s_pu (pu_shr_w32 1 rfl rfl (by decide)) ?_
  refine s_pu (pu_xor_w32 (b := polyW) rfl rfl) ?_
  refine s_pu (pu_assign rfl) ?_
  refine swl_sub _ (.cons (t := 2) rfl .nil) ?_
  refine swl_nil ?_
  refine then_n ?_
  refine swp_ret ?_
  refine then_r ?_
  exact done_ret [] (.tmp rfl .nil) ⟨by unfold turnW; rw [if_neg h5']; rfl, rfl⟩ (by repeat (first | exact Split.nil | (apply Split.cons; (repeat (first | with_reducible exact Take.here | apply Take.there)))))
 ·skip
  have h5' : (c &&& 1#32) = 0#32 := by
   refine (low_one c).resolve_right fun e => ?_
   rw [e] at h5; simp at h5
  refine swp_skip ?_
  refine then_n ?_
  refine swp_seq ?_
  refine swp_region ?_
  refine s_pu (pu_move rfl) ?_
  refine s_pu (pu_shr_w32 1 rfl rfl (by decide)) ?_
  refine s_pu (pu_assign rfl) ?_
  refine swl_sub _ (.cons (t := 2) rfl .nil) ?_
  refine swl_nil ?_
  refine then_n ?_
  refine swp_ret ?_
  exact done_ret [] (.tmp rfl .nil) ⟨by unfold turnW; rw [if_pos h5']; rfl, rfl⟩ (by repeat (first | exact Split.nil | (apply Split.cons; (repeat (first | with_reducible exact Take.here | apply Take.there)))))
theorem turns_succ (k : Nat) (c : W32) : turnsW (k + 1) c = turnW (turnsW k c) := by
  induction k generalizing c with
  | zero => rfl
  | succ k ih => rw [turnsW, ih]; rfl
set_option maxHeartbeats 1000000 in
theorem rmore_spec (c : W32) (s : ByteArray) (hs : s.size ≤ 1048576) : Spec Tryz.prog 98 [.int .u32 (c.toNat : Nat), .string s] [] (fun v L => v = .int .u32 ((~~~ crcW (~~~ c) s.data.toList).toNat : Nat) ∧ L = []) := by
 have hl : s.data.toList.length = s.size := by rw [Array.length_toList]; rfl
 refine Spec.of 30 Tryz.func98 rfl rfl rfl ?_
 refine swp_seq ?_
 refine swp_region ?_
 refine s_pu (pu_assign rfl) ?_
 refine swl_sub _ (.cons (t := 0) rfl (.cons (t := 1) rfl .nil)) ?_
 refine swl_nil ?_
 refine then_n ?_
 refine swp_seq ?_
 refine swp_region ?_
 refine s_pu (pu_move rfl) ?_
 refine s_pu (pu_not_w32 rfl) ?_
 refine s_pu (pu_assign rfl) ?_
 refine swl_sub _ (.cons (t := 1) rfl (.cons (t := 5) rfl .nil)) ?_
 refine swl_nil ?_
 refine then_n ?_
 refine swp_seq ?_
 refine swp_seq ?_
 refine swp_region ?_
 refine s_pu (pu_assign rfl) ?_
 refine swl_sub _ (.cons (t := 1) rfl (.cons (t := 5) rfl (.cons (t := 6) rfl .nil))) ?_
 refine swl_nil ?_
 refine then_n ?_
 refine swp_block ?_
 refine swp_loop (ι := Nat × W32) (fun k env L => Sub env [(1, .string s), (5, .int .u32 (k.2.toNat : Nat)), (6, .int .i64 (k.1 : Nat))] ∧ L = [] ∧ k.1 ≤ s.size ∧ k.2 = crcW (~~~ c) (s.data.toList.take k.1)) (fun k => s.size - k.1) (0, ~~~ c) ⟨⟨rfl, rfl, rfl, trivial⟩, rfl, Nat.zero_le _, rfl⟩ ?_
 rintro ⟨i, d⟩ env L ⟨hsub, rfl, hi, hd⟩
 simp only [] at hi hd hsub
 refine swp_sub _ hsub ?_
 clear hsub env
 dsimp only
 refine swp_seq ?_
 refine swp_seq ?_
 refine swp_region ?_
 refine s_pu (pu_move rfl) ?_
 refine s_pu (pu_move rfl) ?_
 refine s_pu (pu_strlen rfl) ?_
 refine s_pu (pu_lss rfl rfl) ?_
 refine swl_sub _ (.cons (t := 1) rfl (.cons (t := 5) rfl (.cons (t := 6) rfl (.cons (t := 13) rfl .nil)))) ?_
 refine swl_nil ?_
 refine then_n ?_
 refine swp_cond (b := _) rfl (fun h13 => ?_) (fun h13 => ?_)
 ·skip
  have h13' : i < s.size := by have := of_decide_eq_true h13; omega
  obtain ⟨b, hb⟩ : ∃ b, s.data.toList[i]? = some b := ⟨_, List.getElem?_eq_getElem (by omega)⟩
  have hb32 : ((b.toNat : Nat) : Int) = ((BitVec.ofNat 32 b.toNat).toNat : Int) := by
   have := b.toNat_lt; rw [BitVec.toNat_ofNat, Nat.mod_eq_of_lt (by omega)]
  refine swp_skip ?_
  refine then_n ?_
  refine swp_seq ?_
  refine swp_block ?_
  refine swp_seq ?_
  refine swp_region ?_
  refine s_pu (pu_move rfl) ?_
  refine s_pu (pu_move rfl) ?_
  refine s_pu (pu_move rfl) ?_
  refine s_pu (pu_str_index rfl rfl rfl hb) ?_
  refine s_pu (pu_conv_as (k' := .u32) (n := ((BitVec.ofNat 32 b.toNat).toNat : Int)) (by rw [← hb32]; rfl) (wrap_word32 _)) ?_
  refine s_pu (pu_xor_w32 rfl rfl) ?_
  refine s_pu (pu_assign rfl) ?_
  refine swl_sub _ (.cons (t := 1) rfl (.cons (t := 5) rfl (.cons (t := 6) rfl .nil))) ?_
  refine swl_nil ?_
  refine then_n ?_
  refine swp_seq ?_
  refine swp_region ?_
  refine s_pu (pu_assign rfl) ?_
  refine swl_sub _ (.cons (t := 1) rfl (.cons (t := 5) rfl (.cons (t := 6) rfl (.cons (t := 7) rfl .nil)))) ?_
  refine swl_nil ?_
  refine then_n ?_
  refine swp_block ?_
  refine swp_loop (ι := Nat) (fun k env L => Sub env [(1, .string s), (5, .int .u32 ((turnsW k (d ^^^ BitVec.ofNat 32 b.toNat)).toNat : Nat)), (6, .int .i64 (i : Nat)), (7, .int .i64 (k : Nat))] ∧ L = [] ∧ k ≤ 8) (fun k => 8 - k) 0 ⟨⟨rfl, rfl, rfl, rfl, trivial⟩, rfl, Nat.zero_le _⟩ ?_
  rintro k env L ⟨hsub, rfl, hk⟩
  refine swp_sub _ hsub ?_
  clear hsub env
  refine swp_seq ?_
  refine swp_seq ?_
  refine swp_region ?_
  refine s_pu (pu_move rfl) ?_
  refine s_pu (pu_lss rfl rfl) ?_
  refine swl_sub _ (.cons (t := 1) rfl (.cons (t := 5) rfl (.cons (t := 6) rfl (.cons (t := 7) rfl (.cons (t := 23) rfl .nil))))) ?_
  refine swl_nil ?_
  refine then_n ?_
  refine swp_cond (b := _) rfl (fun h23 => ?_) (fun h23 => ?_)
  ·skip
   have h23' : k < 8 := by have := of_decide_eq_true h23; omega
   refine swp_skip ?_
   refine then_n ?_
   refine swp_seq ?_
   refine swp_block ?_
   refine swp_region ?_
   refine s_pu (pu_move rfl) ?_
   refine s_ef (ef_fn (rturn_spec _) rfl rfl (by repeat (first | exact Split.nil | (apply Split.cons; (repeat (first | with_reducible exact Take.here | apply Take.there)))))) ?_
   rintro v27 L1 ⟨rfl, rfl⟩
   refine swl_app ?_
   refine s_pu (pu_assign rfl) ?_
   refine swl_sub _ (.cons (t := 1) rfl (.cons (t := 5) rfl (.cons (t := 6) rfl (.cons (t := 7) rfl .nil)))) ?_
   refine swl_nil ?_
   refine block_n ?_
   refine then_n ?_
   refine swp_region ?_
   refine s_pu (pu_move rfl) ?_
   refine s_pu (pu_add_as ((k + 1 : Nat) : Int) rfl rfl (by omega) (by omega) (by omega)) ?_
   refine s_pu (pu_assign rfl) ?_
   refine swl_sub _ (.cons (t := 1) rfl (.cons (t := 5) rfl (.cons (t := 6) rfl (.cons (t := 7) rfl .nil)))) ?_
   refine swl_nil ?_
   refine then_n ⟨k + 1, ⟨⟨rfl, by rw [turns_succ]; rfl, rfl, rfl, trivial⟩, rfl, h23'⟩, by omega⟩
  ·skip
   have h23' := of_decide_eq_false h23
   obtain rfl : k = 8 := by omega
   refine swp_exit ?_
   refine then_x ?_
   refine then_x ?_
   refine block_hit rfl ?_
   refine block_n ?_
   refine then_n ?_
   refine swp_region ?_
   refine s_pu (pu_move rfl) ?_
   refine s_pu (pu_add_as ((i + 1 : Nat) : Int) rfl rfl (by omega) (by omega) (by omega)) ?_
   refine s_pu (pu_assign rfl) ?_
   refine swl_sub _ (.cons (t := 1) rfl (.cons (t := 5) rfl (.cons (t := 6) rfl .nil))) ?_
   refine swl_nil ?_
   refine then_n ⟨(i + 1, turnsW 8 (d ^^^ BitVec.ofNat 32 b.toNat)), ⟨⟨rfl, rfl, rfl, trivial⟩, rfl, h13', ?_⟩, by show s.size - (i + 1) < s.size - i; omega⟩
   show turnsW 8 (d ^^^ BitVec.ofNat 32 b.toNat) = crcW (~~~ c) (s.data.toList.take (i + 1))
   rw [List.take_add_one, hb, crcW, List.foldl_append, hd]; rfl
 ·skip
  have h13' := of_decide_eq_false h13
  obtain rfl : i = s.size := by omega
  rw [← hl, List.take_length] at hd
  subst hd
  refine swp_exit ?_
  refine then_x ?_
  refine then_x ?_
  refine block_hit rfl ?_
  refine then_n ?_
  refine swp_seq ?_
  refine swp_region ?_
  refine s_pu (pu_move rfl) ?_
  refine s_pu (pu_not_w32 rfl) ?_
  refine s_pu (pu_assign rfl) ?_
  refine swl_sub _ (.cons (t := 4) rfl .nil) ?_
  refine swl_nil ?_
  refine then_n ?_
  refine swp_ret ?_
  exact done_ret [] (.tmp rfl .nil) ⟨rfl, rfl⟩ (by repeat (first | exact Split.nil | (apply Split.cons; (repeat (first | with_reducible exact Take.here | apply Take.there)))))
end SX
namespace SX
open Go Go.Proofs
instance : TZero Tryz.prog 168 (List.replicate 256 (.int .u32 0)) := ⟨by kernel_rfl⟩
/-- the table, its first k places filled -/
def tabK (k : Nat) : List Value := (List.range 256).map fun i => if i < k then .int .u32 ((rowW i).toNat : Nat) else .int .u32 0
def tabC : List Value := (List.range 256).map fun i => .int .u32 ((rowW i).toNat : Nat)
theorem tabK_len (k : Nat) : (tabK k).length = 256 := by unfold tabK; rw [List.length_map, List.length_range]
theorem tabK_all : tabK 256 = tabC := by
  unfold tabK tabC
  refine List.map_congr_left fun i hi => ?_
  rw [if_pos (List.mem_range.1 hi)]
theorem tabK_zero : tabK 0 = List.replicate 256 (.int .u32 0) := by
  unfold tabK
  apply List.ext_getElem?
  intro i
  rw [List.getElem?_map, List.getElem?_replicate]
  by_cases h : i < 256
  · rw [List.getElem?_range h, if_pos h]; simp
  · rw [List.getElem?_eq_none (by simp; omega), if_neg h]; rfl
theorem tabK_get (k i : Nat) (hi : i < 256) : (tabK k)[i]? = some (if i < k then .int .u32 ((rowW i).toNat : Nat) else .int .u32 0) := by
  unfold tabK; rw [List.getElem?_map, List.getElem?_range hi]; rfl
theorem tabK_set {k : Nat} (hk : k < 256) : (tabK k).set k (.int .u32 ((rowW k).toNat : Nat)) = tabK (k + 1) := by
  apply List.ext_getElem?
  intro i
  rw [List.getElem?_set, tabK_len]
  by_cases hi : i < 256
  · rw [tabK_get _ _ hi, tabK_get _ _ hi]
    by_cases h : k = i
    · subst h; rw [if_pos rfl, if_pos hk, if_pos (by omega)]
    · rw [if_neg h]
      by_cases h2 : i < k
      · rw [if_pos h2, if_pos (by omega)]
      · rw [if_neg h2, if_neg (by omega)]
  · rw [if_neg (by omega), List.getElem?_eq_none (by rw [tabK_len]; omega), List.getElem?_eq_none (by rw [tabK_len]; omega)]
theorem ent_ro0 {L : List Assn} : Ent L (ro (fun _ => none) :: L) := fun m h => ⟨fun _ => none, m, (fun k x hk => by cases hk), h, (fun _ => .inl rfl), (fun _ _ h => by cases h), (fun _ _ h => h)⟩
theorem tabC_get {i : Nat} (hi : i < 256) : tabC[i]? = some (.int .u32 ((rowW i).toNat : Nat)) := by
  unfold tabC; rw [List.getElem?_map, List.getElem?_range hi]; rfl
theorem tabC_len : tabC.length = 256 := by unfold tabC; rw [List.length_map, List.length_range]
theorem tabC_one : tabC.all Value.oneCell' = true := by
  rw [List.all_eq_true]; intro v hv; unfold tabC at hv; obtain ⟨i, _, rfl⟩ := List.mem_map.1 hv; rfl
theorem wv_small {n : Nat} (h : n < 4294967296) : ((n : Nat) : Int) = ((BitVec.ofNat 32 n).toNat : Int) := by rw [BitVec.toNat_ofNat, Nat.mod_eq_of_lt (by omega)]
set_option maxHeartbeats 1000000 in
theorem rows_spec : Spec Tryz.prog 75 [] [] (fun v L => v = .agg tabC.toArray ∧ L = []) := by
 refine Spec.of 19 Tryz.func75 rfl rfl rfl ?_
 refine swp_seq ?_
 refine swp_region ?_
 refine s_ef (ef_alloc) ?_
 intro b0
 refine swl_sub _ (.cons (t := 0) rfl .nil) ?_
 refine swl_nil ?_
 refine then_n ?_
 refine swp_seq ?_
 refine swp_region ?_
 refine s_ef (ef_alloc) ?_
 intro b1
 refine swl_sub _ (.cons (t := 0) rfl (.cons (t := 1) rfl .nil)) ?_
 refine swl_nil ?_
 refine then_n ?_
 refine swp_seq ?_
 refine swp_seq ?_
 refine swp_region ?_
 refine s_pu (pu_move rfl) ?_
 refine swl_sub _ (.cons (t := 0) rfl (.cons (t := 1) rfl (.cons (t := 4) rfl .nil))) ?_
 rw [← tabK_zero]
 refine swl_nil ?_
 refine then_n ?_
 refine swp_block ?_
 refine swp_loop (ι := Nat) (fun k env L => Sub env [(0, .pointer (some ⟨b0, 0, none⟩)), (1, .pointer (some ⟨b1, 0, none⟩)), (4, .int .i64 (k : Nat))] ∧ L = [blk b1 168 (tabK k), blk b0 168 (tabK 0)] ∧ k ≤ 256) (fun k => 256 - k) 0 ⟨⟨rfl, rfl, rfl, trivial⟩, rfl, Nat.zero_le _⟩ ?_
 rintro k env L ⟨hsub, rfl, hk⟩
 refine swp_sub _ hsub ?_
 clear hsub env
 refine swp_seq ?_
 refine swp_region ?_
 refine s_pu (pu_lss rfl rfl) ?_
 refine swl_sub _ (.cons (t := 0) rfl (.cons (t := 1) rfl (.cons (t := 4) rfl (.cons (t := 5) rfl .nil)))) ?_
 refine swl_nil ?_
 refine then_n ?_
 refine swp_seq ?_
 refine swp_cond (b := _) rfl (fun h5 => ?_) (fun h5 => ?_)
 ·skip
  have h5' : k < 256 := by have := of_decide_eq_true h5; omega
  refine swp_skip ?_
  refine then_n ?_
  refine swp_seq ?_
  refine swp_block ?_
  refine swp_seq ?_
  refine swp_region ?_
  refine s_pu (pu_move rfl) ?_
  refine s_pu (pu_assign rfl) ?_
  refine swl_sub _ (.cons (t := 0) rfl (.cons (t := 1) rfl (.cons (t := 2) rfl (.cons (t := 4) rfl .nil)))) ?_
  refine swl_nil ?_
  refine then_n ?_
  refine swp_seq ?_
  refine swp_region ?_
  refine s_pu (pu_move rfl) ?_
  refine s_pu (pu_conv_as (k' := .u32) (n := ((BitVec.ofNat 32 k).toNat : Int)) (by rw [← wv_small (by omega)]; rfl) (wrap_word32 _)) ?_
  refine s_pu (pu_assign rfl) ?_
  refine swl_sub _ (.cons (t := 0) rfl (.cons (t := 1) rfl (.cons (t := 2) rfl (.cons (t := 3) rfl (.cons (t := 4) rfl .nil))))) ?_
  refine swl_nil ?_
  refine then_n ?_
  refine swp_seq ?_
  refine swp_seq ?_
  refine swp_region ?_
  refine s_pu (pu_move rfl) ?_
  refine swl_sub _ (.cons (t := 0) rfl (.cons (t := 1) rfl (.cons (t := 2) rfl (.cons (t := 3) rfl (.cons (t := 4) rfl (.cons (t := 9) rfl .nil)))))) ?_
  refine swl_nil ?_
  refine then_n ?_
  refine swp_block ?_
  refine swp_loop (ι := Nat) (fun j env L => Sub env [(0, .pointer (some ⟨b0, 0, none⟩)), (1, .pointer (some ⟨b1, 0, none⟩)), (2, .int .i64 (k : Nat)), (3, .int .u32 ((turnsW j (BitVec.ofNat 32 k)).toNat : Nat)), (4, .int .i64 (k : Nat)), (9, .int .i64 (j : Nat))] ∧ L = [blk b1 168 (tabK k), blk b0 168 (tabK 0)] ∧ j ≤ 8) (fun j => 8 - j) 0 ⟨⟨rfl, rfl, rfl, rfl, rfl, rfl, trivial⟩, rfl, Nat.zero_le _⟩ ?_
  rintro j env L ⟨hsub, rfl, hj⟩
  refine swp_sub _ hsub ?_
  clear hsub env
  refine swp_seq ?_
  refine swp_region ?_
  refine s_pu (pu_lss rfl rfl) ?_
  refine swl_sub _ (.cons (t := 0) rfl (.cons (t := 1) rfl (.cons (t := 2) rfl (.cons (t := 3) rfl (.cons (t := 4) rfl (.cons (t := 9) rfl (.cons (t := 10) rfl .nil))))))) ?_
  refine swl_nil ?_
  refine then_n ?_
  refine swp_seq ?_
  refine swp_cond (b := _) rfl (fun h10 => ?_) (fun h10 => ?_)
  ·skip
   have h10' : j < 8 := by have := of_decide_eq_true h10; omega
   refine swp_skip ?_
   refine then_n ?_
   refine swp_seq ?_
   refine swp_block ?_
   refine swp_region ?_
   refine s_pu (pu_move rfl) ?_
   refine s_ef (ef_fn (turn_spec _) rfl rfl (by repeat (first | exact Split.nil | (apply Split.cons; (repeat (first | with_reducible exact Take.here | apply Take.there)))))) ?_
   rintro v12 L1 ⟨rfl, rfl⟩
   refine swl_app ?_
   refine s_pu (pu_assign rfl) ?_
   refine swl_sub _ (.cons (t := 0) rfl (.cons (t := 1) rfl (.cons (t := 2) rfl (.cons (t := 3) rfl (.cons (t := 4) rfl (.cons (t := 9) rfl .nil)))))) ?_
   refine swl_nil ?_
   refine block_n ?_
   refine then_n ?_
   refine swp_region ?_
   refine s_pu (pu_add_as ((j + 1 : Nat) : Int) rfl rfl (by omega) (by omega) (by omega)) ?_
   refine s_pu (pu_move rfl) ?_
   refine swl_sub _ (.cons (t := 0) rfl (.cons (t := 1) rfl (.cons (t := 2) rfl (.cons (t := 3) rfl (.cons (t := 4) rfl (.cons (t := 9) rfl .nil)))))) ?_
   refine swl_nil ?_
   refine then_n ⟨j + 1, ⟨⟨rfl, rfl, rfl, by rw [turns_succ]; rfl, rfl, rfl, trivial⟩, rfl, h10'⟩, by omega⟩
  ·skip
   have h10' := of_decide_eq_false h10
   obtain rfl : j = 8 := by omega
   refine swp_exit ?_
   refine then_x ?_
   refine then_x ?_
   refine block_hit rfl ?_
   refine then_n ?_
   refine swp_region ?_
   refine s_pu (pu_move rfl) ?_
   refine s_pu (pu_move rfl) ?_
   refine s_pu (pu_indexAddr_arr k rfl rfl (by omega) (by omega) (by rw [Int.toNat_natCast]; omega)) ?_
   refine s_ef0 (ef_storeP rfl rfl rfl (by rw [tabK_len]; omega)) ?_
   refine swl_sub _ (.cons (t := 0) rfl (.cons (t := 1) rfl (.cons (t := 4) rfl .nil))) ?_
   refine swl_nil ?_
   refine block_n ?_
   refine then_n ?_
   refine swp_region ?_
   refine s_pu (pu_add_as ((k + 1 : Nat) : Int) rfl rfl (by omega) (by omega) (by omega)) ?_
   refine s_pu (pu_move rfl) ?_
   refine swl_sub _ (.cons (t := 0) rfl (.cons (t := 1) rfl (.cons (t := 4) rfl .nil))) ?_
   refine swl_nil ?_
   exact then_n ⟨k + 1, ⟨⟨rfl, rfl, rfl, trivial⟩, by rw [← tabK_set h5']; rfl, h5'⟩, by omega⟩
 ·skip
  have h5' := of_decide_eq_false h5
  obtain rfl : k = 256 := by omega
  rw [tabK_all]
  refine swp_exit ?_
  refine then_x ?_
  refine then_x ?_
  refine block_hit rfl ?_
  refine then_n ?_
  refine swp_seq ?_
  refine swp_region ?_
  refine s_rd (rd_of_ld rfl (ld_whole tabC_len)) ?_
  refine s_ef0 (ef_storeAs rfl rfl (cs' := tabC) (by unfold over; rw [List.take_zero, List.nil_append, List.drop_eq_nil_of_le (by rw [tabK_len, tabC_len]; decide), List.append_nil]) (by rw [tabK_len, tabC_len]; decide) tabC_len tabC_one) ?_
  refine swl_sub _ (.cons (t := 0) rfl .nil) ?_
  refine swl_nil ?_
  refine then_n ?_
  refine swp_ret ?_
  exact done_ret [] (.cell rfl (ld_whole tabC_len) .nil) ⟨rfl, rfl⟩ (by repeat (first | exact Split.nil | (apply Split.cons; (repeat (first | with_reducible exact Take.here | apply Take.there)))))
set_option maxHeartbeats 1000000 in
theorem take_spec (c : W32) (t : Nat) (s : ByteArray) (hs : s.size ≤ 1048576) : Spec Tryz.prog 76 [.pointer (some ⟨t, 0, none⟩), .int .u32 (c.toNat : Nat), .string s] [blk t 168 tabC] (fun v L => v = .int .u32 ((crcW c s.data.toList).toNat : Nat) ∧ L = [blk t 168 tabC]) := by
 have hl : s.data.toList.length = s.size := by rw [Array.length_toList]; rfl
 refine Spec.of 29 Tryz.func76 rfl rfl rfl ?_
 refine swp_seq ?_
 refine swp_region ?_
 refine s_pu (pu_assign rfl) ?_
 refine swl_sub _ (.cons (t := 0) rfl (.cons (t := 1) rfl (.cons (t := 2) rfl .nil))) ?_
 refine swl_nil ?_
 refine then_n ?_
 refine swp_seq ?_
 refine swp_seq ?_
 refine swp_region ?_
 refine s_pu (pu_move rfl) ?_
 refine s_ef (ef_bytes (e := 5) rfl (by simp only [maxLen]; omega)) ?_
 rintro g cap cs fr hc1 hc2 hcs
 skip
 refine s_pu (pu_len rfl) ?_
 refine s_pu (pu_move rfl) ?_
 refine swl_sub _ (.cons (t := 0) rfl (.cons (t := 1) rfl (.cons (t := 10) rfl (.cons (t := 11) rfl (.cons (t := 12) rfl .nil))))) ?_
 refine swl_nil ?_
 refine then_n ?_
 refine swp_block ?_
 refine swp_ent ent_ro0 ?_
 refine swp_share1 (b := g) (μ := fun _ => none) (by repeat (first | exact Split.nil | (apply Split.cons; (repeat (first | with_reducible exact Take.here | apply Take.there))))) fun μ _ hg => ?_
 have hrow := row_bytes hc1 hc2 hcs hg
 refine swp_loop (ι := Nat) (fun i env L => Sub env [(0, .pointer (some ⟨t, 0, none⟩)), (1, .int .u32 (((s.data.toList.take i).foldl takeW c).toNat : Nat)), (10, .slice (some ⟨g, 0, none⟩) s.size cap), (11, .int .i64 (s.size : Nat)), (12, .int .i64 (i : Nat))] ∧ L = [ro μ, blk t 168 tabC] ∧ i ≤ s.size) (fun i => s.size - i) 0 ⟨⟨rfl, rfl, rfl, rfl, rfl, trivial⟩, rfl, Nat.zero_le _⟩ ?_
 rintro i env L ⟨hsub, rfl, hi⟩
 refine swp_sub _ hsub ?_
 clear hsub env
 generalize hd : (s.data.toList.take i).foldl takeW c = d
 refine swp_seq ?_
 refine swp_region ?_
 refine s_pu (pu_lss rfl rfl) ?_
 refine swl_sub _ (.cons (t := 0) rfl (.cons (t := 1) rfl (.cons (t := 10) rfl (.cons (t := 11) rfl (.cons (t := 12) rfl (.cons (t := 13) rfl .nil)))))) ?_
 refine swl_nil ?_
 refine then_n ?_
 refine swp_seq ?_
 refine swp_cond (b := _) rfl (fun h13 => ?_) (fun h13 => ?_)
 ·skip
  have h13' : i < s.size := by have := of_decide_eq_true h13; omega
  obtain ⟨b, hb⟩ : ∃ b, s.data.toList[i]? = some b := ⟨_, List.getElem?_eq_getElem (by omega)⟩
  obtain ⟨g', off, cap', hv, _, _, hr⟩ := hrow.pos (by omega)
  have hre := hr.elem (f := bc1) (n := 1) (fun _ => rfl) hb
  injection hv with e1 e2 e3
  injection e1 with e1
  injection e1 with e4 e5
  subst e4 e5
  have hidx : (d.setWidth 8 ^^^ b.toBitVec).toNat < 256 := (d.setWidth 8 ^^^ b.toBitVec).isLt
  refine swp_skip ?_
  refine then_n ?_
  refine swp_seq ?_
  refine swp_block ?_
  refine swp_seq ?_
  refine swp_region ?_
  refine s_pu (pu_indexAddr (0 + i * 1) rfl rfl (by omega) (by omega) (by rw [Int.toNat_natCast])) ?_
  refine s_rd (rd_ro rfl hre.cell) ?_
  refine s_pu (pu_assign rfl) ?_
  refine swl_sub _ (.cons (t := 0) rfl (.cons (t := 1) rfl (.cons (t := 8) rfl (.cons (t := 10) rfl (.cons (t := 11) rfl (.cons (t := 12) rfl .nil)))))) ?_
  refine swl_nil ?_
  refine then_n ?_
  refine swp_region ?_
  refine s_pu (pu_move rfl) ?_
  refine s_pu (pu_move rfl) ?_
  refine s_pu (pu_low8 d (by decide) rfl rfl) ?_
  refine s_pu (pu_move rfl) ?_
  refine s_pu (pu_xor_w8 (b := b.toBitVec) rfl rfl) ?_
  first | refine s_pu (pu_nilCheck rfl) ?_ | refine s_pu (pu_nilCheck_fn rfl) ?_ | refine s_pu (pu_nilCheck_if rfl) ?_
  refine s_pu (pu_indexAddr_arr (d.setWidth 8 ^^^ b.toBitVec).toNat rfl rfl (by omega) (by omega) (by rw [Int.toNat_natCast]; omega)) ?_
  refine s_rd (rd_load rfl (tabC_get hidx)) ?_
  refine s_pu (pu_move rfl) ?_
  refine s_pu (pu_shr_w32 8 rfl rfl (by decide)) ?_
  refine s_pu (pu_xor_w32 rfl rfl) ?_
  refine s_pu (pu_assign rfl) ?_
  refine swl_sub _ (.cons (t := 0) rfl (.cons (t := 1) rfl (.cons (t := 10) rfl (.cons (t := 11) rfl (.cons (t := 12) rfl .nil))))) ?_
  refine swl_nil ?_
  refine block_n ?_
  refine then_n ?_
  refine swp_region ?_
  refine s_pu (pu_add_as ((i + 1 : Nat) : Int) rfl rfl (by omega) (by omega) (by omega)) ?_
  refine s_pu (pu_move rfl) ?_
  refine swl_sub _ (.cons (t := 0) rfl (.cons (t := 1) rfl (.cons (t := 10) rfl (.cons (t := 11) rfl (.cons (t := 12) rfl .nil))))) ?_
  refine swl_nil ?_
  refine then_n ⟨i + 1, ⟨⟨rfl, ?_, rfl, rfl, rfl, trivial⟩, rfl, h13'⟩, by omega⟩
  rw [List.take_add_one, hb, List.foldl_append, hd]; rfl
 ·skip
  have h13' := of_decide_eq_false h13
  obtain rfl : i = s.size := by omega
  rw [← hl, List.take_length, crc_take] at hd
  refine swp_exit ?_
  refine then_x ?_
  refine then_x ?_
  refine block_hit rfl ?_
  refine then_n ?_
  refine swp_seq ?_
  refine swp_region ?_
  refine s_pu (pu_move rfl) ?_
  refine s_pu (pu_assign rfl) ?_
  refine swl_sub _ (.cons (t := 6) rfl .nil) ?_
  refine swl_nil ?_
  refine then_n ?_
  refine swp_ret ?_
  exact done_ret [blk t 168 tabC] (.tmp rfl .nil) ⟨by rw [hd]; rfl, rfl⟩ (by repeat (first | exact Split.nil | (apply Split.cons; (repeat (first | with_reducible exact Take.here | apply Take.there)))))
set_option maxHeartbeats 1000000 in
theorem sum_spec (g cap : Nat) (s : ByteArray) (hs : s.size ≤ 1048576) : Spec Tryz.prog 58 [.slice (some ⟨g, 0, none⟩) 1 cap] [blk g 9 [.string s]] (fun v L => v = .int .u32 ((sumW s.data.toList).toNat : Nat) ∧ L = []) := by
 refine Spec.of 20 Tryz.func58 rfl rfl rfl ?_
 refine swp_seq ?_
 refine swp_region ?_
 refine s_pu (pu_assign rfl) ?_
 refine swl_sub _ (.cons (t := 0) rfl .nil) ?_
 refine swl_nil ?_
 refine then_n ?_
 refine swp_seq ?_
 refine swp_region ?_
 refine s_ef (ef_fn rows_spec rfl rfl (by repeat (first | exact Split.nil | (apply Split.cons; (repeat (first | with_reducible exact Take.here | apply Take.there)))))) ?_
 rintro v7 L1 ⟨rfl, rfl⟩
 refine swl_app ?_
 refine s_ef (ef_alloc) ?_
 intro b3
 refine s_ef0 (ef_storeAs rfl rfl (cs' := tabC) (by unfold over; rw [List.take_zero, List.nil_append, List.drop_eq_nil_of_le (by rw [List.length_replicate, tabC_len]; decide), List.append_nil]) (by rw [List.length_replicate, tabC_len]; decide) tabC_len tabC_one) ?_
 refine swl_sub _ (.cons (t := 0) rfl (.cons (t := 3) rfl .nil)) ?_
 refine swl_nil ?_
 refine then_n ?_
 refine swp_seq ?_
 refine swp_region ?_
 refine s_pu (pu_assign rfl) ?_
 refine swl_sub _ (.cons (t := 0) rfl (.cons (t := 3) rfl (.cons (t := 4) rfl .nil))) ?_
 refine swl_nil ?_
 refine then_n ?_
 refine swp_seq ?_
 refine swp_seq ?_
 refine swp_region ?_
 refine s_pu (pu_move rfl) ?_
 refine s_pu (pu_len rfl) ?_
 refine s_pu (pu_move rfl) ?_
 refine swl_sub _ (.cons (t := 3) rfl (.cons (t := 4) rfl (.cons (t := 8) rfl (.cons (t := 9) rfl (.cons (t := 10) rfl .nil))))) ?_
 refine swl_nil ?_
 refine then_n ?_
 refine swp_block ?_
 refine swp_loop (ι := Nat) (fun i env L => Sub env [(3, .pointer (some ⟨b3, 0, none⟩)), (4, .int .u32 ((if i = 0 then (~~~ 0#32) else crcW (~~~ 0#32) s.data.toList).toNat : Nat)), (8, .slice (some ⟨g, 0, none⟩) 1 cap), (9, .int .i64 1), (10, .int .i64 (i : Nat))] ∧ L = [blk b3 168 tabC, blk g 9 [.string s]] ∧ i ≤ 1) (fun i => 1 - i) 0 ⟨⟨rfl, rfl, rfl, rfl, rfl, trivial⟩, rfl, Nat.zero_le _⟩ ?_
 rintro i env L ⟨hsub, rfl, hi⟩
 refine swp_sub _ hsub ?_
 clear hsub env
 refine swp_seq ?_
 refine swp_region ?_
 refine s_pu (pu_lss rfl rfl) ?_
 refine swl_sub _ (.cons (t := 3) rfl (.cons (t := 4) rfl (.cons (t := 8) rfl (.cons (t := 9) rfl (.cons (t := 10) rfl (.cons (t := 11) rfl .nil)))))) ?_
 refine swl_nil ?_
 refine then_n ?_
 refine swp_seq ?_
 refine swp_cond (b := _) rfl (fun h11 => ?_) (fun h11 => ?_)
 ·skip
  have h11' : i < 1 := by have := of_decide_eq_true h11; omega
  obtain rfl : i = 0 := by omega
  refine swp_skip ?_
  refine then_n ?_
  refine swp_seq ?_
  refine swp_block ?_
  refine swp_seq ?_
  refine swp_region ?_
  refine s_pu (pu_indexAddr 0 rfl rfl (by omega) (by omega) (by decide)) ?_
  refine s_rd (rd_load rfl rfl) ?_
  refine s_pu (pu_assign rfl) ?_
  refine swl_sub _ (.cons (t := 3) rfl (.cons (t := 4) rfl (.cons (t := 6) rfl (.cons (t := 8) rfl (.cons (t := 9) rfl (.cons (t := 10) rfl .nil)))))) ?_
  refine swl_nil ?_
  refine then_n ?_
  refine swp_region ?_
  refine s_pu (pu_move rfl) ?_
  refine s_pu (pu_move rfl) ?_
  refine s_ef (ef_fn (take_spec (~~~ 0#32) b3 s hs) rfl rfl (by repeat (first | exact Split.nil | (apply Split.cons; (repeat (first | with_reducible exact Take.here | apply Take.there)))))) ?_
  rintro v16 L1 ⟨rfl, rfl⟩
  refine swl_app ?_
  refine s_pu (pu_assign rfl) ?_
  refine swl_sub _ (.cons (t := 3) rfl (.cons (t := 4) rfl (.cons (t := 8) rfl (.cons (t := 9) rfl (.cons (t := 10) rfl .nil))))) ?_
  refine swl_nil ?_
  refine block_n ?_
  refine then_n ?_
  refine swp_region ?_
  refine s_pu (pu_add_as ((1 : Nat) : Int) rfl rfl (by omega) (by omega) (by omega)) ?_
  refine s_pu (pu_move rfl) ?_
  refine swl_sub _ (.cons (t := 3) rfl (.cons (t := 4) rfl (.cons (t := 8) rfl (.cons (t := 9) rfl (.cons (t := 10) rfl .nil))))) ?_
  refine swl_nil ?_
  exact then_n ⟨1, ⟨⟨rfl, rfl, rfl, rfl, rfl, trivial⟩, rfl, Nat.le_refl _⟩, by decide⟩
 ·skip
  have h11' := of_decide_eq_false h11
  obtain rfl : i = 1 := by omega
  refine swp_exit ?_
  refine then_x ?_
  refine then_x ?_
  refine block_hit rfl ?_
  refine then_n ?_
  refine swp_seq ?_
  refine swp_region ?_
  refine s_pu (pu_move rfl) ?_
  refine s_pu (pu_not_w32 rfl) ?_
  refine s_pu (pu_assign rfl) ?_
  refine swl_sub _ (.cons (t := 2) rfl .nil) ?_
  refine swl_nil ?_
  refine then_n ?_
  refine swp_ret ?_
  exact done_ret [] (.tmp rfl .nil) ⟨rfl, rfl⟩ (by repeat (first | exact Split.nil | (apply Split.cons; (repeat (first | with_reducible exact Take.here | apply Take.there)))))
set_option maxHeartbeats 1000000 in
theorem rsum_spec (g cap : Nat) (s : ByteArray) (hs : s.size ≤ 1048576) : Spec Tryz.prog 78 [.slice (some ⟨g, 0, none⟩) 1 cap] [blk g 9 [.string s]] (fun v L => v = .int .u32 ((sumW s.data.toList).toNat : Nat) ∧ L = []) := by
 refine Spec.of 18 Tryz.func78 rfl rfl rfl ?_
 refine swp_seq ?_
 refine swp_region ?_
 refine s_pu (pu_assign rfl) ?_
 refine swl_sub _ (.cons (t := 0) rfl .nil) ?_
 refine swl_nil ?_
 refine then_n ?_
 refine swp_seq ?_
 refine swp_region ?_
 refine s_pu (pu_assign rfl) ?_
 refine swl_sub _ (.cons (t := 0) rfl (.cons (t := 3) rfl .nil)) ?_
 refine swl_nil ?_
 refine then_n ?_
 refine swp_seq ?_
 refine swp_seq ?_
 refine swp_region ?_
 refine s_pu (pu_assign rfl) ?_
 refine swl_sub _ (.cons (t := 0) rfl (.cons (t := 3) rfl (.cons (t := 4) rfl .nil))) ?_
 refine swl_nil ?_
 refine then_n ?_
 refine swp_block ?_
 refine swp_loop (ι := Nat) (fun i env L => Sub env [(0, .slice (some ⟨g, 0, none⟩) 1 cap), (3, .int .u32 ((if i = 0 then 0#32 else sumW s.data.toList).toNat : Nat)), (4, .int .i64 (i : Nat))] ∧ L = [blk g 9 [.string s]] ∧ i ≤ 1) (fun i => 1 - i) 0 ⟨⟨rfl, rfl, rfl, trivial⟩, rfl, Nat.zero_le _⟩ ?_
 rintro i env L ⟨hsub, rfl, hi⟩
 refine swp_sub _ hsub ?_
 clear hsub env
 refine swp_seq ?_
 refine swp_seq ?_
 refine swp_region ?_
 refine s_pu (pu_move rfl) ?_
 refine s_pu (pu_move rfl) ?_
 refine s_pu (pu_len rfl) ?_
 refine s_pu (pu_lss rfl rfl) ?_
 refine swl_sub _ (.cons (t := 0) rfl (.cons (t := 3) rfl (.cons (t := 4) rfl (.cons (t := 8) rfl .nil)))) ?_
 refine swl_nil ?_
 refine then_n ?_
 refine swp_cond (b := _) rfl (fun h8 => ?_) (fun h8 => ?_)
 ·skip
  have h8' : i < 1 := by have := of_decide_eq_true h8; omega
  obtain rfl : i = 0 := by omega
  refine swp_skip ?_
  refine then_n ?_
  refine swp_seq ?_
  refine swp_block ?_
  refine swp_region ?_
  refine s_pu (pu_move rfl) ?_
  refine s_pu (pu_move rfl) ?_
  refine s_pu (pu_move rfl) ?_
  refine s_pu (pu_indexAddr 0 rfl rfl (by omega) (by omega) (by decide)) ?_
  refine s_rd (rd_load rfl rfl) ?_
  refine s_ef (ef_fn (rmore_spec 0#32 s hs) rfl rfl (by repeat (first | exact Split.nil | (apply Split.cons; (repeat (first | with_reducible exact Take.here | apply Take.there)))))) ?_
  rintro v16 L1 ⟨rfl, rfl⟩
  refine swl_app ?_
  refine s_pu (pu_assign rfl) ?_
  refine swl_sub _ (.cons (t := 0) rfl (.cons (t := 3) rfl (.cons (t := 4) rfl .nil))) ?_
  refine swl_nil ?_
  refine block_n ?_
  refine then_n ?_
  refine swp_region ?_
  refine s_pu (pu_move rfl) ?_
  refine s_pu (pu_add_as ((1 : Nat) : Int) rfl rfl (by omega) (by omega) (by omega)) ?_
  refine s_pu (pu_assign rfl) ?_
  refine swl_sub _ (.cons (t := 0) rfl (.cons (t := 3) rfl (.cons (t := 4) rfl .nil))) ?_
  refine swl_nil ?_
  exact then_n ⟨1, ⟨⟨rfl, rfl, rfl, trivial⟩, rfl, Nat.le_refl _⟩, by decide⟩
 ·skip
  have h8' := of_decide_eq_false h8
  obtain rfl : i = 1 := by omega
  refine swp_exit ?_
  refine then_x ?_
  refine then_x ?_
  refine block_hit rfl ?_
  refine then_n ?_
  refine swp_seq ?_
  refine swp_region ?_
  refine s_pu (pu_move rfl) ?_
  refine s_pu (pu_assign rfl) ?_
  refine swl_sub _ (.cons (t := 2) rfl .nil) ?_
  refine swl_nil ?_
  refine then_n ?_
  refine swp_ret ?_
  exact done_ret [] (.tmp rfl .nil) ⟨rfl, rfl⟩ (by repeat (first | exact Split.nil | (apply Split.cons; (repeat (first | with_reducible exact Take.here | apply Take.there)))))
end SX
namespace SX
open Go Go.Proofs
theorem bcs_app (a b : List UInt8) : bcs (a ++ b) = bcs a ++ bcs b := List.flatMap_append
set_option maxHeartbeats 1000000 in
theorem fixed_spec (p : Nat) (v : Value) (x : BitVec 64) (n : Nat) (bs : List UInt8) (hn : n ≤ 8) (hb : bs.length ≤ 1048576) :
  Spec Tryz.prog 74 [.pointer (some ⟨p, 0, none⟩), .int .u64 (x.toNat : Nat), .int .i64 (n : Nat)] [blk p 166 [v], own 5 1 v bs.length (bcs bs)] (fun r L => r = .tuple #[] ∧ ∃ v', L = [blk p 166 [v'], own 5 1 v' (bs ++ bigW x n).length (bcs (bs ++ bigW x n))]) := by
 refine Spec.of 28 Tryz.func74 rfl rfl rfl ?_
 refine swp_seq ?_
 refine swp_seq ?_
 refine swp_region ?_
 refine s_pu (pu_move rfl) ?_
 refine s_pu (pu_ptr_eq_nil rfl rfl) ?_
 refine swl_sub _ (.cons (t := 0) rfl (.cons (t := 1) rfl (.cons (t := 2) rfl (.cons (t := 7) rfl .nil)))) ?_
 refine swl_nil ?_
 refine then_n ?_
 refine swp_cond (b := _) rfl (fun h7 => by cases h7) (fun h7 => ?_)
 refine swp_skip ?_
 refine then_n ?_
 refine swp_seq ?_
 refine swp_region ?_
 refine s_pu (pu_move rfl) ?_
 refine s_pu (pu_sub_as ((n : Int) - 1) rfl rfl (by omega) (by omega) (by omega)) ?_
 refine s_pu (pu_assign rfl) ?_
 refine swl_sub _ (.cons (t := 0) rfl (.cons (t := 1) rfl (.cons (t := 2) rfl .nil))) ?_
 refine swl_nil ?_
 refine then_n ?_
 refine swp_block ?_
 refine swp_loop (ι := Nat × Value) (fun k env L => Sub env [(0, .pointer (some ⟨p, 0, none⟩)), (1, .int .u64 (x.toNat : Nat)), (2, .int .i64 ((k.1 : Int) - 1))] ∧ Ent L [blk p 166 [k.2], own 5 1 k.2 (bs ++ (bigW x n).take (n - k.1)).length (bcs (bs ++ (bigW x n).take (n - k.1)))] ∧ k.1 ≤ n) (fun k => k.1) (n, v) ⟨⟨rfl, rfl, rfl, trivial⟩, by show Ent _ [blk p 166 [v], own 5 1 v (bs ++ (bigW x n).take (n - n)).length (bcs (bs ++ (bigW x n).take (n - n)))]; rw [Nat.sub_self, List.take_zero, List.append_nil]; exact Ent.refl _, Nat.le_refl _⟩ ?_
 rintro ⟨r, v1⟩ env L ⟨hsub, hE, hr⟩
 simp only [] at hsub hE hr
 refine swp_sub _ hsub ?_
 refine swp_ent hE ?_
 clear hsub hE env L
 dsimp only
 have hlen : (bs ++ (bigW x n).take (n - r)).length = bs.length + (n - r) := by rw [List.length_append, List.length_take, bigW_len]; omega
 refine swp_seq ?_
 refine swp_seq ?_
 refine swp_region ?_
 refine s_pu (pu_move rfl) ?_
 refine s_pu (pu_geq rfl rfl) ?_
 refine swl_sub _ (.cons (t := 0) rfl (.cons (t := 1) rfl (.cons (t := 2) rfl (.cons (t := 11) rfl .nil)))) ?_
 refine swl_nil ?_
 refine then_n ?_
 refine swp_cond (b := _) rfl (fun h11 => ?_) (fun h11 => ?_)
 ·skip
  have h11' : 1 ≤ r := by have := of_decide_eq_true h11; omega
  refine swp_skip ?_
  refine then_n ?_
  refine swp_seq ?_
  refine swp_block ?_
  refine swp_draw [4] _ [] (by simp only [List.append_nil]; exact Ent.refl _) (by kernel_rfl) ?_
  refine d_pu 0 rfl (pu_move rfl) (by kernel_rfl) (by kernel_rfl) (by kernel_rfl) ?_
  refine d_pu 1 rfl (pu_move rfl) (by kernel_rfl) (by kernel_rfl) (by kernel_rfl) ?_
  first | refine d_pu 2 rfl (pu_nilCheck rfl) (by kernel_rfl) (by kernel_rfl) (by kernel_rfl) ?_ | refine d_pu 2 rfl (pu_nilCheck_fn rfl) (by kernel_rfl) (by kernel_rfl) (by kernel_rfl) ?_ | refine d_pu 2 rfl (pu_nilCheck_if rfl) (by kernel_rfl) (by kernel_rfl) (by kernel_rfl) ?_
  first | refine d_pu 3 rfl (pu_fieldAddr0 rfl) (by kernel_rfl) (by kernel_rfl) (by kernel_rfl) ?_ | refine d_pu 3 rfl (pu_fieldAddr rfl) (by kernel_rfl) (by kernel_rfl) (by kernel_rfl) ?_
  refine d_rd 4 rfl (rd_load rfl rfl) rfl (by kernel_rfl) (by kernel_rfl) (by kernel_rfl) ?_
  refine d_pu 5 rfl (pu_move rfl) (by kernel_rfl) (by kernel_rfl) (by kernel_rfl) ?_
  refine d_pu 6 rfl (pu_move rfl) (by kernel_rfl) (by kernel_rfl) (by kernel_rfl) ?_
  refine d_pu 7 rfl (pu_mul_as ((8 * (r - 1) : Nat) : Int) rfl rfl (by omega) (by omega) (by omega)) (by kernel_rfl) (by kernel_rfl) (by kernel_rfl) ?_
  refine d_pu 8 rfl (pu_shr_w (8 * (r - 1)) rfl rfl (by omega)) (by kernel_rfl) (by kernel_rfl) (by kernel_rfl) ?_
  refine d_pu 9 rfl (pu_low8 (x >>> (8 * (r - 1))) (by decide) rfl rfl) (by kernel_rfl) (by kernel_rfl) (by kernel_rfl) ?_
  refine d_eft 10 rfl (by kernel_rfl) (ef_bldS (qs := [(0, _)]) rfl rfl rfl) ?_
  intro b24
  refine ⟨_, Split.ent (by repeat (first | exact Split.nil | (apply Split.cons; (repeat (first | with_reducible exact Take.here | apply Take.there))))), ?_⟩
  first | refine d_fint 11 rfl (by kernel_rfl) (by kernel_rfl) (ef_append_lit (m := 1) rfl rfl (by repeat (first | exact Split.nil | (apply Split.cons; (repeat (first | with_reducible exact Take.here | apply Take.there))))) (by rw [hlen]; simp only [maxLen]; omega) (by rw [hlen]; omega)) ?_ | refine d_finf 11 rfl (by kernel_rfl) (by kernel_rfl) (ef_append_lit (m := 1) rfl rfl (by repeat (first | exact Split.nil | (apply Split.cons; (repeat (first | with_reducible exact Take.here | apply Take.there))))) (by rw [hlen]; simp only [maxLen]; omega) (by rw [hlen]; omega)) ?_
  rintro v25 hv25
  obtain ⟨g25, c25, rfl⟩ := hv25 (by decide)
  first | refine d_pu 12 rfl (pu_nilCheck rfl) (by kernel_rfl) (by kernel_rfl) (by kernel_rfl) ?_ | refine d_pu 12 rfl (pu_nilCheck_fn rfl) (by kernel_rfl) (by kernel_rfl) (by kernel_rfl) ?_ | refine d_pu 12 rfl (pu_nilCheck_if rfl) (by kernel_rfl) (by kernel_rfl) (by kernel_rfl) ?_
  first | refine d_pu 13 rfl (pu_fieldAddr0 rfl) (by kernel_rfl) (by kernel_rfl) (by kernel_rfl) ?_ | refine d_pu 13 rfl (pu_fieldAddr rfl) (by kernel_rfl) (by kernel_rfl) (by kernel_rfl) ?_
  first | refine d_fin0t 14 rfl (by kernel_rfl) (by kernel_rfl) (ef_store rfl rfl rfl) ?_ | refine d_fin0f 14 rfl (by kernel_rfl) (by kernel_rfl) (ef_store rfl rfl rfl) ?_
  refine d_sub _ (.cons (t := 0) rfl (.cons (t := 1) rfl (.cons (t := 2) rfl .nil))) ?_
  first | refine d_nilt (by kernel_rfl) ?_ | refine d_nilf (by kernel_rfl) ?_
  refine block_n ?_
  refine then_n ?_
  refine swp_region ?_
  refine s_pu (pu_move rfl) ?_
  refine s_pu (pu_sub_as (((r - 1 : Nat) : Int) - 1) rfl rfl (by omega) (by omega) (by omega)) ?_
  refine s_pu (pu_assign rfl) ?_
  refine swl_sub _ (.cons (t := 0) rfl (.cons (t := 1) rfl (.cons (t := 2) rfl .nil))) ?_
  refine swl_nil ?_
  have hge := bigW_get x (n := n) (i := n - r) (by omega)
  have e1 : n - (r - 1) = n - r + 1 := by omega
  have e2 : n - 1 - (n - r) = r - 1 := by omega
  rw [e2] at hge
  have e3 : bs ++ (bigW x n).take (n - (r - 1)) = (bs ++ (bigW x n).take (n - r)) ++ [UInt8.ofBitVec ((x >>> (8 * (r - 1))).setWidth 8)] := by
   rw [e1, List.take_add_one, hge, List.append_assoc]; rfl
  refine then_n ⟨(r - 1, (.slice (some ⟨g25, 0, none⟩) ((bs ++ (bigW x n).take (n - r)).length + 1) c25)), ⟨⟨rfl, rfl, rfl, trivial⟩, ?_, by show r - 1 ≤ n; omega⟩, by show r - 1 < r; omega⟩
  show Ent _ [blk p 166 [(.slice (some ⟨g25, 0, none⟩) ((bs ++ (bigW x n).take (n - r)).length + 1) c25)], own 5 1 (.slice (some ⟨g25, 0, none⟩) ((bs ++ (bigW x n).take (n - r)).length + 1) c25) (bs ++ (bigW x n).take (n - (r - 1))).length (bcs (bs ++ (bigW x n).take (n - (r - 1))))]
  have e4 : ((bs ++ (bigW x n).take (n - r)) ++ [UInt8.ofBitVec ((x >>> (8 * (r - 1))).setWidth 8)]).length = (bs ++ (bigW x n).take (n - r)).length + 1 := by generalize bs ++ (bigW x n).take (n - r) = q; rw [List.length_append]; rfl
  have e5 : bcs ((bs ++ (bigW x n).take (n - r)) ++ [UInt8.ofBitVec ((x >>> (8 * (r - 1))).setWidth 8)]) = bcs (bs ++ (bigW x n).take (n - r)) ++ [.int .u8 (((x >>> (8 * (r - 1))).setWidth 8).toNat : Nat)] := by generalize bs ++ (bigW x n).take (n - r) = q; rw [bcs_app]; rfl
  rw [e3, e4, e5]
  exact Split.ent' (by repeat (first | exact Split.nil | (apply Split.cons; (repeat (first | with_reducible exact Take.here | apply Take.there)))))
 ·skip
  have h11' := of_decide_eq_false h11
  obtain rfl : r = 0 := by omega
  rw [Nat.sub_zero, List.take_of_length_le (by rw [bigW_len]; exact Nat.le_refl _)]
  refine swp_exit ?_
  refine then_x ?_
  refine then_x ?_
  refine block_hit rfl ?_
  exact done_ret [blk p 166 [v1], own 5 1 v1 (bs ++ bigW x n).length (bcs (bs ++ bigW x n))] .nil ⟨rfl, v1, rfl⟩ (by repeat (first | exact Split.nil | (apply Split.cons; (repeat (first | with_reducible exact Take.here | apply Take.there)))))
theorem wide64 (b : W32) : ((b.toNat : Nat) : Int) = ((b.setWidth 64).toNat : Int) := by
  rw [BitVec.toNat_setWidth, Nat.mod_eq_of_lt (by have := b.isLt; omega)]
theorem u32_spec (p : Nat) (v : Value) (b : W32) (bs : List UInt8) (hb : bs.length ≤ 1048576) :
  Spec Tryz.prog 57 [.pointer (some ⟨p, 0, none⟩), .int .u32 (b.toNat : Nat)] [blk p 166 [v], own 5 1 v bs.length (bcs bs)] (fun r L => r = .tuple #[] ∧ ∃ v', L = [blk p 166 [v'], own 5 1 v' (bs ++ four b).length (bcs (bs ++ four b))]) := by
 refine Spec.of 8 Tryz.func57 rfl rfl rfl ?_
 refine swp_region ?_
 refine s_pu (pu_move rfl) ?_
 refine s_pu (pu_move rfl) ?_
 refine s_pu (pu_conv_as (k' := .u64) (n := ((b.setWidth 64).toNat : Int)) (by rw [← wide64]; rfl) (wrap_word _)) ?_
 refine s_ef (ef_fn (fixed_spec p v (b.setWidth 64) 4 bs (by decide) hb) rfl rfl (by repeat (first | exact Split.nil | (apply Split.cons; (repeat (first | with_reducible exact Take.here | apply Take.there)))))) ?_
 rintro v7 L1 ⟨rfl, v', rfl⟩
 refine swl_app ?_
 refine swl_sub _ .nil ?_
 refine swl_nil ?_
 exact done_ret [blk p 166 [v'], own 5 1 v' (bs ++ four b).length (bcs (bs ++ four b))] .nil ⟨rfl, v', rfl⟩ (by repeat (first | exact Split.nil | (apply Split.cons; (repeat (first | with_reducible exact Take.here | apply Take.there)))))
theorem newW_spec : Spec Tryz.prog 56 [] [] (fun r L => ∃ p, r = .pointer (some ⟨p, 0, none⟩) ∧ L = [blk p 166 [.slice none 0 0]]) := by
 refine Spec.of 3 Tryz.func56 rfl rfl rfl ?_
 refine swp_seq ?_
 refine swp_region ?_
 refine s_pu (pu_assign rfl) ?_
 refine swl_sub _ .nil ?_
 refine swl_nil ?_
 refine then_n ?_
 refine swp_seq ?_
 refine swp_region ?_
 refine s_pu (pu_bld (qs := []) rfl) ?_
 refine s_ef (ef_box rfl rfl) ?_
 intro b2
 refine s_pu (pu_assign rfl) ?_
 refine swl_sub _ (.cons (t := 0) rfl .nil) ?_
 refine swl_nil ?_
 refine then_n ?_
 refine swp_ret ?_
 exact done_ret [blk b2 166 [.slice none 0 0]] (.tmp rfl .nil) ⟨b2, rfl, rfl⟩ (by repeat (first | exact Split.nil | (apply Split.cons; (repeat (first | with_reducible exact Take.here | apply Take.there)))))
theorem bytes_spec (p : Nat) (v : Value) (bs : List UInt8) (h0 : bs ≠ []) : Spec Tryz.prog 59 [.pointer (some ⟨p, 0, none⟩)] [own 5 1 v bs.length (bcs bs), blk p 166 [v]] (fun r L => r = .string ⟨bs.toArray⟩ ∧ L = []) := by
 refine Spec.own_cases (fun hv l0 x0 => ?_) (fun g cap ex hv o1 o2 o3 o4 => ?_)
 ·exact absurd (List.eq_nil_of_length_eq_zero l0) h0
 subst hv
 refine Spec.of 10 Tryz.func59 rfl rfl rfl ?_
 refine swp_seq ?_
 refine swp_region ?_
 refine s_pu (pu_assign rfl) ?_
 refine swl_sub _ (.cons (t := 0) rfl .nil) ?_
 refine swl_nil ?_
 refine then_n ?_
 refine swp_seq ?_
 refine swp_seq ?_
 refine swp_region ?_
 refine s_pu (pu_move rfl) ?_
 refine s_pu (pu_ptr_eq_nil rfl rfl) ?_
 refine swl_sub _ (.cons (t := 0) rfl (.cons (t := 4) rfl .nil)) ?_
 refine swl_nil ?_
 refine then_n ?_
 refine swp_cond (b := _) rfl (fun h4 => by cases h4) (fun h4 => ?_)
 refine swp_skip ?_
 refine then_n ?_
 refine swp_seq ?_
 refine swp_region ?_
 refine s_pu (pu_move rfl) ?_
 first | refine s_pu (pu_nilCheck rfl) ?_ | refine s_pu (pu_nilCheck_fn rfl) ?_ | refine s_pu (pu_nilCheck_if rfl) ?_
 first | refine s_pu (pu_fieldAddr0 rfl) ?_ | refine s_pu (pu_fieldAddr rfl) ?_
 refine s_rd (rd_load rfl rfl) ?_
 refine s_rd (rd_bytes bs rfl (by exact .here)) ?_
 refine s_pu (pu_assign rfl) ?_
 refine swl_sub _ (.cons (t := 2) rfl .nil) ?_
 refine swl_nil ?_
 refine then_n ?_
 refine swp_ret ?_
 exact done_ret [] (.tmp rfl .nil) ⟨rfl, rfl⟩ (by repeat (first | exact Split.nil | (apply Split.cons; (repeat (first | with_reducible exact Take.here | apply Take.there)))))
set_option maxHeartbeats 1000000 in
theorem number_spec (x : BitVec 64) (n : Nat) (h0 : 0 < n) (hn : n ≤ 8) : Spec Tryz.prog 77 [.int .u64 (x.toNat : Nat), .int .i64 (n : Nat)] [] (fun r L => r = .string ⟨(bigW x n).toArray⟩ ∧ L = []) := by
 refine Spec.of 27 Tryz.func77 rfl rfl rfl ?_
 refine swp_seq ?_
 refine swp_region ?_
 refine s_pu (pu_assign rfl) ?_
 refine swl_sub _ (.cons (t := 0) rfl (.cons (t := 1) rfl .nil)) ?_
 refine swl_nil ?_
 refine then_n ?_
 refine swp_seq ?_
 refine swp_region ?_
 refine s_pu (pu_move rfl) ?_
 refine s_ef (ef_make1 n rfl rfl rfl (by omega) (by simp only [maxLen]; omega)) ?_
 rintro g8
 skip
 refine s_pu (pu_assign rfl) ?_
 refine swl_sub _ (.cons (t := 0) rfl (.cons (t := 1) rfl (.cons (t := 5) rfl .nil))) ?_
 refine swl_nil ?_
 refine then_n ?_
 refine swp_seq ?_
 refine swp_seq ?_
 refine swp_region ?_
 refine s_pu (pu_assign rfl) ?_
 refine swl_sub _ (.cons (t := 0) rfl (.cons (t := 1) rfl (.cons (t := 5) rfl (.cons (t := 6) rfl .nil)))) ?_
 refine swl_nil ?_
 refine then_n ?_
 refine swp_block ?_
 refine swp_loop (ι := Nat) (fun i env L => Sub env [(0, .int .u64 (x.toNat : Nat)), (1, .int .i64 (n : Nat)), (5, .slice (some ⟨g8, 0, none⟩) n n), (6, .int .i64 (i : Nat))] ∧ L = [blk g8 5 (bcs ((bigW x n).take i) ++ List.replicate (n - i) (.int .u8 0))] ∧ i ≤ n) (fun i => n - i) 0 ⟨⟨rfl, rfl, rfl, rfl, trivial⟩, rfl, Nat.zero_le _⟩ ?_
 rintro i env L ⟨hsub, rfl, hi⟩
 refine swp_sub _ hsub ?_
 clear hsub env
 have hlen : (bcs ((bigW x n).take i)).length = i := by rw [bcs_len, List.length_take, bigW_len]; omega
 refine swp_seq ?_
 refine swp_seq ?_
 refine swp_region ?_
 refine s_pu (pu_move rfl) ?_
 refine s_pu (pu_move rfl) ?_
 refine s_pu (pu_lss rfl rfl) ?_
 refine swl_sub _ (.cons (t := 0) rfl (.cons (t := 1) rfl (.cons (t := 5) rfl (.cons (t := 6) rfl (.cons (t := 11) rfl .nil))))) ?_
 refine swl_nil ?_
 refine then_n ?_
 refine swp_cond (b := _) rfl (fun h11 => ?_) (fun h11 => ?_)
 ·skip
  have h11' : i < n := by have := of_decide_eq_true h11; omega
  refine swp_skip ?_
  refine then_n ?_
  refine swp_seq ?_
  refine swp_block ?_
  refine swp_region ?_
  refine s_pu (pu_move rfl) ?_
  refine s_pu (pu_move rfl) ?_
  refine s_pu (pu_move rfl) ?_
  refine s_pu (pu_move rfl) ?_
  refine s_pu (pu_sub_as ((n - 1 : Nat) : Int) rfl rfl (by omega) (by omega) (by omega)) ?_
  refine s_pu (pu_move rfl) ?_
  refine s_pu (pu_sub_as ((n - 1 - i : Nat) : Int) rfl rfl (by omega) (by omega) (by omega)) ?_
  refine s_pu (pu_mul_as ((8 * (n - 1 - i) : Nat) : Int) rfl rfl (by omega) (by omega) (by omega)) ?_
  refine s_pu (pu_shr_w (8 * (n - 1 - i)) rfl rfl (by omega)) ?_
  refine s_pu (pu_low8 (x >>> (8 * (n - 1 - i))) (by decide) rfl rfl) ?_
  refine s_pu (pu_indexAddr i rfl rfl (by omega) (by omega) (by rw [Int.toNat_natCast]; omega)) ?_
  refine s_ef0 (ef_storeP rfl rfl rfl (by rw [List.length_append, hlen, List.length_replicate]; omega)) ?_
  refine swl_sub _ (.cons (t := 0) rfl (.cons (t := 1) rfl (.cons (t := 5) rfl (.cons (t := 6) rfl .nil)))) ?_
  refine swl_nil ?_
  refine block_n ?_
  refine then_n ?_
  refine swp_region ?_
  refine s_pu (pu_move rfl) ?_
  refine s_pu (pu_add_as ((i + 1 : Nat) : Int) rfl rfl (by omega) (by omega) (by omega)) ?_
  refine s_pu (pu_assign rfl) ?_
  refine swl_sub _ (.cons (t := 0) rfl (.cons (t := 1) rfl (.cons (t := 5) rfl (.cons (t := 6) rfl .nil)))) ?_
  refine swl_nil ?_
  refine then_n ⟨i + 1, ⟨⟨rfl, rfl, rfl, rfl, trivial⟩, ?_, h11'⟩, by omega⟩
  have e : (bcs ((bigW x n).take i) ++ List.replicate (n - i) (Value.int .u8 0)).set i (Value.int .u8 (((x >>> (8 * (n - 1 - i))).setWidth 8).toNat : Nat)) = bcs ((bigW x n).take (i + 1)) ++ List.replicate (n - (i + 1)) (Value.int .u8 0) := by
   rw [List.take_add_one, bigW_get x h11', bcs_app, List.set_append_right _ _ (by rw [hlen]; exact Nat.le_refl _), hlen, Nat.sub_self]
   have : n - i = (n - (i + 1)) + 1 := by omega
   rw [this, List.replicate_succ, List.set_cons_zero, List.append_assoc]; rfl
  rw [← e]
 ·skip
  have h11' := of_decide_eq_false h11
  obtain rfl : i = n := by omega
  rw [List.take_of_length_le (by rw [bigW_len]; exact Nat.le_refl _)]
  have hbl := bigW_len x i
  refine swp_exit ?_
  refine then_x ?_
  refine then_x ?_
  refine block_hit rfl ?_
  refine then_n ?_
  refine swp_seq ?_
  refine swp_region ?_
  refine s_pu (pu_move rfl) ?_
  refine s_rd (rd_bytes (bigW x i) (by rw [hbl]; rfl) .here) ?_
  refine s_pu (pu_assign rfl) ?_
  refine swl_sub _ (.cons (t := 4) rfl .nil) ?_
  refine swl_nil ?_
  refine then_n ?_
  refine swp_ret ?_
  exact done_ret [] (.tmp rfl .nil) ⟨rfl, rfl⟩ (by repeat (first | exact Split.nil | (apply Split.cons; (repeat (first | with_reducible exact Take.here | apply Take.there)))))
theorem four_ne (b : W32) (l : List UInt8) : l ++ four b ≠ [] := by
  intro e
  have := congrArg List.length e
  rw [List.length_append, four_len] at this
  simp at this
set_option maxHeartbeats 1000000 in
theorem mark_spec (b o t : W32) : Spec Tryz.prog 36 [.int .u32 (b.toNat : Nat), .int .u32 (o.toNat : Nat), .int .u32 (t.toNat : Nat)] [] (fun r L => r = .int .u32 ((markW b o t).toNat : Nat) ∧ L = []) := by
 refine Spec.of 23 Tryz.func36 rfl rfl rfl ?_
 refine swp_seq ?_
 refine swp_region ?_
 refine s_pu (pu_assign rfl) ?_
 refine swl_sub _ (.cons (t := 0) rfl (.cons (t := 1) rfl (.cons (t := 2) rfl .nil))) ?_
 refine swl_nil ?_
 refine then_n ?_
 refine swp_seq ?_
 refine swp_region ?_
 refine s_ef (ef_fn newW_spec rfl rfl (by repeat (first | exact Split.nil | (apply Split.cons; (repeat (first | with_reducible exact Take.here | apply Take.there)))))) ?_
 rintro v8 L1 ⟨p, rfl, rfl⟩
 refine swl_app ?_
 refine s_pu (pu_assign rfl) ?_
 refine swl_sub _ (.cons (t := 0) rfl (.cons (t := 1) rfl (.cons (t := 2) rfl (.cons (t := 7) rfl .nil)))) ?_
 refine swl_nil ?_
 refine then_n ?_
 refine swp_seq ?_
 refine swp_ent (show Ent _ (own 5 1 (.slice none 0 0) ([] : List UInt8).length (bcs []) :: _) from own_nil_ent) ?_
 refine swp_region ?_
 refine s_pu (pu_move rfl) ?_
 refine s_pu (pu_move rfl) ?_
 refine s_ef (ef_fn (u32_spec p (.slice none 0 0) b [] (by decide)) rfl rfl (by repeat (first | exact Split.nil | (apply Split.cons; (repeat (first | with_reducible exact Take.here | apply Take.there)))))) ?_
 rintro v11 L1 ⟨rfl, w1, rfl⟩
 refine swl_app ?_
 refine swl_sub _ (.cons (t := 1) rfl (.cons (t := 2) rfl (.cons (t := 7) rfl .nil))) ?_
 refine swl_nil ?_
 refine then_n ?_
 refine swp_seq ?_
 refine swp_region ?_
 refine s_pu (pu_move rfl) ?_
 refine s_pu (pu_move rfl) ?_
 refine s_ef (ef_fn (u32_spec p w1 o ([] ++ four b) (by rw [List.nil_append, four_len]; decide)) rfl rfl (by repeat (first | exact Split.nil | (apply Split.cons; (repeat (first | with_reducible exact Take.here | apply Take.there)))))) ?_
 rintro v14 L1 ⟨rfl, w2, rfl⟩
 refine swl_app ?_
 refine swl_sub _ (.cons (t := 2) rfl (.cons (t := 7) rfl .nil)) ?_
 refine swl_nil ?_
 refine then_n ?_
 refine swp_seq ?_
 refine swp_region ?_
 refine s_pu (pu_move rfl) ?_
 refine s_pu (pu_move rfl) ?_
 refine s_ef (ef_fn (u32_spec p w2 t ([] ++ four b ++ four o) (by rw [List.nil_append, List.length_append, four_len, four_len]; decide)) rfl rfl (by repeat (first | exact Split.nil | (apply Split.cons; (repeat (first | with_reducible exact Take.here | apply Take.there)))))) ?_
 rintro v17 L1 ⟨rfl, w3, rfl⟩
 refine swl_app ?_
 refine swl_sub _ (.cons (t := 7) rfl .nil) ?_
 refine swl_nil ?_
 refine then_n ?_
 refine swp_seq ?_
 refine swp_region ?_
 refine s_pu (pu_move rfl) ?_
 refine s_ef (ef_fn (bytes_spec p w3 ([] ++ four b ++ four o ++ four t) (four_ne _ _)) rfl rfl (by repeat (first | exact Split.nil | (apply Split.cons; (repeat (first | with_reducible exact Take.here | apply Take.there)))))) ?_
 rintro v19 L1 ⟨rfl, rfl⟩
 refine swl_app ?_
 refine s_ef (ef_bldS (qs := [(0, _)]) rfl rfl rfl) ?_
 intro b20
 refine s_ef (ef_fn (sum_spec b20 1 ⟨([] ++ four b ++ four o ++ four t).toArray⟩ (by show ([] ++ four b ++ four o ++ four t).toArray.size ≤ _; rw [List.size_toArray, List.nil_append, List.length_append, List.length_append, four_len, four_len, four_len]; decide)) rfl rfl (by repeat (first | exact Split.nil | (apply Split.cons; (repeat (first | with_reducible exact Take.here | apply Take.there)))))) ?_
 rintro v21 L1 ⟨rfl, rfl⟩
 refine swl_app ?_
 refine s_pu (pu_or_w32 (b := 2147483648#32) rfl rfl) ?_
 refine s_pu (pu_assign rfl) ?_
 refine swl_sub _ (.cons (t := 6) rfl .nil) ?_
 refine swl_nil ?_
 refine then_n ?_
 refine swp_ret ?_
 exact done_ret [] (.tmp rfl .nil) ⟨rfl, rfl⟩ (by repeat (first | exact Split.nil | (apply Split.cons; (repeat (first | with_reducible exact Take.here | apply Take.there)))))
theorem str_cat (a b : List UInt8) : (⟨a.toArray⟩ : ByteArray) ++ ⟨b.toArray⟩ = ⟨(a ++ b).toArray⟩ := by
  apply ByteArray.ext
  rw [ByteArray.data_append]
  simp
theorem str_size (l : List UInt8) : (⟨l.toArray⟩ : ByteArray).size = l.length := by show l.toArray.size = _; rw [List.size_toArray]
set_option maxHeartbeats 1000000 in
theorem rmark_spec (b o t : W32) : Spec Tryz.prog 60 [.int .u32 (b.toNat : Nat), .int .u32 (o.toNat : Nat), .int .u32 (t.toNat : Nat)] [] (fun r L => r = .int .u32 ((markW b o t).toNat : Nat) ∧ L = []) := by
 refine Spec.of 24 Tryz.func60 rfl rfl rfl ?_
 refine swp_seq ?_
 refine swp_region ?_
 refine s_pu (pu_assign rfl) ?_
 refine swl_sub _ (.cons (t := 0) rfl (.cons (t := 1) rfl (.cons (t := 2) rfl .nil))) ?_
 refine swl_nil ?_
 refine then_n ?_
 refine swp_seq ?_
 refine swp_region ?_
 refine s_pu (pu_move rfl) ?_
 refine s_pu (pu_conv_as (k' := .u64) (n := ((b.setWidth 64).toNat : Int)) (by rw [← wide64]; rfl) (wrap_word _)) ?_
 refine s_ef (ef_fn (number_spec (b.setWidth 64) 4 (by decide) (by decide)) rfl rfl (by repeat (first | exact Split.nil | (apply Split.cons; (repeat (first | with_reducible exact Take.here | apply Take.there)))))) ?_
 rintro v10 L1 ⟨rfl, rfl⟩
 refine swl_app ?_
 refine s_pu (pu_move rfl) ?_
 refine s_pu (pu_conv_as (k' := .u64) (n := ((o.setWidth 64).toNat : Int)) (by rw [← wide64]; rfl) (wrap_word _)) ?_
 refine s_ef (ef_fn (number_spec (o.setWidth 64) 4 (by decide) (by decide)) rfl rfl (by repeat (first | exact Split.nil | (apply Split.cons; (repeat (first | with_reducible exact Take.here | apply Take.there)))))) ?_
 rintro v13 L1 ⟨rfl, rfl⟩
 refine swl_app ?_
 refine s_pu (pu_str_add rfl rfl (by rw [str_size, str_size, bigW_len, bigW_len]; decide)) ?_
 refine s_pu (pu_move rfl) ?_
 refine s_pu (pu_conv_as (k' := .u64) (n := ((t.setWidth 64).toNat : Int)) (by rw [← wide64]; rfl) (wrap_word _)) ?_
 refine s_ef (ef_fn (number_spec (t.setWidth 64) 4 (by decide) (by decide)) rfl rfl (by repeat (first | exact Split.nil | (apply Split.cons; (repeat (first | with_reducible exact Take.here | apply Take.there)))))) ?_
 rintro v17 L1 ⟨rfl, rfl⟩
 refine swl_app ?_
 refine s_pu (pu_str_add rfl rfl (by rw [str_cat, str_size, str_size, List.length_append, bigW_len, bigW_len, bigW_len]; decide)) ?_
 refine s_pu (pu_assign rfl) ?_
 refine swl_sub _ (.cons (t := 7) rfl .nil) ?_
 refine swl_nil ?_
 refine then_n ?_
 refine swp_seq ?_
 rw [str_cat, str_cat]
 refine swp_region ?_
 refine s_pu (pu_move rfl) ?_
 refine s_ef (ef_bldS (qs := [(0, _)]) rfl rfl rfl) ?_
 intro b20
 refine s_ef (ef_fn (rsum_spec b20 1 ⟨(four b ++ four o ++ four t).toArray⟩ (by rw [str_size, List.length_append, List.length_append, four_len, four_len, four_len]; decide)) rfl rfl (by repeat (first | exact Split.nil | (apply Split.cons; (repeat (first | with_reducible exact Take.here | apply Take.there)))))) ?_
 rintro v21 L1 ⟨rfl, rfl⟩
 refine swl_app ?_
 refine s_pu (pu_and_w32 (b := 2147483647#32) rfl rfl) ?_
 refine s_pu (pu_or_w32 (a := 2147483648#32) rfl rfl) ?_
 refine s_pu (pu_assign rfl) ?_
 refine swl_sub _ (.cons (t := 6) rfl .nil) ?_
 refine swl_nil ?_
 refine then_n ?_
 refine swp_ret ?_
 refine done_ret [] (.tmp rfl .nil) ⟨?_, rfl⟩ (by repeat (first | exact Split.nil | (apply Split.cons; (repeat (first | with_reducible exact Take.here | apply Take.there)))))
 rw [mark_top]; rfl
end SX
namespace Go.Proofs
open Go.Shelf
def Tryz.lays106_ren : Go.Shelf.Ren := ⟨fun | 106 => 73 | 213 => 96 | 265 => 107 | n => n, fun | 9 => 9 | 3 => 3 | n => n, fun | n => n⟩
theorem Tryz.lays106 : Go.Proofs.Lays.n106 Tryz.prog Tryz.lays106_ren := {
  mixed := by kernel_rfl
  f106 := Tryz.func73.trans (congrArg some (by kernel_rfl))
  f213 := Tryz.func96.trans (congrArg some (by kernel_rfl))
  f265 := Tryz.func107.trans (congrArg some (by kernel_rfl))
  t3 := Tryz.underlying3
  a3 := Tryz.isAgg3
  z3 := Tryz.sizeOf3
  v3 := Tryz.zeroValue3
  t9 := Tryz.underlying9
  a9 := Tryz.isAgg9
  z9 := Tryz.sizeOf9
  v9 := Tryz.zeroValue9 }
open Go.RowKit in
/-- strings.Compare: "Compare returns an integer comparing two strings lexicographically. The result will be 0 if a == b, -1 if a < b, and +1 if a > b.": IT RETURNS 'Lib.compareBytes a b'; the world is as it was. (LAID: no walk: one application.) -/
theorem Tryz.strings_Compare (a b : ByteArray) (w : World) :
    Calls Tryz.prog 73 #[.string a, .string b] w fun e w' => e = .returned (.int .i64 (Lib.compareBytes a.data.toList b.data.toList)) ∧ w' = w := Any.strings_Compare Tryz.lays106 a b w
def Tryz.lays190_ren : Go.Shelf.Ren := ⟨fun | 190 => 52 | 125 => 72 | 258 => 71 | 128 => 94 | 129 => 95 | 302 => 85 | 303 => 86 | 304 => 87 | 305 => 88 | 306 => 89 | 307 => 90 | 308 => 91 | 309 => 92 | 310 => 93 | 333 => 101 | 329 => 102 | 330 => 103 | 334 => 104 | 335 => 105 | 336 => 106 | 344 => 109 | n => n, fun | 31 => 97 | 9 => 9 | 3 => 3 | 46 => 163 | 0 => 0 | 51 => 24 | 53 => 150 | 4 => 4 | 183 => 181 | 182 => 180 | 131 => 137 | 5 => 5 | 218 => 191 | 222 => 195 | 228 => 199 | 229 => 200 | n => n, fun | n => n⟩
theorem Tryz.lays190 : Go.Proofs.Lays.n190 Tryz.prog Tryz.lays190_ren := {
  mixed := by kernel_rfl
  f125 := Tryz.func72.trans (congrArg some (by kernel_rfl))
  f128 := Tryz.func94.trans (congrArg some (by kernel_rfl))
  f129 := Tryz.func95.trans (congrArg some (by kernel_rfl))
  f190 := Tryz.func52.trans (congrArg some (by kernel_rfl))
  f258 := Tryz.func71.trans (congrArg some (by kernel_rfl))
  f302 := Tryz.func85.trans (congrArg some (by kernel_rfl))
  f303 := Tryz.func86.trans (congrArg some (by kernel_rfl))
  f304 := Tryz.func87.trans (congrArg some (by kernel_rfl))
  f305 := Tryz.func88.trans (congrArg some (by kernel_rfl))
  f306 := Tryz.func89.trans (congrArg some (by kernel_rfl))
  f307 := Tryz.func90.trans (congrArg some (by kernel_rfl))
  f308 := Tryz.func91.trans (congrArg some (by kernel_rfl))
  f309 := Tryz.func92.trans (congrArg some (by kernel_rfl))
  f310 := Tryz.func93.trans (congrArg some (by kernel_rfl))
  f329 := Tryz.func102.trans (congrArg some (by kernel_rfl))
  f330 := Tryz.func103.trans (congrArg some (by kernel_rfl))
  f333 := Tryz.func101.trans (congrArg some (by kernel_rfl))
  f334 := Tryz.func104.trans (congrArg some (by kernel_rfl))
  f335 := Tryz.func105.trans (congrArg some (by kernel_rfl))
  f336 := Tryz.func106.trans (congrArg some (by kernel_rfl))
  f344 := Tryz.func109.trans (congrArg some (by kernel_rfl))
  t0 := Tryz.underlying0
  a0 := Tryz.isAgg0
  z0 := Tryz.sizeOf0
  v0 := Tryz.zeroValue0
  t3 := Tryz.underlying3
  a3 := Tryz.isAgg3
  z3 := Tryz.sizeOf3
  v3 := Tryz.zeroValue3
  t4 := Tryz.underlying4
  a4 := Tryz.isAgg4
  z4 := Tryz.sizeOf4
  v4 := Tryz.zeroValue4
  t5 := Tryz.underlying5
  a5 := Tryz.isAgg5
  z5 := Tryz.sizeOf5
  v5 := Tryz.zeroValue5
  t9 := Tryz.underlying9
  a9 := Tryz.isAgg9
  z9 := Tryz.sizeOf9
  v9 := Tryz.zeroValue9
  t31 := Tryz.underlying97
  a31 := Tryz.isAgg97
  z31 := Tryz.sizeOf97
  v31 := Tryz.zeroValue97
  t46 := Tryz.underlying163
  a46 := Tryz.isAgg163
  z46 := Tryz.sizeOf163
  v46 := Tryz.zeroValue163
  t51 := Tryz.underlying24
  a51 := Tryz.isAgg24
  z51 := Tryz.sizeOf24
  v51 := Tryz.zeroValue24
  t53 := Tryz.underlying150
  a53 := Tryz.isAgg150
  z53 := Tryz.sizeOf150
  v53 := Tryz.zeroValue150
  t131 := Tryz.underlying137
  a131 := Tryz.isAgg137
  z131 := Tryz.sizeOf137
  v131 := Tryz.zeroValue137
  t182 := Tryz.underlying180
  a182 := Tryz.isAgg180
  z182 := Tryz.sizeOf180
  v182 := Tryz.zeroValue180
  t183 := Tryz.underlying181
  a183 := Tryz.isAgg181
  z183 := Tryz.sizeOf181
  v183 := Tryz.zeroValue181
  t218 := Tryz.underlying191
  a218 := Tryz.isAgg191
  z218 := Tryz.sizeOf191
  v218 := Tryz.zeroValue191
  t222 := Tryz.underlying195
  a222 := Tryz.isAgg195
  z222 := Tryz.sizeOf195
  v222 := Tryz.zeroValue195
  t228 := Tryz.underlying199
  a228 := Tryz.isAgg199
  z228 := Tryz.sizeOf199
  v228 := Tryz.zeroValue199
  t229 := Tryz.underlying200
  a229 := Tryz.isAgg200
  z229 := Tryz.sizeOf200
  v229 := Tryz.zeroValue200 }
open Go.Sort Go.RowKit in
theorem Tryz.slices_Sort_string (blk off cap : Nat) (ss : List (List UInt8)) (w : World) (hH : Holds encStr w blk off ss.toArray) (hblk : blk < w.heap.size) (hsz : ss.length < 4611686018427387904) :
    Calls Tryz.prog 52 #[.slice (some ⟨blk, off, none⟩) ss.length cap] w fun e w' =>
      e = .returned (.tuple #[]) ∧ ∃ n os, w' = grow (putRow encStr (Sort.ahead w n) blk off (ss.mergeSort fun x y => decide (x ≤ y)).toArray) os := Any.slices_Sort_string Tryz.lays190 blk off cap ss w hH hblk hsz
def Tryz.lays194_ren : Go.Shelf.Ren := ⟨fun | 194 => 53 | n => n, fun | 31 => 97 | 9 => 9 | 3 => 3 | 4 => 4 | 0 => 0 | n => n, fun | n => n⟩
theorem Tryz.lays194 : Go.Proofs.Lays.n194 Tryz.prog Tryz.lays194_ren := {
  mixed := by kernel_rfl
  f194 := Tryz.func53.trans (congrArg some (by kernel_rfl))
  t0 := Tryz.underlying0
  a0 := Tryz.isAgg0
  z0 := Tryz.sizeOf0
  v0 := Tryz.zeroValue0
  t3 := Tryz.underlying3
  a3 := Tryz.isAgg3
  z3 := Tryz.sizeOf3
  v3 := Tryz.zeroValue3
  t4 := Tryz.underlying4
  a4 := Tryz.isAgg4
  z4 := Tryz.sizeOf4
  v4 := Tryz.zeroValue4
  t9 := Tryz.underlying9
  a9 := Tryz.isAgg9
  z9 := Tryz.sizeOf9
  v9 := Tryz.zeroValue9
  t31 := Tryz.underlying97
  a31 := Tryz.isAgg97
  z31 := Tryz.sizeOf97
  v31 := Tryz.zeroValue97 }
open Go.RowKit Go.Lib Go.Sort in
/-- slices.Compact at []string: "Compact replaces consecutive runs of equal elements with a single copy. This is like the uniq command found on Unix. Compact modifies the contents of the slice s and returns the modified slice, which may have a smaller length. Compact zeroes the elements between the new length and the original length. The result preserves the nilness of s.": IT RETURNS THE SLICE CUT TO 'Lib.compact zs'; ITS CELLS HOLD 'Lib.compact zs', THEN ZERO VALUES up to the old length; all else is as it was, but for the count of draws. IN THE WORDS OF slices.Sort's CONTRACT ('Holds', 'putRow'): so the everyday 'slices.Sort(xs); xs = slices.Compact(xs)' goes from the one contract to the other. It asks 'zs.length ≤ cap' (every slice's: the reslicing 's[:k]' looks at it). Length 0, nil: '.._empty'. (LAID: no walk: one application.) -/
theorem Tryz.slices_Compact_string (blk off cap : Nat) (zs : List (List UInt8)) (w : World) (hH : Holds encStr w blk off zs.toArray) (hsz : zs.length ≤ 9223372036854775807) (hcap : zs.length ≤ cap) :
    Calls Tryz.prog 53 #[.slice (some ⟨blk, off, none⟩) zs.length cap] w fun e w' => e = .returned (.slice (some ⟨blk, off, none⟩) (Lib.compact zs).length cap) ∧ ∃ q, w' = putRow encStr (Sort.ahead w q) blk off (Lib.compact zs ++ List.replicate (zs.length - (Lib.compact zs).length) []).toArray := Any.slices_Compact_string Tryz.lays194 blk off cap zs w hH hsz hcap
open Go.RowKit Go.Lib Go.Sort in
/-- The same at a slice of length 0, a nil one too: it comes back as it is. (LAID: no walk: one application.) -/
theorem Tryz.slices_Compact_string_empty (a : Option Addr) (cap : Nat) (w : World) :
    Calls Tryz.prog 53 #[.slice a 0 cap] w fun e w' => e = .returned (.slice a 0 cap) ∧ w' = w := Any.slices_Compact_string_empty Tryz.lays194 a cap w
open Go.RowKit Go.Sort in
/-- .. and plain. (LAID: no walk: one application.) -/
theorem Tryz.slices_Sort_string_none (p : Option Addr) (cap : Nat) (w : World) :
    Calls Tryz.prog 52 #[.slice p 0 cap] w fun e w' => e = .returned (.tuple #[]) ∧ w' = w := Any.slices_Sort_string_none Tryz.lays190 p cap w
end Go.Proofs
namespace SX
open Go Go.Proofs
theorem Spec.ofCalls {f : FuncId} {args : List Value} {v : Value} (h : ∀ w, Calls Tryz.prog f args.toArray w fun e w' => e = .returned v ∧ w' = w) : Spec Tryz.prog f args [] (fun r L => r = v ∧ L = []) := fun _ w hw =>
  (h w).mono fun _ _ ⟨e1, e2⟩ => ⟨v, [], e1, ⟨rfl, rfl⟩, e2 ▸ hw⟩
theorem cmp_spec (a b : ByteArray) : Spec Tryz.prog 73 [.string a, .string b] [] (fun v L => v = .int .i64 (cmpS a b) ∧ L = []) := Spec.ofCalls fun w => Tryz.strings_Compare a b w
theorem bypath_spec (e : En) (p : ByteArray) : Spec Tryz.prog 55 [.agg (enc1 e).toArray, .string p] [] (fun v L => v = .int .i64 (cmpS e.1 p) ∧ L = []) := by
 refine Spec.of 9 Tryz.func55 rfl rfl rfl ?_
 refine swp_seq ?_
 refine swp_region ?_
 refine s_ef (ef_box rfl rfl) ?_
 intro b2
 refine s_pu (pu_assign rfl) ?_
 refine swl_sub _ (.cons (t := 1) rfl (.cons (t := 2) rfl .nil)) ?_
 refine swl_nil ?_
 refine then_n ?_
 refine swp_seq ?_
 refine swp_region ?_
 first | refine s_pu (pu_fieldAddr0 rfl) ?_ | refine s_pu (pu_fieldAddr rfl) ?_
 refine s_rd (rd_load rfl rfl) ?_
 refine s_pu (pu_move rfl) ?_
 refine s_ef (ef_fn (cmp_spec _ _) rfl rfl (by repeat (first | exact Split.nil | (apply Split.cons; (repeat (first | with_reducible exact Take.here | apply Take.there)))))) ?_
 rintro v L1 ⟨rfl, rfl⟩
 refine swl_app ?_
 refine s_pu (pu_assign rfl) ?_
 refine swl_sub _ (.cons (t := 4) rfl .nil) ?_
 refine swl_nil ?_
 refine then_n ?_
 refine swp_ret ?_
 exact done_ret [] (.tmp rfl .nil) ⟨rfl, rfl⟩ (by repeat (first | exact Split.nil | (apply Split.cons; (repeat (first | with_reducible exact Take.here | apply Take.there)))))
theorem pu_half {t u : TypeId} {x y : Operand} {ky : IntKind} {n : Nat} {env : Env} (hx : evalE env x = some (.int .u64 (n : Nat))) (hy : evalE env y = some (.int ky ((1 : Nat) : Int))) (hn : n < 18446744073709551616) : Pu Tryz.prog env (.binOp .shr t x y u) (.int .u64 ((n / 2 : Nat) : Int)) := by
  have hw := wv_ofNat n hn
  have := pu_shr_w (P := Tryz.prog) (t := t) (u := u) (a := BitVec.ofNat 64 n) (n := 1) (by rw [hw]; exact hx) hy (by decide)
  rw [BitVec.toNat_ushiftRight, BitVec.toNat_ofNat, Nat.mod_eq_of_lt (by simpa using hn), Nat.shiftRight_eq_div_pow] at this
  exact this
theorem tree_at {μ : PH} {v : Value} {l : List En} (h : Row μ v 2 l.length (ens l)) {i : Nat} {e : En} (hi : l[i]? = some e) : ∃ b off cap, v = .slice (some ⟨b, off, none⟩) l.length cap ∧ RowAt μ b (off + i * 2) (enc1 e) ∧ CellAt μ b (off + i * 2) (.string e.1) ∧ CellAt μ b (off + i * 2 + 1) (.int .u32 e.2) := by
  have hl := (List.getElem?_eq_some_iff.1 hi).1
  obtain ⟨b, off, cap, hv, _, _, hr⟩ := h.pos (by omega)
  have hr' := hr.elem enc1_len hi
  exact ⟨b, off, cap, hv, hr', by have := hr' 0 _ rfl; rwa [Nat.add_zero] at this, hr' 1 _ rfl⟩
set_option maxHeartbeats 1000000 in
theorem bin_spec (μ : PH) (v : Value) (l : List En) (p : ByteArray) (h : Row μ v 2 l.length (ens l)) (hsz : l.length ≤ 1048576) : Spec Tryz.prog 54 [v, .string p, .func (.func 55) #[] #[]] [ro μ] (fun r L => r = .tuple #[.int .i64 (bsB l p : Nat), .bool (match l[bsB l p]? with | some e => strEq e.1 p | none => false)] ∧ L = [ro μ]) := by
 have hsm := h.small
 refine Spec.of 49 Tryz.func54 rfl rfl rfl ?_
 refine swp_seq ?_
 refine swp_region ?_
 refine s_pu (pu_assign rfl) ?_
 refine s_pu (pu_assign rfl) ?_
 refine swl_sub _ (.cons (t := 0) rfl (.cons (t := 1) rfl (.cons (t := 2) rfl .nil))) ?_
 refine swl_nil ?_
 refine then_n ?_
 refine swp_seq ?_
 refine swp_region ?_
 refine s_pu (pu_move rfl) ?_
 refine s_pu (pu_len_row h rfl) ?_
 refine s_pu (pu_assign rfl) ?_
 refine swl_sub _ (.cons (t := 0) rfl (.cons (t := 1) rfl (.cons (t := 2) rfl (.cons (t := 8) rfl .nil)))) ?_
 refine swl_nil ?_
 refine then_n ?_
 refine swp_seq ?_
 refine swp_region ?_
 refine s_pu (pu_move rfl) ?_
 refine s_pu (pu_assign rfl) ?_
 refine s_pu (pu_assign rfl) ?_
 refine swl_sub _ (.cons (t := 0) rfl (.cons (t := 1) rfl (.cons (t := 2) rfl (.cons (t := 8) rfl (.cons (t := 9) rfl (.cons (t := 10) rfl .nil)))))) ?_
 refine swl_nil ?_
 refine then_n ?_
 refine swp_seq ?_
 refine swp_block ?_
 refine swp_loop (ι := Nat × Nat) (fun k env L => env = [(0, v), (1, .string p), (2, .func (.func 55) #[] #[]), (8, .int .i64 (l.length : Nat)), (9, .int .i64 (k.1 : Nat)), (10, .int .i64 (k.2 : Nat))] ∧ L = [ro μ] ∧ k.1 ≤ k.2 ∧ k.2 ≤ l.length ∧ bsF l p k.1 k.2 = bsB l p) (fun k => k.2 - k.1) (0, l.length) ⟨rfl, rfl, Nat.zero_le _, Nat.le_refl _, rfl⟩ ?_
 rintro ⟨i, j⟩ env L ⟨rfl, rfl, hij, hj, hbs⟩
 simp only [] at hij hj hbs
 dsimp only
 refine swp_seq ?_
 refine swp_seq ?_
 refine swp_region ?_
 refine s_pu (pu_move rfl) ?_
 refine s_pu (pu_move rfl) ?_
 refine s_pu (pu_lss rfl rfl) ?_
 refine swl_sub _ (.cons (t := 0) rfl (.cons (t := 1) rfl (.cons (t := 2) rfl (.cons (t := 8) rfl (.cons (t := 9) rfl (.cons (t := 10) rfl (.cons (t := 17) rfl .nil))))))) ?_
 refine swl_nil ?_
 refine then_n ?_
 refine swp_cond (b := _) rfl (fun h17 => ?_) (fun h17 => ?_)
 ·skip
  have h17' : i < j := by have := of_decide_eq_true h17; omega
  have hm : (i + j) / 2 < l.length := by omega
  obtain ⟨e, he⟩ : ∃ e, l[(i + j) / 2]? = some e := ⟨_, List.getElem?_eq_getElem hm⟩
  obtain ⟨gb, off, cap, hv, hra, hc0, hc1⟩ := tree_at h he
  refine swp_skip ?_
  refine then_n ?_
  refine swp_block ?_
  refine swp_seq ?_
  refine swp_region ?_
  refine s_pu (pu_move rfl) ?_
  refine s_pu (pu_move rfl) ?_
  refine s_pu (pu_add_as ((i + j : Nat) : Int) rfl rfl (by omega) (by omega) (by omega)) ?_
  refine s_pu (pu_conv_u64 rfl (by omega) (by omega)) ?_
  refine s_pu (pu_half rfl rfl (by omega)) ?_
  refine s_pu (pu_conv_i64 rfl (by omega) (by omega)) ?_
  refine s_pu (pu_assign rfl) ?_
  refine swl_sub _ (.cons (t := 0) rfl (.cons (t := 1) rfl (.cons (t := 2) rfl (.cons (t := 8) rfl (.cons (t := 9) rfl (.cons (t := 10) rfl (.cons (t := 11) rfl .nil))))))) ?_
  refine swl_nil ?_
  refine then_n ?_
  refine swp_seq ?_
  refine swp_region ?_
  refine s_pu (pu_move rfl) ?_
  refine s_pu (pu_move rfl) ?_
  refine s_pu (pu_move rfl) ?_
  refine s_pu (pu_indexAddr (off + (i + j) / 2 * 2) (congrArg some hv) rfl (by omega) (by omega) (by rw [Int.toNat_natCast])) ?_
  refine s_rd (rd_roA rfl rfl hra) ?_
  refine s_pu (pu_move rfl) ?_
  refine s_ef (ef_fn (bypath_spec e p) rfl rfl (by repeat (first | exact Split.nil | (apply Split.cons; (repeat (first | with_reducible exact Take.here | apply Take.there)))))) ?_
  rintro v30 L1 ⟨rfl, rfl⟩
  refine swl_app ?_
  refine s_pu (pu_lss rfl rfl) ?_
  refine swl_sub _ (.cons (t := 0) rfl (.cons (t := 1) rfl (.cons (t := 2) rfl (.cons (t := 8) rfl (.cons (t := 9) rfl (.cons (t := 10) rfl (.cons (t := 11) rfl (.cons (t := 31) rfl .nil)))))))) ?_
  refine swl_nil ?_
  refine then_n ?_
  refine swp_cond (b := _) rfl (fun h31 => ?_) (fun h31 => ?_)
  ·skip
   refine swp_region ?_
   refine s_pu (pu_move rfl) ?_
   refine s_pu (pu_add_as (((i + j) / 2 + 1 : Nat) : Int) rfl rfl (by omega) (by omega) (by omega)) ?_
   refine s_pu (pu_assign rfl) ?_
   refine swl_sub _ (.cons (t := 0) rfl (.cons (t := 1) rfl (.cons (t := 2) rfl (.cons (t := 8) rfl (.cons (t := 9) rfl (.cons (t := 10) rfl .nil)))))) ?_
   refine swl_nil ?_
   refine block_n ?_
   have h31' : strLt e.1 p = true := (cmpS_neg _ _).1 (of_decide_eq_true h31)
   refine then_n ⟨((i + j) / 2 + 1, j), ⟨rfl, rfl, by show (i + j) / 2 + 1 ≤ j; omega, hj, by rw [← hbs]; exact (bsF_lo l p h17' he h31').symm⟩, by show j - ((i + j) / 2 + 1) < j - i; omega⟩
  ·skip
   refine swp_region ?_
   refine s_pu (pu_move rfl) ?_
   refine s_pu (pu_assign rfl) ?_
   refine swl_sub _ (.cons (t := 0) rfl (.cons (t := 1) rfl (.cons (t := 2) rfl (.cons (t := 8) rfl (.cons (t := 9) rfl (.cons (t := 10) rfl .nil)))))) ?_
   refine swl_nil ?_
   refine block_n ?_
   have h31' : strLt e.1 p = false := by
    cases hh : strLt e.1 p with
    | false => rfl
    | true => exact absurd ((cmpS_neg _ _).2 hh) (of_decide_eq_false h31)
   refine then_n ⟨(i, (i + j) / 2), ⟨rfl, rfl, by show i ≤ (i + j) / 2; omega, by show (i + j) / 2 ≤ l.length; omega, by rw [← hbs]; exact (bsF_hi l p h17' he h31').symm⟩, by show (i + j) / 2 - i < j - i; omega⟩
 ·skip
  have h17' := of_decide_eq_false h17
  obtain rfl : i = j := by omega
  rw [bsF_stop l p (by omega)] at hbs
  refine swp_exit ?_
  refine then_x ?_
  refine then_x ?_
  refine block_hit rfl ?_
  refine then_n ?_
  refine swp_seq ?_
  refine swp_region ?_
  refine s_pu (pu_move rfl) ?_
  refine s_pu (pu_move rfl) ?_
  refine s_pu (pu_move rfl) ?_
  refine s_pu (pu_lss rfl rfl) ?_
  refine s_pu (pu_move rfl) ?_
  refine s_split 39 rfl (fun h39 => ?_) (fun h39 => ?_)
  ·skip
   have h39' := of_decide_eq_true h39
   obtain ⟨e, he⟩ : ∃ e, l[i]? = some e := ⟨_, List.getElem?_eq_getElem (by omega)⟩
   obtain ⟨gb, off, cap, hv, hra, hc0, hc1⟩ := tree_at h he
   refine s_on rfl rfl ?_
   refine s_pu (pu_move rfl) ?_
   refine s_on rfl rfl ?_
   refine s_pu (pu_move rfl) ?_
   refine s_on rfl rfl ?_
   refine s_pu (pu_move rfl) ?_
   refine s_on rfl rfl ?_
   refine s_pu (pu_indexAddr (off + i * 2) (congrArg some hv) rfl (by omega) (by omega) (by rw [Int.toNat_natCast])) ?_
   refine s_on rfl rfl ?_
   refine s_rd (rd_roA rfl rfl hra) ?_
   refine s_on rfl rfl ?_
   refine s_pu (pu_move rfl) ?_
   refine s_on rfl rfl ?_
   refine s_ef (ef_fn (bypath_spec e p) rfl rfl (by repeat (first | exact Split.nil | (apply Split.cons; (repeat (first | with_reducible exact Take.here | apply Take.there)))))) ?_
   rintro v46 L1 ⟨rfl, rfl⟩
   refine swl_app ?_
   refine s_on rfl rfl ?_
   refine s_pu (pu_eql rfl rfl) ?_
   first | refine s_pu (pu_pick_t rfl rfl) ?_ | refine s_pu (pu_pick_f rfl rfl) ?_
   refine s_pu (pu_assign rfl) ?_
   refine s_pu (pu_assign rfl) ?_
   refine swl_sub _ (.cons (t := 6) rfl (.cons (t := 7) rfl .nil)) ?_
   refine swl_nil ?_
   refine then_n ?_
   refine swp_ret ?_
   refine done_ret [ro μ] (.tmp rfl (.tmp rfl .nil)) ⟨?_, rfl⟩ (by repeat (first | exact Split.nil | (apply Split.cons; (repeat (first | with_reducible exact Take.here | apply Take.there)))))
   rw [← hbs, he]
   simp only []
   rw [← dcmpS_zero]; rfl
  ·skip
   refine s_off rfl rfl rfl ?_
   refine s_off rfl rfl rfl ?_
   refine s_off rfl rfl rfl ?_
   refine s_off rfl rfl rfl ?_
   refine s_off rfl rfl rfl ?_
   refine s_off rfl rfl rfl ?_
   refine s_off rfl rfl rfl ?_
   refine s_off rfl rfl rfl ?_
   first | refine s_pu (pu_pick_t rfl rfl) ?_ | refine s_pu (pu_pick_f rfl rfl) ?_
   refine s_pu (pu_assign rfl) ?_
   refine s_pu (pu_assign rfl) ?_
   refine swl_sub _ (.cons (t := 6) rfl (.cons (t := 7) rfl .nil)) ?_
   refine swl_nil ?_
   refine then_n ?_
   refine swp_ret ?_
   have h39' := of_decide_eq_false h39
   refine done_ret [ro μ] (.tmp rfl (.tmp rfl .nil)) ⟨?_, rfl⟩ (by repeat (first | exact Split.nil | (apply Split.cons; (repeat (first | with_reducible exact Take.here | apply Take.there)))))
   rw [← hbs, List.getElem?_eq_none (by omega)]; rfl
set_option maxHeartbeats 1000000 in
theorem look_spec (μ : PH) (v : Value) (l : List En) (p : ByteArray) (h : Row μ v 2 l.length (ens l)) (hsz : l.length ≤ 1048576) : Spec Tryz.prog 35 [v, .string p] [ro μ] (fun r L => r = .int .u32 (lookB l p) ∧ L = [ro μ]) := by
 have hsm := h.small
 refine Spec.of 19 Tryz.func35 rfl rfl rfl ?_
 refine swp_seq ?_
 refine swp_region ?_
 refine s_pu (pu_assign rfl) ?_
 refine swl_sub _ (.cons (t := 0) rfl (.cons (t := 1) rfl .nil)) ?_
 refine swl_nil ?_
 refine then_n ?_
 refine swp_seq ?_
 refine swp_seq ?_
 refine swp_region ?_
 refine s_pu (pu_move rfl) ?_
 refine s_pu (pu_move rfl) ?_
 refine s_ef (ef_fn (bin_spec μ v l p h hsz) rfl rfl (by repeat (first | exact Split.nil | (apply Split.cons; (repeat (first | with_reducible exact Take.here | apply Take.there)))))) ?_
 rintro v10 L1 ⟨rfl, rfl⟩
 refine swl_app ?_
 refine s_pu (pu_move rfl) ?_
 first | refine s_pu (pu_extractL rfl) ?_ | refine s_pu (pu_extract rfl rfl) ?_
 first | refine s_pu (pu_extractL rfl) ?_ | refine s_pu (pu_extract rfl rfl) ?_
 refine s_pu (pu_assign rfl) ?_
 refine s_pu (pu_assign rfl) ?_
 refine swl_sub _ (.cons (t := 0) rfl (.cons (t := 5) rfl (.cons (t := 6) rfl .nil))) ?_
 refine swl_nil ?_
 refine then_n ?_
 refine swp_seq ?_
 refine swp_region ?_
 refine s_pu (pu_move rfl) ?_
 refine swl_sub _ (.cons (t := 0) rfl (.cons (t := 5) rfl (.cons (t := 13) rfl .nil))) ?_
 refine swl_nil ?_
 refine then_n ?_
 refine swp_cond (b := _) rfl (fun h13 => ?_) (fun h13 => ?_)
 ·skip
  obtain ⟨e, he, heq⟩ : ∃ e, l[bsB l p]? = some e ∧ strEq e.1 p = true := by
   cases hh : l[bsB l p]? with
   | none => rw [hh] at h13; cases h13
   | some e => rw [hh] at h13; exact ⟨e, rfl, h13⟩
  have hlt := (List.getElem?_eq_some_iff.1 he).1
  obtain ⟨gb, off, cap, hv, hra, hc0, hc1⟩ := tree_at h he
  refine swp_seq ?_
  refine swp_region ?_
  refine s_pu (pu_move rfl) ?_
  refine s_pu (pu_move rfl) ?_
  refine s_pu (pu_indexAddr (off + bsB l p * 2) (congrArg some hv) rfl (by omega) (by omega) (by rw [Int.toNat_natCast])) ?_
  first | refine s_pu (pu_fieldAddr0 rfl) ?_ | refine s_pu (pu_fieldAddr rfl) ?_
  refine s_rd (rd_ro rfl hc1) ?_
  refine s_pu (pu_assign rfl) ?_
  refine swl_sub _ (.cons (t := 4) rfl .nil) ?_
  refine swl_nil ?_
  refine then_n ?_
  refine swp_ret ?_
  refine then_r ?_
  refine done_ret [ro μ] (.tmp rfl .nil) ⟨?_, rfl⟩ (by repeat (first | exact Split.nil | (apply Split.cons; (repeat (first | with_reducible exact Take.here | apply Take.there)))))
  unfold lookB
  rw [he]
  show _ = Value.int .u32 (if strEq e.1 p = true then e.2 else 0)
  rw [heq]; rfl
 ·skip
  refine swp_skip ?_
  refine then_n ?_
  refine swp_seq ?_
  refine swp_region ?_
  refine s_pu (pu_assign rfl) ?_
  refine swl_sub _ (.cons (t := 4) rfl .nil) ?_
  refine swl_nil ?_
  refine then_n ?_
  refine swp_ret ?_
  refine done_ret [ro μ] (.tmp rfl .nil) ⟨?_, rfl⟩ (by repeat (first | exact Split.nil | (apply Split.cons; (repeat (first | with_reducible exact Take.here | apply Take.there)))))
  unfold lookB
  cases hh : l[bsB l p]? with
  | none => rfl
  | some e =>
   have h13' : strEq e.1 p = false := by rw [hh] at h13; exact h13
   show _ = Value.int .u32 (if strEq e.1 p = true then e.2 else 0)
   rw [h13']; rfl
end SX
namespace SX
open Go Go.Proofs
set_option maxHeartbeats 1000000 in
theorem same_spec (μ : PH) (va vb : Value) (la lb : List En) (ha : Row μ va 2 la.length (la.flatMap enc1)) (hb : Row μ vb 2 lb.length (lb.flatMap enc1)) : Spec Tryz.prog 8 [va, vb] [ro μ] (fun r L => r = .bool (decide (la = lb)) ∧ L = [ro μ]) := by
 have hsa := ha.small
 have hsb := hb.small
 refine Spec.of 26 Tryz.func8 rfl rfl rfl ?_
 refine swp_seq ?_
 refine swp_region ?_
 refine s_pu (pu_assign rfl) ?_
 refine swl_sub _ (.cons (t := 0) rfl (.cons (t := 1) rfl .nil)) ?_
 refine swl_nil ?_
 refine then_n ?_
 refine swp_seq ?_
 refine swp_seq ?_
 refine swp_region ?_
 refine s_pu (pu_move rfl) ?_
 refine s_pu (pu_len_row ha rfl) ?_
 refine s_pu (pu_move rfl) ?_
 refine s_pu (pu_len_row hb rfl) ?_
 refine s_pu (pu_neq rfl rfl) ?_
 refine swl_sub _ (.cons (t := 0) rfl (.cons (t := 1) rfl (.cons (t := 10) rfl .nil))) ?_
 refine swl_nil ?_
 refine then_n ?_
 refine swp_cond (b := _) rfl (fun h10 => ?_) (fun h10 => ?_)
 ·skip
  refine swp_seq ?_
  refine swp_region ?_
  refine s_pu (pu_assign rfl) ?_
  refine swl_sub _ (.cons (t := 4) rfl .nil) ?_
  refine swl_nil ?_
  refine then_n ?_
  refine swp_ret ?_
  refine then_r ?_
  refine done_ret [ro μ] (.tmp rfl .nil) ⟨?_, rfl⟩ (by repeat (first | exact Split.nil | (apply Split.cons; (repeat (first | with_reducible exact Take.here | apply Take.there)))))
  have : la ≠ lb := by rintro rfl; simp at h10
  rw [decide_eq_false this]; rfl
 ·skip
  have hlen : la.length = lb.length := by simp at h10; omega
  refine swp_skip ?_
  refine then_n ?_
  refine swp_seq ?_
  refine swp_seq ?_
  refine swp_region ?_
  refine s_pu (pu_assign rfl) ?_
  refine swl_sub _ (.cons (t := 0) rfl (.cons (t := 1) rfl (.cons (t := 5) rfl .nil))) ?_
  refine swl_nil ?_
  refine then_n ?_
  refine swp_block ?_
  refine swp_loop (ι := Nat) (fun i env L => env = [(0, va), (1, vb), (5, .int .i64 (i : Nat))] ∧ L = [ro μ] ∧ i ≤ la.length ∧ la.take i = lb.take i) (fun i => la.length - i) 0 ⟨rfl, rfl, Nat.zero_le _, rfl⟩ ?_
  rintro i env L ⟨rfl, rfl, hi, htk⟩
  refine swp_seq ?_
  refine swp_seq ?_
  refine swp_region ?_
  refine s_pu (pu_move rfl) ?_
  refine s_pu (pu_move rfl) ?_
  refine s_pu (pu_len_row ha rfl) ?_
  refine s_pu (pu_lss rfl rfl) ?_
  refine swl_sub _ (.cons (t := 0) rfl (.cons (t := 1) rfl (.cons (t := 5) rfl (.cons (t := 14) rfl .nil)))) ?_
  refine swl_nil ?_
  refine then_n ?_
  refine swp_cond (b := _) rfl (fun h14 => ?_) (fun h14 => ?_)
  ·skip
   have h14' : i < la.length := by have := of_decide_eq_true h14; omega
   obtain ⟨e1, he1⟩ : ∃ e, la[i]? = some e := ⟨_, List.getElem?_eq_getElem h14'⟩
   obtain ⟨e2, he2⟩ : ∃ e, lb[i]? = some e := ⟨_, List.getElem?_eq_getElem (by omega)⟩
   obtain ⟨b1, o1, c1, hv1, _, _, hr1⟩ := ha.pos (by omega)
   obtain ⟨b2, o2, c2, hv2, _, _, hr2⟩ := hb.pos (by omega)
   have hq1 := hr1.elem (f := enc1) (n := 2) (fun _ => rfl) he1
   have hq2 := hr2.elem (f := enc1) (n := 2) (fun _ => rfl) he2
   refine swp_skip ?_
   refine then_n ?_
   refine swp_seq ?_
   refine swp_block ?_
   refine swp_seq ?_
   refine swp_draw [3, 7] _ [] (by simp only [List.append_nil]; exact Ent.refl _) (by kernel_rfl) ?_
   refine d_pu 0 rfl (pu_move rfl) (by kernel_rfl) (by kernel_rfl) (by kernel_rfl) ?_
   refine d_pu 1 rfl (pu_move rfl) (by kernel_rfl) (by kernel_rfl) (by kernel_rfl) ?_
   refine d_pu 2 rfl (pu_indexAddr (o1 + i * 2) (congrArg some hv1) rfl (by omega) (by omega) (by rw [Int.toNat_natCast])) (by kernel_rfl) (by kernel_rfl) (by kernel_rfl) ?_
   refine d_rd 3 rfl (rd_roA rfl rfl hq1) rfl (by kernel_rfl) (by kernel_rfl) (by kernel_rfl) ?_
   refine d_pu 4 rfl (pu_move rfl) (by kernel_rfl) (by kernel_rfl) (by kernel_rfl) ?_
   refine d_pu 5 rfl (pu_move rfl) (by kernel_rfl) (by kernel_rfl) (by kernel_rfl) ?_
   refine d_pu 6 rfl (pu_indexAddr (o2 + i * 2) (congrArg some hv2) rfl (by omega) (by omega) (by rw [Int.toNat_natCast])) (by kernel_rfl) (by kernel_rfl) (by kernel_rfl) ?_
   refine d_rd 7 rfl (rd_roA rfl rfl hq2) rfl (by kernel_rfl) (by kernel_rfl) (by kernel_rfl) ?_
   refine d_pu 8 rfl (pu_stN_ne (vs := enc1 e1) (us := enc1 e2) rfl rfl (.str (.int .nil))) (by kernel_rfl) (by kernel_rfl) (by kernel_rfl) ?_
   refine d_sub _ (.cons (t := 0) rfl (.cons (t := 1) rfl (.cons (t := 5) rfl (.cons (t := 25) rfl .nil)))) ?_
   first | refine d_nilt (by kernel_rfl) ?_ | refine d_nilf (by kernel_rfl) ?_
   refine then_n ?_
   refine swp_cond (b := _) rfl (fun h25 => ?_) (fun h25 => ?_)
   ·skip
    refine swp_seq ?_
    refine swp_region ?_
    refine s_pu (pu_assign rfl) ?_
    refine swl_sub _ (.cons (t := 4) rfl .nil) ?_
    refine swl_nil ?_
    refine then_n ?_
    refine swp_ret ?_
    refine block_r ?_
    refine then_r ?_
    refine then_r ?_
    refine block_r ?_
    refine then_r ?_
    refine done_ret [ro μ] (.tmp rfl .nil) ⟨?_, rfl⟩ (by repeat (first | exact Split.nil | (apply Split.cons; (repeat (first | with_reducible exact Take.here | apply Take.there)))))
    have : la ≠ lb := by
     rintro rfl
     rw [he1] at he2; cases he2
     simp [strEq_refl] at h25
    rw [decide_eq_false this]; rfl
   ·skip
    refine swp_skip ?_
    refine block_n ?_
    refine then_n ?_
    refine swp_region ?_
    refine s_pu (pu_move rfl) ?_
    refine s_pu (pu_add_as ((i + 1 : Nat) : Int) rfl rfl (by omega) (by omega) (by omega)) ?_
    refine s_pu (pu_assign rfl) ?_
    refine swl_sub _ (.cons (t := 0) rfl (.cons (t := 1) rfl (.cons (t := 5) rfl .nil))) ?_
    refine swl_nil ?_
    have he : e1 = e2 := by
     simp only [Bool.not_eq_false', Bool.and_eq_true, decide_eq_true_eq, strEq_iff, and_true] at h25
     obtain ⟨q1, q2⟩ := h25
     exact Prod.ext q1 q2
    exact then_n ⟨i + 1, ⟨rfl, rfl, h14', by rw [List.take_add_one, List.take_add_one, htk, he1, he2, he]⟩, by omega⟩
  ·skip
   have h14' := of_decide_eq_false h14
   obtain rfl : i = la.length := by omega
   refine swp_exit ?_
   refine then_x ?_
   refine then_x ?_
   refine block_hit rfl ?_
   refine then_n ?_
   refine swp_seq ?_
   refine swp_region ?_
   refine s_pu (pu_assign rfl) ?_
   refine swl_sub _ (.cons (t := 4) rfl .nil) ?_
   refine swl_nil ?_
   refine then_n ?_
   refine swp_ret ?_
   refine done_ret [ro μ] (.tmp rfl .nil) ⟨?_, rfl⟩ (by repeat (first | exact Split.nil | (apply Split.cons; (repeat (first | with_reducible exact Take.here | apply Take.there)))))
   rw [List.take_length, hlen, List.take_length] at htk
   rw [decide_eq_true htk]; rfl
set_option maxHeartbeats 1000000 in
theorem samec_spec (μ : PH) (va vb : Value) (la lb : List Cf) (ha : Row μ va 4 la.length (la.flatMap encC)) (hb : Row μ vb 4 lb.length (lb.flatMap encC)) : Spec Tryz.prog 11 [va, vb] [ro μ] (fun r L => r = .bool (decide (la = lb)) ∧ L = [ro μ]) := by
 have hsa := ha.small
 have hsb := hb.small
 refine Spec.of 26 Tryz.func11 rfl rfl rfl ?_
 refine swp_seq ?_
 refine swp_region ?_
 refine s_pu (pu_assign rfl) ?_
 refine swl_sub _ (.cons (t := 0) rfl (.cons (t := 1) rfl .nil)) ?_
 refine swl_nil ?_
 refine then_n ?_
 refine swp_seq ?_
 refine swp_seq ?_
 refine swp_region ?_
 refine s_pu (pu_move rfl) ?_
 refine s_pu (pu_len_row ha rfl) ?_
 refine s_pu (pu_move rfl) ?_
 refine s_pu (pu_len_row hb rfl) ?_
 refine s_pu (pu_neq rfl rfl) ?_
 refine swl_sub _ (.cons (t := 0) rfl (.cons (t := 1) rfl (.cons (t := 10) rfl .nil))) ?_
 refine swl_nil ?_
 refine then_n ?_
 refine swp_cond (b := _) rfl (fun h10 => ?_) (fun h10 => ?_)
 ·skip
  refine swp_seq ?_
  refine swp_region ?_
  refine s_pu (pu_assign rfl) ?_
  refine swl_sub _ (.cons (t := 4) rfl .nil) ?_
  refine swl_nil ?_
  refine then_n ?_
  refine swp_ret ?_
  refine then_r ?_
  refine done_ret [ro μ] (.tmp rfl .nil) ⟨?_, rfl⟩ (by repeat (first | exact Split.nil | (apply Split.cons; (repeat (first | with_reducible exact Take.here | apply Take.there)))))
  have : la ≠ lb := by rintro rfl; simp at h10
  rw [decide_eq_false this]; rfl
 ·skip
  have hlen : la.length = lb.length := by simp at h10; omega
  refine swp_skip ?_
  refine then_n ?_
  refine swp_seq ?_
  refine swp_seq ?_
  refine swp_region ?_
  refine s_pu (pu_assign rfl) ?_
  refine swl_sub _ (.cons (t := 0) rfl (.cons (t := 1) rfl (.cons (t := 5) rfl .nil))) ?_
  refine swl_nil ?_
  refine then_n ?_
  refine swp_block ?_
  refine swp_loop (ι := Nat) (fun i env L => env = [(0, va), (1, vb), (5, .int .i64 (i : Nat))] ∧ L = [ro μ] ∧ i ≤ la.length ∧ la.take i = lb.take i) (fun i => la.length - i) 0 ⟨rfl, rfl, Nat.zero_le _, rfl⟩ ?_
  rintro i env L ⟨rfl, rfl, hi, htk⟩
  refine swp_seq ?_
  refine swp_seq ?_
  refine swp_region ?_
  refine s_pu (pu_move rfl) ?_
  refine s_pu (pu_move rfl) ?_
  refine s_pu (pu_len_row ha rfl) ?_
  refine s_pu (pu_lss rfl rfl) ?_
  refine swl_sub _ (.cons (t := 0) rfl (.cons (t := 1) rfl (.cons (t := 5) rfl (.cons (t := 14) rfl .nil)))) ?_
  refine swl_nil ?_
  refine then_n ?_
  refine swp_cond (b := _) rfl (fun h14 => ?_) (fun h14 => ?_)
  ·skip
   have h14' : i < la.length := by have := of_decide_eq_true h14; omega
   obtain ⟨e1, he1⟩ : ∃ e, la[i]? = some e := ⟨_, List.getElem?_eq_getElem h14'⟩
   obtain ⟨e2, he2⟩ : ∃ e, lb[i]? = some e := ⟨_, List.getElem?_eq_getElem (by omega)⟩
   obtain ⟨b1, o1, c1, hv1, _, _, hr1⟩ := ha.pos (by omega)
   obtain ⟨b2, o2, c2, hv2, _, _, hr2⟩ := hb.pos (by omega)
   have hq1 := hr1.elem (f := encC) (n := 4) (fun _ => rfl) he1
   have hq2 := hr2.elem (f := encC) (n := 4) (fun _ => rfl) he2
   refine swp_skip ?_
   refine then_n ?_
   refine swp_seq ?_
   refine swp_block ?_
   refine swp_seq ?_
   refine swp_draw [3, 7] _ [] (by simp only [List.append_nil]; exact Ent.refl _) (by kernel_rfl) ?_
   refine d_pu 0 rfl (pu_move rfl) (by kernel_rfl) (by kernel_rfl) (by kernel_rfl) ?_
   refine d_pu 1 rfl (pu_move rfl) (by kernel_rfl) (by kernel_rfl) (by kernel_rfl) ?_
   refine d_pu 2 rfl (pu_indexAddr (o1 + i * 4) (congrArg some hv1) rfl (by omega) (by omega) (by rw [Int.toNat_natCast])) (by kernel_rfl) (by kernel_rfl) (by kernel_rfl) ?_
   refine d_rd 3 rfl (rd_roA rfl rfl hq1) rfl (by kernel_rfl) (by kernel_rfl) (by kernel_rfl) ?_
   refine d_pu 4 rfl (pu_move rfl) (by kernel_rfl) (by kernel_rfl) (by kernel_rfl) ?_
   refine d_pu 5 rfl (pu_move rfl) (by kernel_rfl) (by kernel_rfl) (by kernel_rfl) ?_
   refine d_pu 6 rfl (pu_indexAddr (o2 + i * 4) (congrArg some hv2) rfl (by omega) (by omega) (by rw [Int.toNat_natCast])) (by kernel_rfl) (by kernel_rfl) (by kernel_rfl) ?_
   refine d_rd 7 rfl (rd_roA rfl rfl hq2) rfl (by kernel_rfl) (by kernel_rfl) (by kernel_rfl) ?_
   refine d_pu 8 rfl (pu_stN_ne (vs := encC e1) (us := encC e2) rfl rfl (.str (.int (.int (.int .nil))))) (by kernel_rfl) (by kernel_rfl) (by kernel_rfl) ?_
   refine d_sub _ (.cons (t := 0) rfl (.cons (t := 1) rfl (.cons (t := 5) rfl (.cons (t := 25) rfl .nil)))) ?_
   first | refine d_nilt (by kernel_rfl) ?_ | refine d_nilf (by kernel_rfl) ?_
   refine then_n ?_
   refine swp_cond (b := _) rfl (fun h25 => ?_) (fun h25 => ?_)
   ·skip
    refine swp_seq ?_
    refine swp_region ?_
    refine s_pu (pu_assign rfl) ?_
    refine swl_sub _ (.cons (t := 4) rfl .nil) ?_
    refine swl_nil ?_
    refine then_n ?_
    refine swp_ret ?_
    refine block_r ?_
    refine then_r ?_
    refine then_r ?_
    refine block_r ?_
    refine then_r ?_
    refine done_ret [ro μ] (.tmp rfl .nil) ⟨?_, rfl⟩ (by repeat (first | exact Split.nil | (apply Split.cons; (repeat (first | with_reducible exact Take.here | apply Take.there)))))
    have : la ≠ lb := by
     rintro rfl
     rw [he1] at he2; cases he2
     simp [strEq_refl] at h25
    rw [decide_eq_false this]; rfl
   ·skip
    refine swp_skip ?_
    refine block_n ?_
    refine then_n ?_
    refine swp_region ?_
    refine s_pu (pu_move rfl) ?_
    refine s_pu (pu_add_as ((i + 1 : Nat) : Int) rfl rfl (by omega) (by omega) (by omega)) ?_
    refine s_pu (pu_assign rfl) ?_
    refine swl_sub _ (.cons (t := 0) rfl (.cons (t := 1) rfl (.cons (t := 5) rfl .nil))) ?_
    refine swl_nil ?_
    have he : e1 = e2 := by
     simp only [Bool.not_eq_false', Bool.and_eq_true, decide_eq_true_eq, strEq_iff, and_true] at h25
     obtain ⟨q1, q2, q3, q4⟩ := h25
     exact Prod.ext q1 (Prod.ext q2 (Prod.ext q3 q4))
    exact then_n ⟨i + 1, ⟨rfl, rfl, h14', by rw [List.take_add_one, List.take_add_one, htk, he1, he2, he]⟩, by omega⟩
  ·skip
   have h14' := of_decide_eq_false h14
   obtain rfl : i = la.length := by omega
   refine swp_exit ?_
   refine then_x ?_
   refine then_x ?_
   refine block_hit rfl ?_
   refine then_n ?_
   refine swp_seq ?_
   refine swp_region ?_
   refine s_pu (pu_assign rfl) ?_
   refine swl_sub _ (.cons (t := 4) rfl .nil) ?_
   refine swl_nil ?_
   refine then_n ?_
   refine swp_ret ?_
   refine done_ret [ro μ] (.tmp rfl .nil) ⟨?_, rfl⟩ (by repeat (first | exact Split.nil | (apply Split.cons; (repeat (first | with_reducible exact Take.here | apply Take.there)))))
   rw [List.take_length, hlen, List.take_length] at htk
   rw [decide_eq_true htk]; rfl
end SX
