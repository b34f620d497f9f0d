/- A part of the proof: walks of the program's functions, and the rules by which they go. -/
import Derived.Test.YtkldhmbmahgnjaaDoorB9028228d
import Derived.Carry
import Derived.OpenShut
import Derived.ProofKit
import Derived.Deep.SlicePairs
import Derived.Deep.Grids
import Derived.Laws.CopyRow
import Derived.Laws.IdiomStrings
import Derived.Lib.Bytealg
import Derived.Lib.Strings
import Derived.Shelf.Sort.Plain
import Derived.Shelf.Slices.CompactS
import Derived.Sort.EncStr
import Derived.Lib.RowBridge
import Derived.ArgAppend
import Derived.Maps.RangeRun
import Derived.Lib.AppendStr
import Derived.Laws.Externs
import Derived.Lib.BufferRead
namespace SX
open Go Go.RowKit Go.WideShapes Go.ChangeShapes

section
variable {H0 : Type} {enc : TypeId × Value → H0} {P : Program}
theorem stays_all (hl : laidOutB P = true) {W W' : World} (hb : Below W.heap.size W W') {sp : Nat → Bool} : ∀ {ts : List TypeId} {vs : List Value} {ds : List (DataW H0)} {ps : List MemPlace},
    (ts.all fun t => P.readableRec t && decide (t < P.types.size)) = true → DataW.TrodAll enc P W 0 (fun _ => true) true ts vs ds ps → (∀ x ∈ ps, x.block < W.heap.size) → (∀ x ∈ ps, sp x.block = true) → DataW.TrodAll enc P W' 0 sp true ts vs ds ps
  | [], [], [], _, _, h, _, _ => h
  | t :: ts, _ :: _, _ :: _, _, hT, ⟨p, q, h1, h2, e⟩, hlt, hs => by
    simp only [List.all_cons, Bool.and_eq_true, decide_eq_true_eq] at hT
    obtain ⟨⟨r1, r2⟩, r3⟩ := hT
    refine ⟨p, q, WideElems.Trod_stays hl r1 r2 h1 (fun x hx => hb.same (hlt x (by rw [e]; exact List.mem_append_left _ hx))) (fun x hx => hs x (by rw [e]; exact List.mem_append_left _ hx)), ?_, e⟩
    exact stays_all hl hb (by simpa using r3) h2 (fun x hx => hlt x (by rw [e]; exact List.mem_append_right _ hx)) (fun x hx => hs x (by rw [e]; exact List.mem_append_right _ hx))

/-- true, and the arguments as they were -/
theorem law_post {f : Func} {s : ChangeSpec} {apart fresh handsOn again : Bool} {tb : TypeId} {W W' : World} {args : Array Value} {ds : List (DataW H0)} {before : List MemPlace}
    (hl : laidOutB P = true) (hpar : (f.params.toList.all fun t => P.readableRec t && decide (t < P.types.size)) = true) (hv : s.vars = []) (hrt : f.resultTypes = #[tb]) (htb : P.underlying tb = some .bool)
    (hW : DataW.Whole enc P f.params.toList s.vars apart W args.toList ds [] before) (hb : Below W.heap.size W W')
    (hfn : s.fn H0 (ds ++ []) = { results := [.lit (.bool true)], args := ds }) : s.post enc P f apart fresh handsOn again W args (.bool true) W' := by
  have hW' := hW
  obtain ⟨p, q, hA, hV, hpq, hfz, hnd⟩ := hW
  rw [hv] at hV
  obtain ⟨_, rfl⟩ := trodVars_none hV
  have lt : ∀ x ∈ p, x.block < W.heap.size := fun x hx => hW'.lt x (by rw [hpq]; exact List.mem_append_left _ hx)
  refine post_old (pa := p) (pv := []) hb hpq hW' (fun b sp hd => ?_) (fun sp hsp => ?_) (fun sp hsp => ?_) (ok_one hrt rfl (okWide_bool_mk htb true))
  · rw [hfn, hrt]; exact trodAll_cons_mk (shut_bool htb _) trodAll_mk0
  · rw [hfn]; exact stays_all hl hb hpar hA lt (fun x hx => hsp x (by rw [hpq]; exact List.mem_append_left _ hx))
  · rw [hfn, hv]; rfl
end

/-! ### How arguments read -/
def icsk (k : IntKind) (n : Int) : List Value := [.int k n]
theorem icsk_len (k : IntKind) (n : Int) : (icsk k n).length = 1 := rfl
theorem spot_of_cell {w : World} {a : Addr} {v : Value} (h : w.cell? a = some v) : a = ⟨a.block, a.off, none⟩ ∧ CellAt (fun b => w.heap[b]?) a.block a.off v := by
  obtain ⟨b, o, s⟩ := a
  unfold World.cell? at h
  simp only at h
  split at h
  · rename_i cs t fr hh
    cases s with
    | none => exact ⟨rfl, cs, t, fr, hh, by simpa using h⟩
    | some s => simp at h
  · cases h
section
variable {H0 : Type} {enc : TypeId × Value → H0} {P : Program} {W : World} {base : Nat}
end
end SX
namespace SX
open Go Go.RowKit Go.WideShapes Go.ChangeShapes Go.Deep

section
variable {H0 : Type} {enc : TypeId × Value → H0} {P : Program} {W : World}
/-- the cells of a slice, element by element -/
theorem trod_slice {α : Type} [Inhabited α] {f : α → List Value} {n : Nat} (hn : 0 < n) (hf : ∀ a, (f a).length = n) (R : α → DataW H0 → Prop) {t e : TypeId} (ht : P.underlying t = some (.slice e)) (hc : P.cellsOf e = n)
    (hel : ∀ fuel cs D Pl, DataW.trod enc P W 0 (fun _ => true) true fuel e cs = some (D, Pl) → ∃ a, cs = f a ∧ R a D)
    {fuel : Nat} {cs : List Value} {d : DataW H0} {ps : List MemPlace} (h : DataW.trod enc P W 0 (fun _ => true) true fuel t cs = some (d, ps)) :
    ∃ (v : Value) (xs : List α), cs = [v] ∧ Row (fun b => W.heap[b]?) v n xs.length (xs.flatMap f) ∧ ((d = .nil ∧ xs = []) ∨ ∃ (Ds sp : List (DataW H0)), d = .slice Ds sp ∧ Ds.length = xs.length ∧ ∀ (i : Nat) (a : α) (D : DataW H0), xs[i]? = some a → Ds[i]? = some D → R a D) := by
  rcases open_slice ht h with ⟨rfl, hx⟩ | ⟨a, len, cap, m, n', D, Pl, rfl, _, hl, hm, hmm, hx, hall⟩
  · cases hx
    exact ⟨_, [], rfl, Row.nil _ _, .inl ⟨rfl, rfl⟩⟩
  simp only [if_true] at hmm
  subst hmm
  cases hx
  obtain ⟨A, hA⟩ := choose_lt (α := α) (n := m) (p := fun i x => W.cells? 0 (a.add (i * P.cellsOf e)) (P.cellsOf e) = some (f x) ∧ R x (D i)) (fun i hi => by
    obtain ⟨cs', h1, h2⟩ := hall i hi
    obtain ⟨a', rfl, hR⟩ := hel _ _ _ _ h2
    exact ⟨a', h1, hR⟩)
  have hlen : ((List.range len).map A).length = len := by simp
  have hcell : ∀ i j v, i < m → (f (A i))[j]? = some v → W.cell? (a.add (i * n + j)) = some v := by
    intro i j v hi hv
    obtain ⟨h2, _⟩ := hA i hi
    obtain ⟨_, _, h3⟩ := World.cells?_some h2
    have hj : j < (f (A i)).length := (List.getElem?_eq_some_iff.1 hv).1
    rw [hf] at hj
    have := h3 j (by rw [hc]; exact hj)
    rw [hc] at this
    have e : (a.add (i * n)).add j = a.add (i * n + j) := by
      obtain ⟨b, o, s⟩ := a
      unfold Addr.add
      split <;> split <;> simp_all [Nat.add_assoc]
    rw [e] at this
    rw [this]; exact hv
  refine ⟨_, (List.range len).map A, rfl, ?_, .inr ⟨_, _, rfl, by simp, fun i a' D' hi hD => ?_⟩⟩
  · rw [hlen]
    refine ⟨by rw [flat_length hf, hlen], some a, m, rfl, hl, hm, fun h => (by cases h), fun hpos => ?_⟩
    obtain ⟨v0, hv0⟩ : ∃ v, (f (A 0))[0]? = some v := ⟨_, List.getElem?_eq_getElem (by rw [hf]; exact hn)⟩
    have h0 := hcell 0 0 v0 (by omega) hv0
    rw [Nat.zero_mul, Nat.zero_add, show a.add 0 = a by simp [Addr.add]] at h0
    have ha := (spot_of_cell h0).1
    refine ⟨a.block, a.off, by rw [← ha], fun j u hj => ?_⟩
    have hj2 : j < len * n := by
      have := (List.getElem?_eq_some_iff.1 hj).1
      rwa [flat_length hf, hlen] at this
    have hq : j / n < len := Nat.div_lt_of_lt_mul (by rw [Nat.mul_comm]; exact hj2)
    have hr : j % n < n := Nat.mod_lt _ hn
    have hg : ((List.range len).map A)[j / n]? = some (A (j / n)) := by rw [List.getElem?_map, List.getElem?_range hq]; rfl
    obtain ⟨v, hv⟩ : ∃ v, (f (A (j / n)))[j % n]? = some v := ⟨_, List.getElem?_eq_getElem (by rw [hf]; exact hr)⟩
    have hu := flat_get hf _ [] (j / n) _ hg (j % n) v hv
    rw [List.append_nil, Nat.div_add_mod'] at hu
    rw [hu] at hj
    cases hj
    have hc2 := (spot_of_cell (hcell (j / n) (j % n) _ (by omega) hv)).2
    rw [addr_block, addr_off, Nat.div_add_mod'] at hc2
    exact hc2
  · have hi' : i < len := by
      have := (List.getElem?_eq_some_iff.1 hi).1
      simpa using this
    simp [hi'] at hi hD
    subst hi hD
    exact (hA i (by omega)).2

theorem wf_u32 {x : Int} (h : (Lit.int .u32 x).wf = true) : 0 ≤ x ∧ x ≤ 4294967295 := by
  simp only [Lit.wf, Bool.and_eq_true, decide_eq_true_eq] at h
  exact h
def scsv (s : ByteArray) : List Value := [.string s]
theorem scsv_len (s : ByteArray) : (scsv s).length = 1 := rfl
/-- a slice of slices of integers -/
def gcs (a : Value × List Int) : List Value := [a.1]
theorem gcs_len (a : Value × List Int) : (gcs a).length = 1 := rfl
instance : Inhabited (Value × List Int) := ⟨(.bool false, [])⟩
end
end SX
namespace Hp

/-- asymmetric, and 'not ahead' goes on -/
structure Ord {β : Type} (ah : β → β → Bool) : Prop where
  asym : ∀ a b, ah a b = true → ah b a = false
  trans : ∀ a b c, ah b a = false → ah c b = false → ah c a = false

section
variable {β : Type} {ah : β → β → Bool}
theorem Ord.irrefl (h : Ord ah) (a : β) : ah a a = false := by
  cases e : ah a a with
  | false => rfl
  | true => exact (h.asym a a e).symm.trans e |>.symm ▸ rfl

def up (ah : β → β → Bool) : Nat → List β → Nat → List β
  | 0, es, _ => es
  | f + 1, es, i => if i = 0 then es else match es[i]?, es[(i - 1) / 2]? with
    | some a, some b => if ah a b then up ah f ((es.set i b).set ((i - 1) / 2) a) ((i - 1) / 2) else es
    | _, _ => es

def better (ah : β → β → Bool) (es : List β) (k i : Nat) : Nat := match es[k]?, es[i]? with
  | some a, some b => if ah a b then k else i
  | _, _ => i
def best (ah : β → β → Bool) (es : List β) (i : Nat) : Nat := better ah es (2 * i + 2) (better ah es (2 * i + 1) i)
def down (ah : β → β → Bool) : Nat → List β → Nat → List β
  | 0, es, _ => es
  | f + 1, es, i => if best ah es i = i then es else match es[i]?, es[best ah es i]? with
    | some a, some b => down ah f ((es.set i b).set (best ah es i) a) (best ah es i)
    | _, _ => es

def Heap (ah : β → β → Bool) (es : List β) : Prop := ∀ i a p, 0 < i → es[i]? = some a → es[(i - 1) / 2]? = some p → ah a p = false
/-- a heap but at i, which may stand too low -/
def HU (ah : β → β → Bool) (es : List β) (i : Nat) : Prop :=
  (∀ j a p, 0 < j → j ≠ i → es[j]? = some a → es[(j - 1) / 2]? = some p → ah a p = false) ∧
  (∀ j a p, 0 < j → 0 < i → (j - 1) / 2 = i → es[j]? = some a → es[(i - 1) / 2]? = some p → ah a p = false)
/-- a heap but at i, which may stand too high -/
def HD (ah : β → β → Bool) (es : List β) (i : Nat) : Prop :=
  (∀ j a p, 0 < j → (j - 1) / 2 ≠ i → es[j]? = some a → es[(j - 1) / 2]? = some p → ah a p = false) ∧
  (∀ j a p, 0 < j → 0 < i → (j - 1) / 2 = i → es[j]? = some a → es[(i - 1) / 2]? = some p → ah a p = false)

theorem get_swap (es : List β) {i p : Nat} {a b : β} (ha : es[i]? = some a) (hb : es[p]? = some b) (_ : i ≠ p) (j : Nat) :
    ((es.set i b).set p a)[j]? = if j = p then some a else if j = i then some b else es[j]? := by
  have hi : i < es.length := (List.getElem?_eq_some_iff.1 ha).1
  have hp : p < es.length := (List.getElem?_eq_some_iff.1 hb).1
  rw [List.getElem?_set]
  by_cases h1 : p = j
  · subst h1; simp [hp]
  · rw [if_neg h1, if_neg (Ne.symm h1), List.getElem?_set]
    by_cases h2 : i = j
    · subst h2; simp [hi]
    · rw [if_neg h2, if_neg (Ne.symm h2)]

theorem swap_perm (es : List β) {i p : Nat} {a b : β} (ha : es[i]? = some a) (hb : es[p]? = some b) (_ : i ≠ p) : ((es.set i b).set p a).Perm es := by
  have hi : i < es.length := (List.getElem?_eq_some_iff.1 ha).1
  have hp : p < es.length := (List.getElem?_eq_some_iff.1 hb).1
  have ea : es[i] = a := (List.getElem?_eq_some_iff.1 ha).2
  have eb : es[p] = b := (List.getElem?_eq_some_iff.1 hb).2
  subst ea; subst eb
  exact List.set_set_perm hi hp

theorem up_zero (f : Nat) (es : List β) : up ah f es 0 = es := by cases f <;> simp [up]
theorem up_enough : ∀ (f g : Nat) (es : List β) (i : Nat), i ≤ f → i ≤ g → up ah f es i = up ah g es i
  | 0, g, es, i, hf, _ => by
    obtain rfl : i = 0 := by omega
    rw [up_zero, up_zero]
  | f + 1, 0, es, i, _, hg => by
    obtain rfl : i = 0 := by omega
    rw [up_zero, up_zero]
  | f + 1, g + 1, es, i, hf, hg => by
    unfold up
    by_cases hi : i = 0
    · rw [if_pos hi, if_pos hi]
    · rw [if_neg hi, if_neg hi]
      cases es[i]? with
      | none => rfl
      | some a => cases es[(i - 1) / 2]? with
        | none => rfl
        | some b =>
          simp only []
          cases ah a b with
          | false => rfl
          | true => exact up_enough f g _ _ (by omega) (by omega)
theorem up_stop {f : Nat} {es : List β} {i : Nat} {a b : β} (ha : es[i]? = some a) (hb : es[(i - 1) / 2]? = some b) (h : ah a b = false) : up ah f es i = es := by
  cases f with
  | zero => rfl
  | succ f =>
    unfold up
    split
    · rfl
    · rw [ha, hb]; simp [h]
theorem up_step {es : List β} {i : Nat} {a b : β} (hi : 0 < i) (ha : es[i]? = some a) (hb : es[(i - 1) / 2]? = some b) (h : ah a b = true) :
    up ah i es i = up ah ((i - 1) / 2) ((es.set i b).set ((i - 1) / 2) a) ((i - 1) / 2) := by
  obtain ⟨k, rfl⟩ : ∃ k, i = k + 1 := ⟨i - 1, by omega⟩
  conv => lhs; unfold up
  rw [if_neg (by omega), ha, hb]
  simp only [h, if_true]
  exact up_enough _ _ _ _ (by omega) (Nat.le_refl _)
theorem up_perm (f : Nat) : ∀ (es : List β) (i : Nat), (up ah f es i).Perm es := by
  induction f with
  | zero => exact fun _ _ => .refl _
  | succ f ih =>
    intro es i
    unfold up
    split
    · exact .refl _
    · rename_i hi
      split
      · rename_i a b ha hb
        split
        · exact (ih _ _).trans (swap_perm es ha hb (by omega))
        · exact .refl _
      · exact .refl _

theorem up_heap (o : Ord ah) (f : Nat) : ∀ (es : List β) (i : Nat), i ≤ f → HU ah es i → Heap ah (up ah f es i) := by
  induction f with
  | zero =>
    intro es i hi h j a p hj ha hp
    obtain rfl : i = 0 := by omega
    exact h.1 j a p hj (by omega) ha hp
  | succ f ih =>
    intro es i hif h
    unfold up
    split
    · rename_i hi
      subst hi
      intro j a p hj ha hp
      exact h.1 j a p hj (by omega) ha hp
    · rename_i hi
      split
      · rename_i a b ha hb
        have hne : i ≠ (i - 1) / 2 := by omega
        split
        · rename_i hab
          have g := get_swap es ha hb hne
          refine ih _ _ (by omega) ⟨?_, ?_⟩
          · intro j x y hj hjp hx hy
            rw [g] at hx hy
            rw [if_neg hjp] at hx
            by_cases hji : j = i
            · subst hji
              rw [if_pos rfl] at hx hy
              cases hx; cases hy
              exact o.asym _ _ hab
            · rw [if_neg hji] at hx
              by_cases hpi : (j - 1) / 2 = i
              · rw [if_neg (by omega), if_pos hpi] at hy
                cases hy
                exact h.2 j x b hj (by omega) hpi hx hb
              · by_cases hpp : (j - 1) / 2 = (i - 1) / 2
                · rw [if_pos hpp] at hy
                  cases hy
                  exact o.trans a b x (o.asym _ _ hab) (h.1 j x b hj hji hx (by rw [hpp]; exact hb))
                · rw [if_neg hpp, if_neg hpi] at hy
                  exact h.1 j x y hj hji hx hy
          · intro j x y hj hp0 hjp hx hy
            rw [g] at hx hy
            rw [if_neg (by omega), if_neg (by omega)] at hy
            rw [if_neg (by omega)] at hx
            have hby : ah b y = false := h.1 ((i - 1) / 2) b y hp0 (by omega) hb hy
            by_cases hji : j = i
            · rw [if_pos hji] at hx
              cases hx; exact hby
            · rw [if_neg hji] at hx
              exact o.trans y b x hby (h.1 j x b hj hji hx (by rw [hjp]; exact hb))
        · rename_i hab
          intro j x y hj hx hy
          by_cases hji : j = i
          · subst hji
            rw [ha] at hx; rw [hb] at hy
            cases hx; cases hy
            simpa using hab
          · exact h.1 j x y hj hji hx hy
      · rename_i hno
        intro j x y hj hx hy
        by_cases hji : j = i
        · subst hji; exact (hno x y hx hy).elim
        · exact h.1 j x y hj hji hx hy

theorem better_cases (es : List β) (k i : Nat) : (better ah es k i = i ∧ ∀ a b, es[k]? = some a → es[i]? = some b → ah a b = false) ∨
    (better ah es k i = k ∧ ∃ a b, es[k]? = some a ∧ es[i]? = some b ∧ ah a b = true) := by
  unfold better
  cases ha : es[k]? with
  | none => exact .inl ⟨rfl, fun _ _ h => by cases h⟩
  | some a =>
    cases hb : es[i]? with
    | none => exact .inl ⟨rfl, fun _ _ _ h => by cases h⟩
    | some b =>
      cases h : ah a b with
      | true => exact .inr ⟨by simp [h], a, b, rfl, rfl, h⟩
      | false => exact .inl ⟨by simp [h], fun x y hx hy => by cases hx; cases hy; exact h⟩

/-- the best of i and its children: no child is ahead of it; it is i or a child that is ahead of i -/
theorem best_spec (o : Ord ah) (es : List β) (i : Nat) {c : β} (hi : es[i]? = some c) :
    ∃ m, es[best ah es i]? = some m ∧ (∀ j a, j = 2 * i + 1 ∨ j = 2 * i + 2 → es[j]? = some a → ah a m = false) ∧
      ((best ah es i = i ∧ m = c) ∨ ((best ah es i = 2 * i + 1 ∨ best ah es i = 2 * i + 2) ∧ ah m c = true)) := by
  unfold best
  rcases better_cases (ah := ah) es (2 * i + 1) i with ⟨e1, h1⟩ | ⟨e1, a, b, ha, hb, h1⟩
  · rw [e1]
    rcases better_cases (ah := ah) es (2 * i + 2) i with ⟨e2, h2⟩ | ⟨e2, a, b, ha, hb, h2⟩
    · rw [e2]
      exact ⟨c, hi, fun j x hj hx => by
        rcases hj with rfl | rfl
        · exact h1 x c hx hi
        · exact h2 x c hx hi, .inl ⟨rfl, rfl⟩⟩
    · rw [e2]
      have : b = c := Option.some.inj (hb.symm.trans hi)
      subst this
      exact ⟨a, ha, fun j x hj hx => by
        rcases hj with rfl | rfl
        · exact o.trans a b x (o.asym _ _ h2) (h1 x b hx hi)
        · have : x = a := Option.some.inj (hx.symm.trans ha)
          subst this; exact o.irrefl x, .inr ⟨.inr rfl, h2⟩⟩
  · rw [e1]
    have : b = c := Option.some.inj (hb.symm.trans hi)
    subst this
    rcases better_cases (ah := ah) es (2 * i + 2) (2 * i + 1) with ⟨e2, h2⟩ | ⟨e2, a', b', ha', hb', h2⟩
    · rw [e2]
      exact ⟨a, ha, fun j x hj hx => by
        rcases hj with rfl | rfl
        · have : x = a := Option.some.inj (hx.symm.trans ha)
          subst this; exact o.irrefl x
        · exact h2 x a hx ha, .inr ⟨.inl rfl, h1⟩⟩
    · rw [e2]
      have : b' = a := Option.some.inj (hb'.symm.trans ha)
      subst this
      refine ⟨a', ha', fun j x hj hx => ?_, .inr ⟨.inr rfl, ?_⟩⟩
      · rcases hj with rfl | rfl
        · have : x = b' := Option.some.inj (hx.symm.trans ha)
          subst this; exact o.asym _ _ h2
        · have : x = a' := Option.some.inj (hx.symm.trans ha')
          subst this; exact o.irrefl x
      · cases hc : ah a' b with
        | true => rfl
        | false => exact (o.trans b a' b' hc (o.asym _ _ h2)).symm.trans h1 |>.symm ▸ rfl

theorem down_enough : ∀ (f g : Nat) (es : List β) (i : Nat), es.length ≤ f + i → es.length ≤ g + i → down ah f es i = down ah g es i := by
  intro f
  induction f with
  | zero =>
    intro g es i hf hg
    cases g with
    | zero => rfl
    | succ g =>
      have hn : es[i]? = none := List.getElem?_eq_none_iff.2 (by omega)
      have hb : best ah es i = i := by
        have h1 : es[2 * i + 1]? = none := List.getElem?_eq_none_iff.2 (by omega)
        have h2 : es[2 * i + 2]? = none := List.getElem?_eq_none_iff.2 (by omega)
        simp [best, better, h1, h2]
      simp [down, hb]
  | succ f ih =>
    intro g es i hf hg
    cases g with
    | zero =>
      have hb : best ah es i = i := by
        have h1 : es[2 * i + 1]? = none := List.getElem?_eq_none_iff.2 (by omega)
        have h2 : es[2 * i + 2]? = none := List.getElem?_eq_none_iff.2 (by omega)
        simp [best, better, h1, h2]
      simp [down, hb]
    | succ g =>
      unfold down
      by_cases hb : best ah es i = i
      · rw [if_pos hb, if_pos hb]
      · rw [if_neg hb, if_neg hb]
        have hgt : i < best ah es i := by
          unfold best
          rcases better_cases (ah := ah) es (2 * i + 1) i with ⟨e1, _⟩ | ⟨e1, _⟩ <;> rw [e1]
          · rcases better_cases (ah := ah) es (2 * i + 2) i with ⟨e2, _⟩ | ⟨e2, _⟩
            · exact absurd (by unfold best; rw [e1]; exact e2) hb
            · rw [e2]; omega
          · rcases better_cases (ah := ah) es (2 * i + 2) (2 * i + 1) with ⟨e2, _⟩ | ⟨e2, _⟩ <;> rw [e2] <;> omega
        cases es[i]? with
        | none => rfl
        | some a => cases es[best ah es i]? with
          | none => rfl
          | some b => exact ih _ _ _ (by simp; omega) (by simp; omega)
theorem down_stop {f : Nat} {es : List β} {i : Nat} (h : best ah es i = i) : down ah f es i = es := by
  cases f with
  | zero => rfl
  | succ f => simp [down, h]
theorem best_gt {es : List β} {i : Nat} (h : best ah es i ≠ i) : i < best ah es i ∧ best ah es i < es.length := by
  have hb : ∀ k m, m ≤ k → better ah es k m = m ∨ (better ah es k m = k ∧ k < es.length) := fun k m _ => by
    rcases better_cases (ah := ah) es k m with ⟨e, _⟩ | ⟨e, a, b, ha, _⟩
    · exact .inl e
    · exact .inr ⟨e, (List.getElem?_eq_some_iff.1 ha).1⟩
  unfold best at *
  rcases hb (2 * i + 1) i (by omega) with h1 | ⟨h1, l1⟩
  · rw [h1] at h ⊢
    rcases hb (2 * i + 2) i (by omega) with h2 | ⟨h2, l2⟩
    · exact absurd h2 h
    · rw [h2]; omega
  · rw [h1] at h ⊢
    rcases hb (2 * i + 2) (2 * i + 1) (by omega) with h2 | ⟨h2, l2⟩ <;> rw [h2] <;> omega
theorem down_step {n : Nat} {es : List β} {i : Nat} {a b : β} (hn : es.length ≤ n) (hne : best ah es i ≠ i) (ha : es[i]? = some a) (hb : es[best ah es i]? = some b) :
    down ah n es i = down ah n ((es.set i b).set (best ah es i) a) (best ah es i) := by
  have hlt := best_gt hne
  cases n with
  | zero => omega
  | succ n =>
    conv => lhs; unfold down
    rw [if_neg hne, ha, hb]
    exact down_enough _ _ _ _ (by simp; omega) (by simp; omega)
theorem down_perm (f : Nat) : ∀ (es : List β) (i : Nat), (down ah f es i).Perm es := by
  induction f with
  | zero => exact fun _ _ => .refl _
  | succ f ih =>
    intro es i
    unfold down
    split
    · exact .refl _
    · rename_i hi
      split
      · rename_i a b ha hb
        exact (ih _ _).trans (swap_perm es ha hb (Ne.symm hi))
      · exact .refl _

theorem down_heap (o : Ord ah) (f : Nat) : ∀ (es : List β) (i : Nat), es.length ≤ f + i → HD ah es i → Heap ah (down ah f es i) := by
  induction f with
  | zero =>
    intro es i hl h
    show Heap ah es
    intro j a p hj ha hp
    by_cases hpi : (j - 1) / 2 = i
    · have := (List.getElem?_eq_some_iff.1 hp).1
      omega
    · exact h.1 j a p hj hpi ha hp
  | succ f ih =>
    intro es i hl h
    unfold down
    cases hc : es[i]? with
    | none =>
      have hge : es.length ≤ i := List.getElem?_eq_none_iff.1 hc
      have hheap : Heap ah es := fun j a p hj ha hp => by
        by_cases hpi : (j - 1) / 2 = i
        · have := (List.getElem?_eq_some_iff.1 hp).1
          omega
        · exact h.1 j a p hj hpi ha hp
      split
      · exact hheap
      · exact hheap
    | some c =>
      obtain ⟨m, hm, hall, hcase⟩ := best_spec o es i hc
      rcases hcase with ⟨hb, rfl⟩ | ⟨hb, hmc⟩
      · rw [if_pos hb]
        intro j a p hj ha hp
        by_cases hpi : (j - 1) / 2 = i
        · rw [hpi, hc] at hp
          cases hp
          exact hall j a (by omega) ha
        · exact h.1 j a p hj hpi ha hp
      · have hne : best ah es i ≠ i := by omega
        rw [if_neg hne]
        rw [hm]
        simp only []
        have hgt : i < best ah es i := by omega
        have hpar : (best ah es i - 1) / 2 = i := by omega
        generalize hk : best ah es i = k at *
        have g := get_swap es hc hm (Ne.symm hne)
        refine ih _ _ (by simp; omega) ⟨?_, ?_⟩
        · intro j x y hj hjk hx hy
          rw [g] at hx hy
          rw [if_neg hjk] at hy
          by_cases hjk2 : j = k
          · subst hjk2
            rw [if_pos rfl] at hx
            rw [hpar, if_pos rfl] at hy
            cases hx; cases hy
            exact o.asym _ _ hmc
          · rw [if_neg hjk2] at hx
            by_cases hji : j = i
            · subst hji
              rw [if_pos rfl] at hx
              rw [if_neg (by omega)] at hy
              cases hx
              exact h.2 k m y (by omega) hj hpar hm hy
            · rw [if_neg hji] at hx
              by_cases hpi : (j - 1) / 2 = i
              · rw [if_pos hpi] at hy
                cases hy
                exact hall j x (by omega) hx
              · rw [if_neg hpi] at hy
                exact h.1 j x y hj hpi hx hy
        · intro j x y hj hk0 hjk hx hy
          rw [g] at hx hy
          rw [hpar, if_neg (by omega), if_pos rfl] at hy
          rw [if_neg (by omega), if_neg (by omega)] at hx
          cases hy
          exact h.1 j x m hj (by omega) hx (by rw [hjk]; exact hm)

/-- nobody is ahead of the first -/
theorem Heap.first (o : Ord ah) {es : List β} (h : Heap ah es) {z : β} (hz : es[0]? = some z) : ∀ (i : Nat) (a : β), es[i]? = some a → ah a z = false := by
  intro i
  induction i using Nat.strongRecOn with
  | _ i ih =>
    intro a ha
    by_cases hi : i = 0
    · subst hi
      rw [hz] at ha; cases ha; exact o.irrefl z
    · have hlt : (i - 1) / 2 < es.length := by have := (List.getElem?_eq_some_iff.1 ha).1; omega
      have hp : es[(i - 1) / 2]? = some es[(i - 1) / 2] := List.getElem?_eq_getElem hlt
      exact o.trans z _ a (ih _ (by omega) _ hp) (h i a _ (by omega) ha hp)
theorem down_length (f : Nat) (es : List β) (i : Nat) : (down ah f es i).length = es.length := (down_perm f es i).length_eq
end
end Hp
namespace Hp
section
variable {β : Type} {ah : β → β → Bool}

def Rep (ah : β → β → Bool) (es S : List β) : Prop := es.Perm S ∧ Heap ah es ∧ S.Pairwise (fun a b => ah a b = true)

def ins (ah : β → β → Bool) (x : β) : List β → List β
  | [] => [x]
  | y :: S => if ah x y then x :: y :: S else y :: ins ah x S
theorem ins_perm (x : β) : ∀ S : List β, (ins ah x S).Perm (x :: S)
  | [] => .refl _
  | y :: S => by
    unfold ins
    split
    · exact .refl _
    · exact (List.Perm.cons y (ins_perm x S)).trans (.swap _ _ _)
theorem mem_ins {x y : β} {S : List β} : y ∈ ins ah x S ↔ y = x ∨ y ∈ S := by rw [(ins_perm x S).mem_iff, List.mem_cons]
theorem ins_sorted (o : Ord ah) (ht : ∀ a b c, ah a b = true → ah b c = true → ah a c = true) {x : β} : ∀ {S : List β}, S.Pairwise (fun a b => ah a b = true) → (∀ y ∈ S, ah x y = false → ah y x = true) → (ins ah x S).Pairwise (fun a b => ah a b = true)
  | [], _, _ => by simp [ins]
  | y :: S, h, hx => by
    obtain ⟨h1, h2⟩ := List.pairwise_cons.1 h
    unfold ins
    split
    · rename_i hxy
      refine List.pairwise_cons.2 ⟨fun z hz => ?_, h⟩
      rcases List.mem_cons.1 hz with rfl | hz
      · exact hxy
      · exact ht _ _ _ hxy (h1 z hz)
    · rename_i hxy
      refine List.pairwise_cons.2 ⟨fun z hz => ?_, ins_sorted o ht h2 (fun w hw => hx w (List.mem_cons_of_mem _ hw))⟩
      rcases mem_ins.1 hz with rfl | hz
      · exact hx y (List.mem_cons_self) (by simpa using hxy)
      · exact h1 z hz

theorem Rep.nil : Rep ah [] [] := ⟨.refl _, fun i a p _ h => by simp at h, .nil⟩
theorem Rep.length {es S : List β} (h : Rep ah es S) : es.length = S.length := h.1.length_eq

theorem heap_push {es : List β} (h : Heap ah es) (x : β) : HU ah (es ++ [x]) es.length := by
  refine ⟨fun j a p hj hne ha hp => ?_, fun j a p hj hl hjl ha hp => ?_⟩
  · have hlt : j < (es ++ [x]).length := (List.getElem?_eq_some_iff.1 ha).1
    simp at hlt
    rw [List.getElem?_append_left (by omega)] at ha hp
    exact h j a p hj ha hp
  · have hlt : j < (es ++ [x]).length := (List.getElem?_eq_some_iff.1 ha).1
    simp at hlt; omega

theorem Rep.push (o : Ord ah) (ht : ∀ a b c, ah a b = true → ah b c = true → ah a c = true) {es S : List β} (h : Rep ah es S) {x : β} (hx : ∀ y ∈ S, ah x y = false → ah y x = true) : Rep ah (up ah es.length (es ++ [x]) es.length) (ins ah x S) := by
  refine ⟨(up_perm _ _ _).trans ?_, up_heap o _ _ _ (Nat.le_refl _) (heap_push h.2.1 x), ins_sorted o ht h.2.2 hx⟩
  refine List.Perm.trans ?_ (ins_perm x S).symm
  exact List.perm_append_comm.trans (List.Perm.cons x h.1)

theorem Rep.head (o : Ord ah) {es S : List β} {s z : β} (h : Rep ah es (s :: S)) (hz : es[0]? = some z) : z = s := by
  have hs : s ∈ es := h.1.mem_iff.2 List.mem_cons_self
  obtain ⟨i, hi⟩ := List.getElem?_of_mem hs
  have h1 := h.2.1.first o hz i s hi
  have hzm : z ∈ s :: S := h.1.mem_iff.1 (List.mem_of_getElem? hz)
  rcases List.mem_cons.1 hzm with h2 | h2
  · exact h2
  · have := (List.pairwise_cons.1 h.2.2).1 z h2
    rw [h1] at this; cases this

/-- what is left when the first is taken: the last in its place, and down -/
def pop (ah : β → β → Bool) (es : List β) : List β := match es.getLast? with
  | none => []
  | some l => down ah es.length ((es.set 0 l).dropLast) 0

theorem dropLast_perm : ∀ {es : List β} {z l : β}, es[0]? = some z → es.getLast? = some l → (z :: (es.set 0 l).dropLast).Perm es
  | [], _, _, h, _ => by simp at h
  | [a], z, l, h, hl => by simp at h hl; subst h; subst hl; simp
  | a :: b :: t, z, l, h, hl => by
    simp at h; subst h
    have hl' : (b :: t).getLast? = some l := by simpa using hl
    have hne : b :: t ≠ [] := by simp
    have e : (b :: t) = (b :: t).dropLast ++ [l] := by
      rw [List.getLast?_eq_some_getLast hne, Option.some.injEq] at hl'
      rw [← hl', List.dropLast_concat_getLast]
    have : ((a :: b :: t).set 0 l).dropLast = l :: (b :: t).dropLast := by simp
    rw [this]
    refine List.Perm.cons a ?_
    conv => rhs; rw [e]
    exact (List.perm_append_comm (l₁ := [l])).trans (.refl _)

theorem heap_dropLast {es : List β} (h : Heap ah es) (l : β) : HD ah ((es.set 0 l).dropLast) 0 := by
  have get : ∀ (j : Nat) (a : β), 0 < j → ((es.set 0 l).dropLast)[j]? = some a → es[j]? = some a := fun j a hj ha => by
    rw [List.getElem?_dropLast] at ha
    split at ha
    · rwa [List.getElem?_set_ne (by omega)] at ha
    · cases ha
  refine ⟨fun j a p hj hne ha hp => h j a p hj (get j a hj ha) (get _ p (by omega) hp), fun j a p hj h0 => by omega⟩

theorem Rep.pop (o : Ord ah) {es S : List β} {s : β} (h : Rep ah es (s :: S)) : Rep ah (pop ah es) S := by
  have hlen := h.1.length_eq
  simp at hlen
  cases hes : es with
  | nil => simp [hes] at hlen
  | cons z t =>
    have hz : es[0]? = some z := by simp [hes]
    have hzs := h.head o hz
    subst hzs
    cases hl : es.getLast? with
    | none => simp [hes] at hl
    | some l =>
      have e : Hp.pop ah es = down ah es.length ((es.set 0 l).dropLast) 0 := by unfold Hp.pop; rw [hl]
      rw [← hes, e]
      refine ⟨(down_perm _ _ _).trans ?_, down_heap o _ _ _ (by simp) (heap_dropLast h.2.1 l), (List.pairwise_cons.1 h.2.2).2⟩
      exact List.Perm.cons_inv ((dropLast_perm hz hl).trans h.1)
end

/-! ### things that were pushed at a time -/
section
variable {α : Type} (lt : α → α → Bool)
def ahd (a b : α × Nat) : Bool := lt a.1 b.1 || (!lt b.1 a.1 && decide (a.2 < b.2))
variable {lt}
theorem ahd_ord (h : Ord lt) : Ord (ahd lt) := by
  refine ⟨fun a b hab => ?_, fun a b c hba hcb => ?_⟩
  · unfold ahd at *
    cases h1 : lt a.1 b.1 with
    | true => simp [h.asym _ _ h1]
    | false =>
      simp [h1] at hab ⊢
      refine ⟨hab.1, ?_⟩
      omega
  · unfold ahd at *
    simp only [Bool.or_eq_false_iff, Bool.and_eq_false_iff, Bool.not_eq_false', decide_eq_false_iff_not, Nat.not_lt] at *
    obtain ⟨h1, h2⟩ := hba
    obtain ⟨h3, h4⟩ := hcb
    refine ⟨h.trans _ _ _ h1 h3, ?_⟩
    rcases h2 with h2 | h2
    · -- a before b strictly
      left
      cases hac : lt a.1 c.1 with
      | true => rfl
      | false =>
        have hx := h.trans b.1 c.1 a.1 h3 hac
        rw [h2] at hx; cases hx
    · rcases h4 with h4 | h4
      · left
        cases hac : lt a.1 c.1 with
        | true => rfl
        | false =>
          have hy := h.trans c.1 a.1 b.1 hac h1
          rw [h4] at hy; cases hy
      · exact .inr (Nat.le_trans h2 h4)
theorem ahd_total {a b : α × Nat} (hne : a.2 ≠ b.2) (h : ahd lt a b = false) : ahd lt b a = true := by
  unfold ahd at *
  cases h1 : lt a.1 b.1 <;> cases h2 : lt b.1 a.1 <;> simp [h1, h2] at * ; omega
theorem ahd_trans (h : Ord lt) (a b c : α × Nat) (h1 : ahd lt a b = true) (h2 : ahd lt b c = true) : ahd lt a c = true := by
  have o := ahd_ord h
  cases h3 : ahd lt a c with
  | true => rfl
  | false =>
    -- c <= a, a <= b: c <= b, against b ahead of c
    have := o.trans c a b h3 (o.asym _ _ h1)
    rw [h2] at this; cases this
end
end Hp
namespace SX
open Go
/-- the bools of a set of n -/
def rbs (n : Nat) (S : Nat → Bool) : List Value := (List.range n).map fun k => .bool (S k)
theorem rbs_len (n : Nat) (S : Nat → Bool) : (rbs n S).length = n := by simp [rbs]
theorem rbs_get {n k : Nat} (S : Nat → Bool) (h : k < n) : (rbs n S)[k]? = some (.bool (S k)) := by simp [rbs, h]
theorem Row.sl {μ : PH} {v : Value} {n l : Nat} {xs : List Value} (h : Row μ v n l xs) : ∃ A cap, v = .slice A l cap := by
  obtain ⟨_, A, cap, e, _⟩ := h; exact ⟨A, cap, e⟩
theorem rbs_ext {n : Nat} {S T : Nat → Bool} (h : ∀ j, j < n → S j = T j) : rbs n S = rbs n T := by
  unfold rbs
  apply List.map_congr_left
  intro k hk
  rw [h k (List.mem_range.1 hk)]
theorem rbs_set {n i : Nat} {S T : Nat → Bool} {c : Bool} (h : ∀ j, j < n → T j = if j = i then c else S j) : (rbs n S).set i (.bool c) = rbs n T := by
  apply List.ext_getElem?
  intro j
  rw [List.getElem?_set, rbs_len]
  rcases Nat.lt_or_ge j n with hj | hj
  · rw [rbs_get T hj, rbs_get S hj, h j hj]
    by_cases e : i = j
    · subst e; simp [hj]
    · simp [e, Ne.symm e]
  · rw [List.getElem?_eq_none (l := rbs n S) (by rw [rbs_len]; exact hj), List.getElem?_eq_none (l := rbs n T) (by rw [rbs_len]; exact hj)]
    split
    · rw [if_neg (by omega)]
    · rfl
/-- a graph: its rows, and what each row reads as -/
def Graph (μ : PH) (v : Value) (G : List (Value × List Int)) : Prop := Row μ v 1 G.length (G.flatMap gcs) ∧ ∀ x ∈ G, Row μ x.1 1 x.2.length (x.2.flatMap (icsk .i64))
theorem Graph.le {μ μ' : PH} {v : Value} {G : List (Value × List Int)} (h : Graph μ v G) (k : Le μ μ') : Graph μ' v G := ⟨h.1.le k, fun x hx => (h.2 x hx).le k⟩
theorem Row.small {μ : PH} {v : Value} {n l : Nat} {xs : List Value} (h : Row μ v n l xs) : l ≤ 9223372036854775807 := by
  obtain ⟨_, _, _, _, h1, h2, _⟩ := h; simp only [maxLen] at h2; omega
/-- what is wrong with one commit's parents -/
def rowErr (c : Nat) (s : List Int) : List Int → Int
  | [] => 0
  | p :: l => if p < 0 then 1 else if (c : Int) ≤ p then 10 else if p ∈ s then 11 else rowErr c (s ++ [p]) l
def chkFrom : Nat → List (List Int) → Int
  | _, [] => 0
  | c, l :: g => if rowErr c [] l = 0 then chkFrom (c + 1) g else rowErr c [] l
theorem rowErr_at {c : Nat} {l : List Int} {j : Nat} {p : Int} (h : l[j]? = some p) : rowErr c (l.take j) (l.drop j) = if p < 0 then 1 else if (c : Int) ≤ p then 10 else if p ∈ l.take j then 11 else rowErr c (l.take (j + 1)) (l.drop (j + 1)) := by
  have hlt := (List.getElem?_eq_some_iff.1 h).1
  rw [List.drop_eq_getElem_cons hlt, List.take_add_one, h]
  have e : l[j] = p := by rw [List.getElem?_eq_getElem hlt] at h; exact Option.some.inj h
  rw [e]; rfl
theorem chkFrom_at {g : List (List Int)} {i : Nat} {l : List Int} (h : g[i]? = some l) : chkFrom i (g.drop i) = if rowErr i [] l = 0 then chkFrom (i + 1) (g.drop (i + 1)) else rowErr i [] l := by
  have hlt := (List.getElem?_eq_some_iff.1 h).1
  rw [List.drop_eq_getElem_cons hlt]
  have e : g[i] = l := by rw [List.getElem?_eq_getElem hlt] at h; exact Option.some.inj h
  rw [e]; rfl
/-- the graph's numbers -/
abbrev nums (G : List (Value × List Int)) : List (List Int) := G.map (·.2)
def rowOf (g : List (List Int)) (c : Nat) : List Int := g.getD c []
def stepUp (g : List (List Int)) (c : Nat) (S : Nat → Bool) : Nat → Bool := fun j => S j || (S c && decide ((j : Int) ∈ rowOf g c))
def upF (g : List (List Int)) : Nat → (Nat → Bool) → (Nat → Bool)
  | 0, S => S
  | c + 1, S => upF g c (stepUp g c S)
/-- a commit's ancestors -/
def up (g : List (List Int)) (a : Nat) : Nat → Bool := upF g (a + 1) (fun j => decide (j = a))
/-- parents come first -/
def Good (g : List (List Int)) : Prop := ∀ (c : Nat) (l : List Int), g[c]? = some l → ∀ p ∈ l, 0 ≤ p ∧ p < c
theorem rowOf_at {g : List (List Int)} {c : Nat} {l : List Int} (h : g[c]? = some l) : rowOf g c = l := by unfold rowOf; rw [List.getD_eq_getElem?_getD, h]; rfl
/-- which of S are no parent of one of them -/
def bestT (g : List (List Int)) (S : Nat → Bool) (c : Nat) : Nat → Bool := fun j => S j && !((List.range c).any fun y => S y && decide ((j : Int) ∈ rowOf g y))
theorem rbs_false (n : Nat) : List.replicate n (Value.bool false) = rbs n (fun _ => false) := by
  apply List.ext_getElem?
  intro j
  simp [rbs, List.getElem?_replicate]
  split <;> simp_all
def stepDn (g : List (List Int)) (c : Nat) (S : Nat → Bool) : Nat → Bool := fun j => S j || (decide (j = c) && (rowOf g c).any fun p => S p.toNat)
/-- d rows from c on -/
def dnF (g : List (List Int)) (S : Nat → Bool) (c : Nat) : Nat → (Nat → Bool)
  | 0 => S
  | d + 1 => stepDn g (c + d) (dnF g S c d)
def dn (g : List (List Int)) (a : Nat) : Nat → Bool := dnF g (fun j => decide (j = a)) (a + 1) (g.length - (a + 1))
/-- by definition: itself, or by a parent -/
inductive Reach (g : List (List Int)) : Nat → Nat → Prop
  | refl (a : Nat) : Reach g a a
  | step {a p j : Nat} (h : (p : Int) ∈ rowOf g a) (k : Reach g p j) : Reach g a j
theorem row_good {g : List (List Int)} (hg : Good g) {a : Nat} {p : Int} (h : p ∈ rowOf g a) : 0 ≤ p ∧ p < a ∧ a < g.length := by
  unfold rowOf at h
  rw [List.getD_eq_getElem?_getD] at h
  cases hc : g[a]? with
  | none => rw [hc] at h; cases h
  | some l => rw [hc] at h; exact ⟨(hg a l hc p h).1, (hg a l hc p h).2, (List.getElem?_eq_some_iff.1 hc).1⟩
theorem Reach.le {g : List (List Int)} (hg : Good g) {a j : Nat} (h : Reach g a j) : j ≤ a := by
  induction h with
  | refl => exact Nat.le_refl _
  | step h _ ih => have := row_good hg h; omega
theorem Reach.trans {g : List (List Int)} {a b c : Nat} (h : Reach g a b) (k : Reach g b c) : Reach g a c := by
  induction h with
  | refl => exact k
  | step h _ ih => exact .step h (ih k)
theorem Reach.last {g : List (List Int)} {a j : Nat} (h : Reach g a j) : a = j ∨ ∃ z, Reach g a z ∧ (j : Int) ∈ rowOf g z := by
  induction h with
  | refl => exact .inl rfl
  | @step a p j h _ ih =>
    right
    rcases ih with rfl | ⟨z, h1, h2⟩
    · exact ⟨a, .refl _, h⟩
    · exact ⟨z, .step h h1, h2⟩
theorem Reach.lt {g : List (List Int)} (hg : Good g) {a j : Nat} (h : Reach g a j) (hne : a ≠ j) : j < a ∧ a < g.length := by
  cases h with
  | refl => exact absurd rfl hne
  | step h k => have := row_good hg h; have := k.le hg; omega
theorem best_iff {g : List (List Int)} {S : Nat → Bool} {n j : Nat} : bestT g S n j = true ↔ S j = true ∧ ∀ y, y < n → S y = true → ¬ (j : Int) ∈ rowOf g y := by
  unfold bestT
  simp only [Bool.and_eq_true, Bool.not_eq_true', List.any_eq_false, List.mem_range, decide_eq_true_eq]
  exact ⟨fun ⟨h1, h2⟩ => ⟨h1, fun y hy hs hm => h2 y hy ⟨hs, hm⟩⟩, fun ⟨h1, h2⟩ => ⟨h1, fun y hy h => h2 y hy h.1 h.2⟩⟩
section
variable {P : Program} {tI : TypeId} [TOne P tI]
theorem Split.all : ∀ {L : List Assn}, Split L L []
  | [] => .nil
  | _ :: _ => .cons .here Split.all
theorem Split.skip {A : Assn} {L K R : List Assn} (h : Split L K R) : Split (A :: L) K (A :: R) := by
  induction h with
  | nil => exact .nil
  | cons h _ ih => exact .cons (.there h) ih
/-- a slice of integers may be read -/
def Ints (P : Program) (tI : TypeId) (L : List Assn) (v : Value) (xs : List Int) : Prop := ∃ A cap, v = .slice A xs.length cap ∧ xs.length ≤ 9223372036854775807 ∧ (0 < xs.length → ∃ b off, A = some ⟨b, off, none⟩ ∧ ∀ (j : Nat) (x : Int), xs[j]? = some x → Ld P L tI ⟨b, off + j, none⟩ (.int .i64 x))
theorem Ints.row {μ : PH} {v : Value} {xs : List Int} {L : List Assn} [InR L μ] (h : Row μ v 1 xs.length (xs.flatMap (icsk .i64))) : Ints P tI L v xs := by
  obtain ⟨A, cap, hv⟩ := h.sl
  refine ⟨A, cap, hv, h.small, fun h0 => ?_⟩
  obtain ⟨b, off, cap', hv', c1, c2, hr⟩ := h.pos h0
  subst hv
  injection hv' with e1 _ _
  exact ⟨b, off, e1, fun j x hx => by
    have := (hr.elem (icsk_len .i64) hx).cell
    rw [Nat.mul_one] at this
    exact ld_ro this⟩
omit [TOne P tI] in
theorem ints_nil {L : List Assn} : Ints P tI L (.slice none 0 0) [] := ⟨none, 0, rfl, by decide, fun h => by simp at h⟩
def Shape (v : Value) (l : Nat) : Prop := (v = .slice none 0 0 ∧ l = 0) ∨ ∃ b cap, v = .slice (some ⟨b, 0, none⟩) l cap ∧ l ≤ cap ∧ cap ≤ maxLen
theorem own_shape {e n : Nat} {v : Value} {l : Nat} {xs : List Value} {L L' : List Assn} (ht : Take (own e n v l xs) L L') {m : PH} (h : Sat L m) : Shape v l := by
  have h := Sat.perm ht.perm _ h
  rcases own_open h with ⟨rfl, rfl, _⟩ | ⟨b, cap, ex, rfl, h1, h2, _⟩
  · exact .inl ⟨rfl, rfl⟩
  · exact .inr ⟨b, cap, rfl, h1, h2⟩
theorem H.take {A : Assn} {E : Ctx} {w : World} {L L' : List Assn} (h : H E w L) (t : Take A L L') : H E w (A :: L') := h.ent (Ent.perm t.perm)
theorem ld_own {L L' : List Assn} {b cap l : Nat} {xs : List Value} {e : TypeId} (t : Take (own e 1 (.slice (some ⟨b, 0, none⟩) l cap) l xs) L L') {ty : TypeId} [TOne P ty] {j : Nat} {v : Value} (hv : xs[j]? = some v) : Ld P L ty ⟨b, j, none⟩ v := by
  intro E w hh
  obtain ⟨k1, k2, k3, k4, k5⟩ := hh.take t
  have k6 : Sat (own e 1 (.slice (some ⟨b, 0, none⟩) l cap) l xs :: (E.X ++ L')) (fun b => w.heap[b]?) := Sat.perm (perm_out (.refl _)) _ k5
  rcases own_open k6 with ⟨a1, a2, a3⟩ | ⟨b', cap', ex, a1, a2, a3, a4, a5, a6⟩
  · cases a1
  · injection a1 with e1 e2 e3
    injection e1 with e1
    injection e1 with e1
    subst e1
    exact ld_one (L := blk b e (xs ++ ex) :: L') (ty := e) (cs := xs ++ ex) (by rw [List.getElem?_append_left (List.getElem?_eq_some_iff.1 hv).1]; exact hv) E w ⟨k1, k2, k3, k4, Sat.perm (perm_out (.refl _)).symm _ a6⟩
theorem ints_own {L L' : List Assn} {v : Value} {xs : List Int} (hs : Shape v xs.length) (t : Take (own tI 1 v xs.length (xs.flatMap (icsk .i64))) L L') : Ints P tI L v xs := by
  rcases hs with ⟨rfl, h0⟩ | ⟨b, cap, rfl, h1, h2⟩
  · obtain rfl := List.eq_nil_of_length_eq_zero h0
    exact ints_nil
  · simp only [maxLen] at h2
    refine ⟨_, _, rfl, by omega, fun _ => ⟨b, 0, rfl, fun j x hx => ?_⟩⟩
    rw [Nat.zero_add]
    refine ld_own t ?_
    have := flat_get (icsk_len .i64) xs [] j x hx 0 (.int .i64 x) rfl
    rwa [List.append_nil, Nat.mul_one] at this
end
section
variable {P : Program} {tG : TypeId}
theorem flat_take {β : Type} {f : β → List Value} (hf : ∀ e, (f e).length = 1) : ∀ (es : List β) (k : Nat), (es.flatMap f).take k = (es.take k).flatMap f
  | [], k => by simp
  | e :: es, 0 => by simp
  | e :: es, k + 1 => by
    rw [List.flatMap_cons, List.take_succ_cons, List.flatMap_cons, ← flat_take hf es k]
    have := hf e
    rw [List.take_append, this, Nat.add_sub_cancel, List.take_of_length_le (by omega)]
theorem graph_take {e by_ : Nat} [TSl P tG e 1 by_] {μ : PH} {v : Value} {G : List (Value × List Int)} (hG : Graph μ v G) (k : Nat) (hk : k ≤ G.length) :
    ∃ v', Graph μ v' (G.take k) ∧ ∀ (env : Env) (x y : Operand) (ki : IntKind) (hi : Int), evalE env x = some v → evalE env y = some (.int ki hi) → hi = (k : Int) → Pu P env (.slice tG x none (some y) none) v' := by
  obtain ⟨v', hr, hp⟩ := Row.hi (P := P) (t := tG) hG.1 k hk
  refine ⟨v', ⟨?_, fun x hx => hG.2 x (List.mem_of_mem_take hx)⟩, hp⟩
  rw [Nat.mul_one, flat_take gcs_len] at hr
  rwa [List.length_take, Nat.min_eq_left hk]
theorem icsk_one (xs : List Int) : (xs.flatMap (icsk .i64)).all Value.oneCell' = true := by
  rw [List.all_flatMap]; simp [icsk, Value.oneCell']
end
theorem row_of_blk {μ : PH} {b t n l : Nat} {cs : List Value} (h : μ b = some (.cells cs.toArray t (0, 0))) (hl : cs.length = l * n) (hm : l ≤ maxLen) : Row μ (.slice (some ⟨b, 0, none⟩) l l) n l cs :=
  ⟨hl, _, _, rfl, Nat.le_refl _, hm, fun h => (by cases h), fun _ => ⟨b, 0, rfl, fun j u hj => ⟨cs.toArray, t, (0, 0), h, by rw [Nat.zero_add]; simpa using hj⟩⟩⟩
theorem Row.at_ {μ : PH} {v : Value} {xs : List Int} (h : Row μ v 1 xs.length (xs.flatMap (icsk .i64))) {i : Nat} {x : Int} (hi : xs[i]? = some x) : ∃ b off cap, v = .slice (some ⟨b, off, none⟩) xs.length cap ∧ CellAt μ b (off + i * 1) (.int .i64 x) := by
  have hl := (List.getElem?_eq_some_iff.1 hi).1
  obtain ⟨b, off, cap, hv, _, _, hr⟩ := h.pos (by omega)
  exact ⟨b, off, cap, hv, (hr.elem (icsk_len .i64) hi).cell⟩
/-- a row of numbers -/
def ncs (n : Nat) (c : Nat → Int) : List Value := (List.range n).map fun k => .int .i64 (c k)
theorem ncs_len (n : Nat) (c : Nat → Int) : (ncs n c).length = n := by simp [ncs]
theorem ncs_get {n k : Nat} (c : Nat → Int) (h : k < n) : (ncs n c)[k]? = some (.int .i64 (c k)) := by simp [ncs, h]
theorem ncs_zero (n : Nat) : List.replicate n (Value.int .i64 0) = ncs n (fun _ => 0) := by
  apply List.ext_getElem?
  intro j
  simp [ncs, List.getElem?_replicate]
  split <;> simp_all
theorem ncs_set {n x : Nat} {c d : Nat → Int} {v : Int} (h : ∀ k, d k = if k = x then v else c k) : (ncs n c).set x (.int .i64 v) = ncs n d := by
  apply List.ext_getElem?
  intro j
  by_cases hj : j < n
  · rw [ncs_get d hj, h]
    by_cases e : j = x
    · subst e; rw [List.getElem?_set_self (by rw [ncs_len]; exact hj), if_pos rfl]
    · rw [List.getElem?_set_ne (fun h => e h.symm), ncs_get c hj, if_neg e]
  · rw [List.getElem?_eq_none (by rw [List.length_set, ncs_len]; omega), List.getElem?_eq_none (by rw [ncs_len]; omega)]
theorem own_empty {e n b : Nat} {L : List Assn} : Ent (blk b e [] :: L) (own e n (.slice (some ⟨b, 0, none⟩) 0 0) 0 [] :: L) :=
  own_close (e := e) (n := n) (b := b) (l := 0) (cap := 0) (xs := []) (ex := []) (by simp) (by simp) (Nat.le_refl _) (Nat.zero_le _) (L := L)
end SX
namespace SX
open Go

def cnt (n : Int) : Int := if 1023 < n then 1024 else max n 1
def hiG (l : List Int) : Int := l.foldl (fun h p => max h (cnt p)) 0
/-- one above the parents -/
def nxt (l : List Int) : Int := if 1023 ≤ hiG l then hiG l else hiG l + 1
def inR (n : Nat) (p : Int) : Bool := decide (0 ≤ p) && decide (p < n)
def okRow (n : Nat) (l : List Int) : Bool := l.all (inR n) && decide l.Nodup
def valsG (all l : List Int) : List Int := l.map fun p => all.getD p.toNat 0
def moreG : List Int → List (List Int) → Option (List Int)
  | all, [] => some all
  | all, r :: g => if okRow all.length r = true then moreG (all ++ [nxt (valsG all r)]) g else none

theorem cnt_range (n : Int) : 1 ≤ cnt n ∧ cnt n ≤ 1024 := by unfold cnt; split <;> omega
theorem hiG_append (l : List Int) (p : Int) : hiG (l ++ [p]) = max (hiG l) (cnt p) := by unfold hiG; rw [List.foldl_append]; rfl
theorem hiG_range : ∀ l : List Int, 0 ≤ hiG l ∧ hiG l ≤ 1024 := fun l => by
  have key : ∀ (l : List Int) (h : Int), 0 ≤ h → h ≤ 1024 → 0 ≤ l.foldl (fun h p => max h (cnt p)) h ∧ l.foldl (fun h p => max h (cnt p)) h ≤ 1024 := fun l => by
    induction l with
    | nil => exact fun h h1 h2 => ⟨h1, h2⟩
    | cons p l ih => exact fun h h1 h2 => ih (max h (cnt p)) (by have := cnt_range p; omega) (by have := cnt_range p; omega)
  exact key l 0 (by omega) (by omega)
theorem valsG_append (all l : List Int) (p : Int) : valsG all (l ++ [p]) = valsG all l ++ [all.getD p.toNat 0] := by unfold valsG; rw [List.map_append]; rfl
theorem moreG_append : ∀ (g1 g2 : List (List Int)) (all : List Int), moreG all (g1 ++ g2) = (moreG all g1).bind fun a => moreG a g2
  | [], _, _ => rfl
  | r :: g1, g2, all => by
    rw [List.cons_append, moreG, moreG]
    split
    · exact moreG_append g1 g2 _
    · rfl
theorem moreG_len : ∀ {g : List (List Int)} {all out : List Int}, moreG all g = some out → out.length = all.length + g.length ∧ out.take all.length = all
  | [], all, out, h => by
    obtain rfl : all = out := by simpa [moreG] using h
    simp
  | r :: g, all, out, h => by
    rw [moreG] at h
    split at h
    · obtain ⟨h1, h2⟩ := moreG_len h
      rw [List.length_append, List.length_singleton] at h1 h2
      refine ⟨by rw [h1, List.length_cons]; omega, ?_⟩
      have : (out.take (all.length + 1)).take all.length = (all ++ [nxt (valsG all r)]).take all.length := by rw [h2]
      rw [List.take_take, Nat.min_eq_left (by omega), List.take_left'] at this
      · exact this
      · rfl
    · cases h
theorem moreG_at {g : List (List Int)} {all : List Int} {i : Nat} {r : List Int} {a : List Int} (h : moreG all (g.take i) = some a) (hi : g[i]? = some r) : moreG all (g.take (i + 1)) = if okRow a.length r = true then some (a ++ [nxt (valsG a r)]) else none := by
  rw [List.take_add_one, hi]
  show moreG all (g.take i ++ [r]) = _
  rw [moreG_append, h]
  show moreG a [r] = _
  rw [moreG]
  split <;> rfl
theorem moreG_none {g : List (List Int)} {all : List Int} {i : Nat} (h : moreG all (g.take i) = none) : moreG all g = none := by
  have := moreG_append (g.take i) (g.drop i) all
  rw [List.take_append_drop, h] at this
  exact this

/-! what a row's check says -/
theorem rowErr_ok {c : Nat} : ∀ {l s : List Int}, rowErr c s l = 0 ↔ (∀ p ∈ l, 0 ≤ p ∧ p < c) ∧ l.Nodup ∧ ∀ p ∈ l, p ∉ s
  | [], s => by simp [rowErr]
  | q :: l, s => by
    unfold rowErr
    by_cases h1 : q < 0
    · rw [if_pos h1]
      exact ⟨fun h => (by cases h), fun ⟨h, _⟩ => by have := h q (List.mem_cons_self ..); omega⟩
    · rw [if_neg h1]
      by_cases h2 : (c : Int) ≤ q
      · rw [if_pos h2]
        exact ⟨fun h => (by cases h), fun ⟨h, _⟩ => by have := h q (List.mem_cons_self ..); omega⟩
      · rw [if_neg h2]
        by_cases h3 : q ∈ s
        · rw [if_pos h3]
          exact ⟨fun h => (by cases h), fun ⟨_, _, h⟩ => absurd h3 (h q (List.mem_cons_self ..))⟩
        · rw [if_neg h3, rowErr_ok, List.nodup_cons]
          constructor
          · rintro ⟨h4, h5, h6⟩
            refine ⟨fun p hp => ?_, ⟨fun hq => ?_, h5⟩, fun p hp => ?_⟩
            · rcases List.mem_cons.1 hp with rfl | hp
              · omega
              · exact h4 p hp
            · exact h6 q hq (by simp)
            · rcases List.mem_cons.1 hp with rfl | hp
              · exact h3
              · exact fun hs => h6 p hp (by simp [hs])
          · rintro ⟨h4, ⟨h5, h6⟩, h7⟩
            refine ⟨fun p hp => h4 p (List.mem_cons_of_mem _ hp), h6, fun p hp hs => ?_⟩
            rcases List.mem_append.1 hs with hs | hs
            · exact h7 p (List.mem_cons_of_mem _ hp) hs
            · obtain rfl := List.mem_singleton.1 hs
              exact h5 hp
theorem okRow_iff {n : Nat} {l : List Int} : okRow n l = true ↔ (∀ p ∈ l, 0 ≤ p ∧ p < n) ∧ l.Nodup := by
  unfold okRow inR
  simp only [Bool.and_eq_true, List.all_eq_true, decide_eq_true_eq]
theorem okRow_err {n : Nat} {l : List Int} : okRow n l = true ↔ rowErr n [] l = 0 := by
  rw [okRow_iff, rowErr_ok]
  exact ⟨fun ⟨a, b⟩ => ⟨a, b, fun _ _ h => by cases h⟩, fun ⟨a, b, _⟩ => ⟨a, b⟩⟩
theorem moreG_chk : ∀ {g : List (List Int)} {all : List Int}, (moreG all g).isSome = true ↔ chkFrom all.length g = 0
  | [], all => by simp [moreG, chkFrom]
  | r :: g, all => by
    rw [moreG, chkFrom]
    by_cases h : okRow all.length r = true
    · rw [if_pos h, if_pos (okRow_err.1 h), moreG_chk]
      simp
    · rw [if_neg h, if_neg (fun e => h (okRow_err.2 e))]
      exact ⟨fun e => (by cases e), fun e => absurd (okRow_err.2 e) h⟩

/-! sorted lists -/
/-! the numbers of a whole graph -/
theorem valsG_take {gs : List Int} {i : Nat} {r : List Int} (h : ∀ p ∈ r, 0 ≤ p ∧ p < i) : valsG (gs.take i) r = valsG gs r := by
  unfold valsG
  apply List.map_congr_left
  intro p hp
  have := h p hp
  rw [List.getD_eq_getElem?_getD, List.getD_eq_getElem?_getD, List.getElem?_take_of_lt (by omega)]
theorem gens_at {g : List (List Int)} {gs : List Int} (h : moreG [] g = some gs) {i : Nat} {r : List Int} (hi : g[i]? = some r) : gs[i]? = some (nxt (valsG gs r)) ∧ okRow i r = true := by
  have hl := (List.getElem?_eq_some_iff.1 hi).1
  have h1 := moreG_append (g.take i) (g.drop i) []
  rw [List.take_append_drop, h] at h1
  cases ha : moreG [] (g.take i) with
  | none => rw [ha] at h1; cases h1
  | some a =>
    rw [ha] at h1
    have hal := (moreG_len ha).1
    rw [List.length_nil, List.length_take, Nat.min_eq_left (by omega), Nat.zero_add] at hal
    have hd : g.drop i = r :: g.drop (i + 1) := by
      rw [List.drop_eq_getElem_cons hl, (List.getElem?_eq_some_iff.1 hi).2]
    rw [hd] at h1
    replace h1 : some gs = moreG a (r :: g.drop (i + 1)) := h1
    rw [moreG] at h1
    by_cases hok : okRow a.length r = true
    · rw [if_pos hok] at h1
      have h2 := moreG_len h1.symm
      rw [List.length_append, List.length_singleton, hal] at h2
      have hta : gs.take i = a := by
        have h3 : (gs.take (i + 1)).take i = (a ++ [nxt (valsG a r)]).take i := by rw [h2.2]
        rw [List.take_take, Nat.min_eq_left (by omega), List.take_left' hal] at h3
        exact h3
      rw [hal] at hok
      refine ⟨?_, hok⟩
      have h4 : (gs.take (i + 1))[i]? = some (nxt (valsG a r)) := by
        rw [h2.2, List.getElem?_append_right (by omega), hal, Nat.sub_self]; rfl
      rw [List.getElem?_take_of_lt (by omega)] at h4
      rw [h4, ← hta, valsG_take (okRow_iff.1 hok).1]
    · rw [if_neg hok] at h1; cases h1
theorem gens_len {g : List (List Int)} {gs : List Int} (h : moreG [] g = some gs) : gs.length = g.length := by have := (moreG_len h).1; rwa [List.length_nil, Nat.zero_add] at this
theorem gens_good {g : List (List Int)} {gs : List Int} (h : moreG [] g = some gs) : Good g := fun _ _ hl p hp => (okRow_iff.1 (gens_at h hl).2).1 p hp
/-- the numbers, of which the first k are known -/
def cutG (k : Nat) (gs : List Int) : List Int := (List.range gs.length).map fun i => if i < k then gs.getD i 0 else 1024
theorem cutG_len (k : Nat) (gs : List Int) : (cutG k gs).length = gs.length := by simp [cutG]
end SX
namespace SX
open Go

/-- into its place in a falling list -/
def insD (x : Nat) : List Nat → List Nat
  | [] => [x]
  | y :: l => if y < x then x :: y :: l else y :: insD x l
def Falls (l : List Nat) : Prop := l.Pairwise (fun a b => b < a)
theorem mem_insD {x k : Nat} : ∀ {l : List Nat}, k ∈ insD x l ↔ k = x ∨ k ∈ l
  | [] => by simp [insD]
  | y :: l => by
    unfold insD
    split
    · simp
    · rw [List.mem_cons, mem_insD, List.mem_cons]
      constructor
      · rintro (h | h | h)
        · exact .inr (.inl h)
        · exact .inl h
        · exact .inr (.inr h)
      · rintro (h | h | h)
        · exact .inr (.inl h)
        · exact .inl h
        · exact .inr (.inr h)
theorem insD_falls {x : Nat} : ∀ {l : List Nat}, Falls l → x ∉ l → Falls (insD x l)
  | [], _, _ => by simp [insD, Falls]
  | y :: l, h, hx => by
    obtain ⟨h1, h2⟩ := List.pairwise_cons.1 h
    unfold insD
    split
    · rename_i hy
      exact List.pairwise_cons.2 ⟨fun z hz => by
        rcases List.mem_cons.1 hz with rfl | hz
        · exact hy
        · have := h1 z hz; omega, h⟩
    · rename_i hy
      refine List.pairwise_cons.2 ⟨fun z hz => ?_, insD_falls h2 (fun hm => hx (List.mem_cons_of_mem _ hm))⟩
      rcases mem_insD.1 hz with rfl | hz
      · have : y ≠ z := fun e => hx (by rw [e]; exact List.mem_cons_self ..)
        omega
      · exact h1 z hz
/-- a walker: what was seen, what is to come -/
abbrev Wk := (Nat → Bool) × List Nat
def addW (n : Nat) (s : Wk) (c : Int) : Wk := if (decide (0 ≤ c) && (decide (c < n) && !s.1 c.toNat)) = true then (fun j => s.1 j || decide (j = c.toNat), insD c.toNat s.2) else s
def addAll (n : Nat) (s : Wk) (l : List Int) : Wk := l.foldl (addW n) s
/-- below m just the queue was seen -/
structure WkI (n m : Nat) (s : Wk) : Prop where
  falls : Falls s.2
  lt : ∀ q ∈ s.2, q < m
  seen : ∀ k, k < m → (s.1 k = true ↔ k ∈ s.2)
theorem WkI.add {n m : Nat} {s : Wk} {c : Int} (h : WkI n m s) (hc : 0 ≤ c ∧ c < m) (hm : m ≤ n) :
    WkI n m (addW n s c) ∧ (∀ k, k ∈ (addW n s c).2 ↔ k ∈ s.2 ∨ (k : Int) = c) ∧ (∀ k, (addW n s c).1 k = true ↔ s.1 k = true ∨ (k : Int) = c) := by
  obtain ⟨j, rfl⟩ : ∃ j : Nat, c = j := ⟨c.toNat, by omega⟩
  have hj : j < m := by omega
  unfold addW
  rw [Int.toNat_natCast, decide_eq_true hc.1, decide_eq_true (show (j : Int) < n by omega), Bool.true_and, Bool.true_and]
  by_cases hs : s.1 j = true
  · rw [hs]
    have hq := (h.seen j hj).1 hs
    refine ⟨h, fun k => ⟨.inl, ?_⟩, fun k => ⟨.inl, ?_⟩⟩
    · rintro (h | h)
      · exact h
      · obtain rfl : k = j := by omega
        exact hq
    · rintro (h | h)
      · exact h
      · obtain rfl : k = j := by omega
        exact hs
  · have hs' : s.1 j = false := by simpa using hs
    rw [hs', if_pos (show (!false) = true from rfl)]
    have hq : j ∉ s.2 := fun hm => hs ((h.seen j hj).2 hm)
    refine ⟨⟨insD_falls h.falls hq, fun q hq => ?_, fun k hk => ?_⟩, fun k => ?_, fun k => ?_⟩
    · rcases mem_insD.1 hq with rfl | hq
      · exact hj
      · exact h.lt q hq
    · show (s.1 k || decide (k = j)) = true ↔ k ∈ insD j s.2
      rw [mem_insD, Bool.or_eq_true, decide_eq_true_eq, h.seen k hk]
      exact Or.comm
    · show k ∈ insD j s.2 ↔ _
      rw [mem_insD, Or.comm]
      exact or_congr Iff.rfl (by omega)
    · show (s.1 k || decide (k = j)) = true ↔ _
      rw [Bool.or_eq_true, decide_eq_true_eq]
      exact or_congr Iff.rfl (by omega)
theorem WkI.addAll {n m : Nat} : ∀ {l : List Int} {s : Wk}, WkI n m s → (∀ p ∈ l, 0 ≤ p ∧ p < m) → m ≤ n →
    WkI n m (addAll n s l) ∧ (∀ k, k ∈ (addAll n s l).2 ↔ k ∈ s.2 ∨ (k : Int) ∈ l) ∧ (∀ k, (addAll n s l).1 k = true ↔ s.1 k = true ∨ (k : Int) ∈ l)
  | [], s, h, _, _ => ⟨h, fun k => by simp [SX.addAll], fun k => by simp [SX.addAll]⟩
  | c :: l, s, h, hl, hm => by
    obtain ⟨h1, h2, h3⟩ := h.add (hl c (List.mem_cons_self ..)) hm
    obtain ⟨k1, k2, k3⟩ := WkI.addAll h1 (fun p hp => hl p (List.mem_cons_of_mem _ hp)) hm
    have e : SX.addAll n s (c :: l) = SX.addAll n (addW n s c) l := rfl
    rw [e]
    refine ⟨k1, fun k => ?_, fun k => ?_⟩
    · rw [k2, h2, List.mem_cons, or_assoc]
    · rw [k3, h3, List.mem_cons, or_assoc]
/-- the next one comes out -/
theorem WkI.pop {n m c : Nat} {S : Nat → Bool} {Q : List Nat} (h : WkI n m (S, c :: Q)) : WkI n c (S, Q) := by
  obtain ⟨h1, h2⟩ := List.pairwise_cons.1 h.falls
  refine ⟨h2, fun q hq => h1 q hq, fun k hk => ?_⟩
  have hc := h.lt c (List.mem_cons_self ..)
  refine (h.seen k (by omega)).trans ?_
  show k ∈ c :: Q ↔ k ∈ Q
  rw [List.mem_cons]
  exact ⟨fun h => h.resolve_left (by omega), .inr⟩
theorem WkI.start (n : Nat) : WkI n n (fun _ => false, []) := ⟨.nil, fun _ h => (by cases h), fun _ _ => ⟨fun h => (by cases h), fun h => (by cases h)⟩⟩

/-! what is reached -/
def seedS (l : List Int) : Nat → Bool := fun k => decide ((k : Int) ∈ l)
/-- all that some reach -/
def anyUp (g : List (List Int)) (n : Nat) (l : List Int) : Nat → Bool := upF g n (seedS l)
end SX
namespace SX
open Go
variable {P : Program} {Q : Post} {N : Nat} {env : Env} {L : List Assn}

theorem YSp.ent {l : Nat} {args : List Value} {pre pre' : List Assn} {post post' : Value → List Assn → Prop} (h : YSp P l args pre post) (h1 : Ent pre' pre) (h2 : ∀ v L, post v L → ∃ L', Ent L L' ∧ post' v L') : YSp P l args pre' post' := fun E w hw => by
  obtain ⟨f, t, a, b, r1, r2⟩ := h E w (hw.ent h1)
  exact ⟨f, t, a, b, r1, fun ro => (r2 ro).mono fun e w' ⟨v, L', e1, p, k⟩ => let ⟨L2, e2, p2⟩ := h2 v L' p; ⟨v, L2, e1, p2, k.ent e2⟩⟩

end SX
namespace SX
open Go
/-- what is the call's own is lent to be read, and comes back -/
theorem sat_lend {b : Nat} {o : Obj} {μ : PH} {L : List Assn} {m : PH} (h : Sat (one b o :: ro μ :: L) m) :
    ∃ μ', Le μ μ' ∧ μ' b = some o ∧ Sat (ro μ' :: L) m ∧ ∀ μ'', Le μ' μ'' → ∃ μ3, Le μ μ3 ∧ ∀ L', Ent (ro μ'' :: L') (one b o :: ro μ3 :: L') := by
  have hb : μ b = none := by
    obtain ⟨m1, m2, h1, ⟨m3, m4, h3, h4, hd2, t1, t2⟩, hd, s1, s2⟩ := h
    cases hx : μ b with
    | none => rfl
    | some x =>
      have := (hd b).resolve_left (by unfold one at h1; rw [h1]; simp)
      rw [t1 b x (h3 b x hx)] at this; cases this
  obtain ⟨μ', k1, k2, k3⟩ := sat_share h
  refine ⟨μ', k1, k2, k3, fun μ'' hle => ⟨fun k => if k = b then none else μ'' k, fun k x hk => ?_, fun L' m' hs => ?_⟩⟩
  · have : k ≠ b := by rintro rfl; rw [hb] at hk; cases hk
    simp only [this, if_false]
    exact hle k x (k1 k x hk)
  · obtain ⟨m1, m2, a1, a2, ad, as1, as2⟩ := hs
    have hm1 : m1 b = some o := a1 b o (hle b o k2)
    have hm2 : m2 b = none := (ad b).resolve_left (by rw [hm1]; simp)
    refine ⟨fun k => if k = b then some o else none, fun k => if k = b then none else m' k, by simp [one], ⟨fun k => if k = b then none else m1 k, m2, fun k x hk => ?_, a2, fun k => ?_, fun k x hk => ?_, fun k x hk => ?_⟩, fun k => ?_, fun k x hk => ?_, fun k x hk => ?_⟩
    · by_cases e : k = b
      · simp [e] at hk
      · simp only [e, if_false] at hk ⊢; exact a1 k x hk
    · by_cases e : k = b
      · exact .inl (by simp [e])
      · simp only [e, if_false]; exact ad k
    · by_cases e : k = b
      · simp [e] at hk
      · simp only [e, if_false] at hk ⊢; exact as1 k x hk
    · have e : k ≠ b := by rintro rfl; rw [hm2] at hk; cases hk
      simp only [e, if_false]; exact as2 k x hk
    · by_cases e : k = b
      · exact .inr (by simp [e])
      · exact .inl (by simp [e])
    · by_cases e : k = b
      · subst e; simp at hk; subst hk; exact as1 _ _ hm1
      · simp [e] at hk
    · by_cases e : k = b
      · simp [e] at hk
      · simp only [e, if_false] at hk; exact hk
def Back (e n : Nat) (v : Value) (l : Nat) (xs : List Value) (μ μ' : PH) : Prop := ∀ μ'', Le μ' μ'' → ∃ μ3, Le μ μ3 ∧ ∀ L', Ent (ro μ'' :: L') (own e n v l xs :: ro μ3 :: L')
section
variable {P : Program} {env : Env} {μ : PH} {L : List Assn} {rn : Option Nat} {Q : Post} {N : Nat}
theorem H.lend_own {E : Ctx} {w : World} {e n : Nat} {v : Value} {l : Nat} {xs : List Value} (h : H E w (own e n v l xs :: ro μ :: L)) :
    ∃ μ', Le μ μ' ∧ Row μ' v n l xs ∧ H E w (ro μ' :: L) ∧ Back e n v l xs μ μ' := by
  obtain ⟨h1, h2, h3, h4, h5⟩ := h
  have k6 : Sat (own e n v l xs :: (E.X ++ (ro μ :: L))) (fun b => w.heap[b]?) := Sat.perm (perm_out (.refl _)) _ h5
  rcases own_open k6 with ⟨a1, a2, a3⟩ | ⟨b, cap, ex, a1, a2, a3, a4, a5, a6⟩
  · subst a1 a2 a3
    exact ⟨μ, Le.refl _, Row.nil _ _, ⟨h1, h2, h3, h4, k6.tail⟩, fun μ'' hle => ⟨μ'', hle, fun L' => own_nil_ent⟩⟩
  · have p : (one b (.cells (xs ++ ex).toArray e (0, 0)) :: (E.X ++ (ro μ :: L))).Perm (one b (.cells (xs ++ ex).toArray e (0, 0)) :: ro μ :: (E.X ++ L)) := List.Perm.cons _ (perm_out (.refl _))
    obtain ⟨μ', b1, b2, b3, b4⟩ := sat_lend (Sat.perm p _ a6)
    refine ⟨μ', b1, ⟨a4, some ⟨b, 0, none⟩, cap, a1, a2, a3, fun h => (by cases h), fun _ => ⟨b, 0, rfl, fun j u hj => ⟨_, _, _, b2, ?_⟩⟩⟩, ⟨h1, h2, h3, h4, Sat.perm (perm_out (.refl _)).symm _ b3⟩, fun μ'' hle => ?_⟩
    · have hlt : j < xs.length := (List.getElem?_eq_some_iff.1 hj).1
      simpa [List.getElem?_append_left hlt] using hj
    · obtain ⟨μ3, c1, c2⟩ := b4 μ'' hle
      refine ⟨μ3, c1, fun L' => (c2 L').trans ?_⟩
      rw [a1]
      exact own_close a4 a5 a2 a3
end
section
variable {P : Program} {tG : Nat}
end
end SX
namespace SX
open Go
theorem Row.atk {k : IntKind} {μ : PH} {v : Value} {xs : List Int} (h : Row μ v 1 xs.length (xs.flatMap (icsk k))) {i : Nat} {x : Int} (hi : xs[i]? = some x) : ∃ b off cap, v = .slice (some ⟨b, off, none⟩) xs.length cap ∧ CellAt μ b (off + i * 1) (.int k x) := by
  have hlt := (List.getElem?_eq_some_iff.1 hi).1
  obtain ⟨b, off, cap, hv, _, _, hr⟩ := h.pos (by omega)
  exact ⟨b, off, cap, hv, (hr.elem (icsk_len k) hi).cell⟩
end SX
namespace SX
def seenN (n : Nat) (S : Nat → Bool) : Nat := ((List.range n).filter S).length
theorem seenN_le (n : Nat) (S : Nat → Bool) : seenN n S ≤ n := by
  have := List.length_filter_le S (List.range n)
  rwa [List.length_range] at this
theorem seenN_put {S : Nat → Bool} {c : Nat} (hs : S c = false) : ∀ {n : Nat}, c < n → seenN n (fun j => S j || decide (j = c)) = seenN n S + 1
  | 0, h => by omega
  | n + 1, h => by
    have e : ∀ T : Nat → Bool, seenN (n + 1) T = seenN n T + if T n = true then 1 else 0 := fun T => by
      unfold seenN
      rw [List.range_succ, List.filter_append, List.length_append]
      cases hT : T n <;> simp [List.filter, hT]
    rw [e, e]
    by_cases hc : c = n
    · subst hc
      have e2 : seenN c (fun j => S j || decide (j = c)) = seenN c S := by
        unfold seenN
        congr 1
        apply List.filter_congr
        intro j hj
        rw [decide_eq_false (show ¬ j = c by have := List.mem_range.1 hj; omega), Bool.or_false]
      rw [e2, hs]; simp
    · rw [seenN_put hs (by omega), show (S n || decide (n = c)) = S n by rw [decide_eq_false (fun e => hc e.symm), Bool.or_false]]
      omega
theorem falls_len : ∀ {l : List Nat} {n : Nat}, Falls l → (∀ k ∈ l, k < n) → l.length ≤ n
  | [], _, _, _ => Nat.zero_le _
  | y :: l, n, h, hn => by
    obtain ⟨h1, h2⟩ := List.pairwise_cons.1 h
    have := falls_len h2 h1
    have := hn y (List.mem_cons_self ..)
    rw [List.length_cons]; omega
/-- a walker that is in order -/
structure WkOk (n : Nat) (s : Wk) : Prop where
  falls : Falls s.2
  lt : ∀ k ∈ s.2, k < n
  sub : ∀ k ∈ s.2, s.1 k = true
def putS (n : Nat) (S : Nat → Bool) (k : Int) : Nat → Bool := fun j => S j || (decide (0 ≤ k ∧ k < n) && decide (j = k.toNat))
def newW (n : Nat) (S : Nat → Bool) (k : Int) : Bool := decide (0 ≤ k) && (decide (k < n) && !S k.toNat)
end SX
namespace SX
def wkRun (row : Nat → List Int) (n : Nat) : Nat → Wk → List Nat
  | 0, _ => []
  | f + 1, s => match s.2 with
    | [] => []
    | c :: Q => c :: wkRun row n f (addAll n (s.1, Q) (row c))
theorem wkRun_pop {row : Nat → List Int} {n f c : Nat} {S : Nat → Bool} {Q : List Nat} : wkRun row n (f + 1) (S, c :: Q) = c :: wkRun row n f (addAll n (S, Q) (row c)) := rfl
theorem wkRun_spec {g : List (List Int)} (hg : Good g) : ∀ (f m : Nat) (s : Wk), WkI g.length m s → m ≤ f → m ≤ g.length →
    Falls (wkRun (rowOf g) g.length f s) ∧ (∀ j ∈ wkRun (rowOf g) g.length f s, j < m) ∧ ∀ j, j ∈ wkRun (rowOf g) g.length f s ↔ ∃ q ∈ s.2, Reach g q j
  | 0, m, s, h, hf, _ => by
    have hq : s.2 = [] := List.eq_nil_iff_forall_not_mem.2 fun q hq => by have := h.lt q hq; omega
    exact ⟨.nil, fun _ h => (by cases h), fun j => by rw [hq]; simp [wkRun]⟩
  | f + 1, m, (S, []), h, hf, _ => ⟨.nil, fun _ h => (by cases h), fun j => by simp [wkRun]⟩
  | f + 1, m, (S, c :: Q), h, hf, hm => by
    have hc : c < m := h.lt c (List.mem_cons_self ..)
    have hrow : ∀ p ∈ rowOf g c, 0 ≤ p ∧ p < c := fun p hp => ⟨(row_good hg hp).1, (row_good hg hp).2.1⟩
    obtain ⟨h1, h2, _⟩ := h.pop.addAll hrow (by omega)
    obtain ⟨k1, k2, k3⟩ := wkRun_spec hg f c _ h1 (by omega) (by omega)
    rw [wkRun_pop]
    refine ⟨List.pairwise_cons.2 ⟨k2, k1⟩, fun j hj => ?_, fun j => ?_⟩
    · rcases List.mem_cons.1 hj with rfl | hj
      · exact hc
      · have := k2 j hj; omega
    · rw [List.mem_cons, k3]
      constructor
      · rintro (rfl | ⟨q, hq, hr⟩)
        · exact ⟨j, List.mem_cons_self .., .refl _⟩
        · rcases (h2 q).1 hq with hq | hq
          · exact ⟨q, List.mem_cons_of_mem _ hq, hr⟩
          · exact ⟨c, List.mem_cons_self .., .step hq hr⟩
      · rintro ⟨q, hq, hr⟩
        rcases List.mem_cons.1 hq with rfl | hq
        · cases hr with
          | refl => exact .inl rfl
          | step hp hr => exact .inr ⟨_, (h2 _).2 (.inr hp), hr⟩
        · exact .inr ⟨q, (h2 q).2 (.inl hq), hr⟩
def inRng (n : Nat) (l : List Int) : List Int := l.filter fun p => decide (0 ≤ p) && decide (p < n)
theorem inRng_mem {n : Nat} {l : List Int} {p : Int} : p ∈ inRng n l ↔ p ∈ l ∧ 0 ≤ p ∧ p < n := by unfold inRng; rw [List.mem_filter]; simp
theorem addAll_rng {n : Nat} : ∀ {l : List Int} {s : Wk}, addAll n s l = addAll n s (inRng n l)
  | [], _ => rfl
  | c :: l, s => by
    unfold inRng
    rw [List.filter_cons]
    split
    · exact addAll_rng (l := l) (s := addW n s c)
    · rename_i h
      have e : addW n s c = s := by
        unfold addW
        rw [if_neg]
        intro h2
        apply h
        simp only [Bool.and_eq_true] at h2 ⊢
        exact ⟨h2.1, h2.2.1⟩
      show addAll n (addW n s c) l = _
      rw [e]
      exact addAll_rng (l := l) (s := s)
/-- all that is reached from some, falling -/
theorem wk_start {n : Nat} (l : List Int) : WkI n n (addAll n (fun _ => false, []) l) ∧ ∀ k, k ∈ (addAll n (fun _ => false, []) l).2 ↔ (k : Int) ∈ inRng n l := by
  rw [addAll_rng]
  obtain ⟨h1, h2, _⟩ := (WkI.start n).addAll (l := inRng n l) (fun p hp => (inRng_mem.1 hp).2) (Nat.le_refl _)
  exact ⟨h1, fun k => by rw [h2]; simp⟩
def downL (g : List (List Int)) (l : List Int) : List Nat := wkRun (rowOf g) g.length g.length (addAll g.length (fun _ => false, []) l)
theorem downL_spec {g : List (List Int)} (hg : Good g) (l : List Int) : Falls (downL g l) ∧ (∀ j ∈ downL g l, j < g.length) ∧ ∀ j, j ∈ downL g l ↔ ∃ q : Nat, (q : Int) ∈ inRng g.length l ∧ Reach g q j := by
  obtain ⟨h1, h2⟩ := wk_start (n := g.length) l
  obtain ⟨k1, k2, k3⟩ := wkRun_spec hg g.length g.length _ h1 (Nat.le_refl _) (Nat.le_refl _)
  exact ⟨k1, k2, fun j => by rw [downL, k3]; exact ⟨fun ⟨q, a, b⟩ => ⟨q, (h2 q).1 a, b⟩, fun ⟨q, a, b⟩ => ⟨q, (h2 q).2 a, b⟩⟩⟩
end SX
namespace SX
open Go
class TIface (P : Program) (t : TypeId) : Prop where
  und : ∃ ms, P.underlying t = some (.interface ms)
section
variable {P : Program} {env : Env}
theorem eqGuard_if {t d : TypeId} {v u : Value} : ∀ op X Y w, (eqGuard op t X Y (.iface d v) u).run P w = .ok () w := fun op X Y w => by
  cases op <;> rfl
theorem pu_if_eq_nil {t u d : TypeId} {v : Value} [h : TIface P t] {x y : Operand} (hx : evalE env x = some (.iface d v)) (hy : evalE env y = some .nilIface) : Pu P env (.binOp .eql t x y u) (.bool false) := by
  obtain ⟨e, he⟩ := h.und
  exact pu_eq_of hx hy eqGuard_if rfl (fun d w => by simp [Op.equalIn, run_underlying he])
end
end SX
namespace SX
end SX
namespace SX

/-- a paint: 0 none, 1 left, 2 right, 3 both, 7 stale (both, and by way of a base) -/
def isV (v : Nat) : Prop := v = 0 ∨ v = 1 ∨ v = 2 ∨ v = 3 ∨ v = 7
theorem isV.or {a b : Nat} (ha : isV a) (hb : isV b) : isV (a ||| b) := by
  rcases ha with rfl | rfl | rfl | rfl | rfl <;> rcases hb with rfl | rfl | rfl | rfl | rfl <;> (unfold isV; decide)
theorem isV.lt {a : Nat} (h : isV a) : a < 8 := by rcases h with rfl | rfl | rfl | rfl | rfl <;> decide
/-- what goes on to the parents -/
def pOut (v : Nat) : Nat := if v = 3 then 7 else v
theorem isV.out {a : Nat} (h : isV a) : isV (pOut a) := by rcases h with rfl | rfl | rfl | rfl | rfl <;> (unfold isV pOut; decide)
theorem pOut_ne {a : Nat} (h : a ≠ 0) : pOut a ≠ 0 := by unfold pOut; split <;> omega
def stepP (g : List (List Int)) (c : Nat) (P : Nat → Nat) : Nat → Nat := fun j => if (j : Int) ∈ rowOf g c then P j ||| pOut (P c) else P j
def pF (g : List (List Int)) : Nat → (Nat → Nat) → (Nat → Nat)
  | 0, P => P
  | c + 1, P => pF g c (stepP g c P)
def seedP (l r : List Int) : Nat → Nat := fun j => (if (j : Int) ∈ l then 1 else 0) ||| (if (j : Int) ∈ r then 2 else 0)
theorem seedP_V (l r : List Int) (j : Nat) : isV (seedP l r j) := by unfold seedP isV; split <;> split <;> decide
theorem stepP_V {g : List (List Int)} {c : Nat} {P : Nat → Nat} (h : ∀ j, isV (P j)) (j : Nat) : isV (stepP g c P j) := by
  unfold stepP
  split
  · exact (h j).or (h c).out
  · exact h j
theorem stepP_zero {g : List (List Int)} {c : Nat} {P : Nat → Nat} (h : P c = 0) : stepP g c P = P := by
  funext j
  unfold stepP
  rw [h]
  split
  · show P j ||| 0 = P j
    exact Nat.or_zero _
  · rfl
theorem stepP_ge {g : List (List Int)} (hg : Good g) {c : Nat} {P : Nat → Nat} {j : Nat} (h : c ≤ j) : stepP g c P j = P j := by
  unfold stepP
  rw [if_neg]
  intro hj
  have := row_good hg hj
  omega
theorem pF_ge {g : List (List Int)} (hg : Good g) : ∀ {m : Nat} {P : Nat → Nat} {j : Nat}, m ≤ j → pF g m P j = P j
  | 0, _, _, _ => rfl
  | m + 1, P, j, h => by
    show pF g m (stepP g m P) j = _
    rw [pF_ge hg (by omega), stepP_ge hg (by omega)]
theorem pF_V {g : List (List Int)} : ∀ {m : Nat} {P : Nat → Nat}, (∀ j, isV (P j)) → ∀ j, isV (pF g m P j)
  | 0, _, h => h
  | m + 1, P, h => by
    show ∀ j, isV (pF g m (stepP g m P) j)
    exact pF_V (stepP_V h)
theorem pF_skip {g : List (List Int)} {P : Nat → Nat} {c : Nat} : ∀ {m : Nat}, c ≤ m → (∀ i, c ≤ i → i < m → P i = 0) → pF g m P = pF g c P
  | 0, h, _ => by obtain rfl : c = 0 := by omega
                  rfl
  | m + 1, h, hz => by
    by_cases e : c = m + 1
    · rw [e]
    · show pF g m (stepP g m P) = _
      rw [stepP_zero (hz m (by omega) (by omega))]
      exact pF_skip (by omega) fun i h1 h2 => hz i h1 (by omega)
theorem pF_pop {g : List (List Int)} {P : Nat → Nat} {m c : Nat} (hc : c < m) (hz : ∀ i, c < i → i < m → P i = 0) : pF g m P = pF g c (stepP g c P) := by
  rw [pF_skip (c := c + 1) (by omega) (fun i h1 h2 => hz i (by omega) h2)]; rfl
/-- where all that is to come is stale it stays so -/
theorem pF_stale {g : List (List Int)} : ∀ {m : Nat} {P : Nat → Nat}, (∀ j, isV (P j)) → (∀ k, k < m → P k = 0 ∨ P k = 7) → ∀ k, k < m → pF g m P k = 0 ∨ pF g m P k = 7
  | 0, _, _, _, k, h => by omega
  | m + 1, P, hV, hP, k, hk => by
    show pF g m (stepP g m P) k = 0 ∨ pF g m (stepP g m P) k = 7
    have h1 : ∀ j, (P j = 0 ∨ P j = 7) → stepP g m P j = 0 ∨ stepP g m P j = 7 := fun j hj => by
      unfold stepP
      split
      · rcases hP m (by omega) with h | h <;> rcases hj with e | e <;> rw [h, e] <;> decide
      · exact hj
    have h2 : ∀ (m' : Nat) (Q : Nat → Nat), (∀ j, j < m' → Q j = 0 ∨ Q j = 7) → ∀ j, (Q j = 0 ∨ Q j = 7) → pF g m' Q j = 0 ∨ pF g m' Q j = 7 := fun m' => by
      induction m' with
      | zero => exact fun Q _ j hj => hj
      | succ m' ih =>
        intro Q hQ j hj
        have h3 : ∀ j, (Q j = 0 ∨ Q j = 7) → stepP g m' Q j = 0 ∨ stepP g m' Q j = 7 := fun j hj => by
          unfold stepP
          split
          · rcases hQ m' (by omega) with h | h <;> rcases hj with e | e <;> rw [h, e] <;> decide
          · exact hj
        exact ih (stepP g m' Q) (fun i hi => h3 i (hQ i (by omega))) j (h3 j hj)
    exact h2 m (stepP g m P) (fun j hj => h1 j (hP j (by omega))) k (h1 k (hP k hk))

/-! the three bits -/
def isL (v : Nat) : Bool := v == 1 || v == 3 || v == 7
def isR (v : Nat) : Bool := v == 2 || v == 3 || v == 7
theorem bit_or {a b : Nat} (ha : isV a) (hb : isV b) : isL (a ||| b) = (isL a || isL b) ∧ isR (a ||| b) = (isR a || isR b) ∧ (a ||| b == 7) = (a == 7 || b == 7) := by
  rcases ha with rfl | rfl | rfl | rfl | rfl <;> rcases hb with rfl | rfl | rfl | rfl | rfl <;> decide
theorem bit_out {a : Nat} (ha : isV a) : isL (pOut a) = isL a ∧ isR (pOut a) = isR a ∧ (pOut a == 7) = (isL a && isR a) := by
  rcases ha with rfl | rfl | rfl | rfl | rfl <;> decide
theorem bit_three {a : Nat} (ha : isV a) : (a = 3) ↔ (isL a && isR a) = true ∧ (a == 7) = false := by
  rcases ha with rfl | rfl | rfl | rfl | rfl <;> decide
theorem pF_L {g : List (List Int)} : ∀ {m : Nat} {P : Nat → Nat}, (∀ j, isV (P j)) → (fun j => isL (pF g m P j)) = upF g m (fun j => isL (P j))
  | 0, _, _ => rfl
  | m + 1, P, h => by
    show (fun j => isL (pF g m (stepP g m P) j)) = upF g m (stepUp g m fun j => isL (P j))
    rw [pF_L (stepP_V h)]
    congr 1
    funext j
    unfold stepP stepUp
    split
    · rename_i hj
      rw [(bit_or (h j) (h m).out).1, (bit_out (h m)).1, decide_eq_true hj, Bool.and_true]
    · rename_i hj
      rw [decide_eq_false hj, Bool.and_false, Bool.or_false]
theorem pF_R {g : List (List Int)} : ∀ {m : Nat} {P : Nat → Nat}, (∀ j, isV (P j)) → (fun j => isR (pF g m P j)) = upF g m (fun j => isR (P j))
  | 0, _, _ => rfl
  | m + 1, P, h => by
    show (fun j => isR (pF g m (stepP g m P) j)) = upF g m (stepUp g m fun j => isR (P j))
    rw [pF_R (stepP_V h)]
    congr 1
    funext j
    unfold stepP stepUp
    split
    · rename_i hj
      rw [(bit_or (h j) (h m).out).2.1, (bit_out (h m)).2.1, decide_eq_true hj, Bool.and_true]
    · rename_i hj
      rw [decide_eq_false hj, Bool.and_false, Bool.or_false]
theorem pF_T {g : List (List Int)} (hg : Good g) : ∀ {m : Nat} {P : Nat → Nat}, (∀ j, isV (P j)) → ∀ j, (pF g m P j == 7) = true ↔ (P j == 7) = true ∨ ∃ c, c < m ∧ (j : Int) ∈ rowOf g c ∧ (isL (pF g m P c) && isR (pF g m P c)) = true
  | 0, _, _, j => ⟨.inl, fun h => h.resolve_right (by rintro ⟨c, h, _⟩; omega)⟩
  | m + 1, P, h, j => by
    show (pF g m (stepP g m P) j == 7) = true ↔ _
    rw [pF_T hg (stepP_V h) j]
    have e0 : ∀ c, pF g (m + 1) P c = pF g m (stepP g m P) c := fun _ => rfl
    have em : pF g m (stepP g m P) m = P m := by rw [pF_ge hg (Nat.le_refl _), stepP_ge hg (Nat.le_refl _)]
    have e1 : (stepP g m P j == 7) = true ↔ (P j == 7) = true ∨ ((j : Int) ∈ rowOf g m ∧ (isL (P m) && isR (P m)) = true) := by
      unfold stepP
      split
      · rename_i hj
        rw [(bit_or (h j) (h m).out).2.2, (bit_out (h m)).2.2, Bool.or_eq_true]
        exact ⟨fun h => h.imp id fun h => ⟨hj, h⟩, fun h => h.imp id fun h => h.2⟩
      · rename_i hj
        exact ⟨.inl, fun h => h.resolve_right fun h => hj h.1⟩
    rw [e1]
    constructor
    · rintro ((h1 | ⟨h1, h2⟩) | ⟨c, hc, h1, h2⟩)
      · exact .inl h1
      · exact .inr ⟨m, by omega, h1, by rw [e0, em]; exact h2⟩
      · exact .inr ⟨c, by omega, h1, by rw [e0]; exact h2⟩
    · rintro (h1 | ⟨c, hc, h1, h2⟩)
      · exact .inl (.inl h1)
      · by_cases e : c = m
        · subst e
          rw [e0, em] at h2
          exact .inl (.inr ⟨h1, h2⟩)
        · exact .inr ⟨c, by omega, h1, by rw [e0] at h2; exact h2⟩
/-- what is reached from both sides -/
def bothS (g : List (List Int)) (l r : List Int) : Nat → Bool := fun j => anyUp g g.length l j && anyUp g g.length r j
theorem seed_L (l r : List Int) : (fun j => isL (seedP l r j)) = seedS l := funext fun j => by
  unfold seedP seedS
  by_cases h1 : (j : Int) ∈ l <;> by_cases h2 : (j : Int) ∈ r <;> simp [h1, h2, isL]
theorem seed_R (l r : List Int) : (fun j => isR (seedP l r j)) = seedS r := funext fun j => by
  unfold seedP seedS
  by_cases h1 : (j : Int) ∈ l <;> by_cases h2 : (j : Int) ∈ r <;> simp [h1, h2, isR]
theorem seed_T (l r : List Int) (j : Nat) : (seedP l r j == 7) = false := by
  unfold seedP
  by_cases h1 : (j : Int) ∈ l <;> by_cases h2 : (j : Int) ∈ r <;> simp [h1, h2]
theorem paint_best {g : List (List Int)} (hg : Good g) (l r : List Int) (j : Nat) : pF g g.length (seedP l r) j = 3 ↔ bestT g (bothS g l r) g.length j = true := by
  have hV := seedP_V l r
  have eb : ∀ c, (isL (pF g g.length (seedP l r) c) && isR (pF g g.length (seedP l r) c)) = bothS g l r c := fun c => by
    have e1 := congrFun (pF_L (g := g) (m := g.length) hV) c
    have e2 := congrFun (pF_R (g := g) (m := g.length) hV) c
    rw [seed_L] at e1
    rw [seed_R] at e2
    unfold bothS anyUp
    rw [← e1, ← e2]
  rw [bit_three (pF_V hV j), eb, best_iff]
  refine and_congr Iff.rfl ?_
  rw [← Bool.not_eq_true, pF_T hg hV, seed_T]
  constructor
  · intro h y hy h1 h2
    exact h (.inr ⟨y, hy, h2, by rw [eb]; exact h1⟩)
  · rintro h (h1 | ⟨c, hc, h1, h2⟩)
    · cases h1
    · rw [eb] at h2
      exact h c hc h2 h1

/-! the walk -/
abbrev PS := (Nat → Nat) × List Nat
def addP (s : PS) (c v : Nat) : PS := (fun j => if j = c then s.1 j ||| v else s.1 j, if s.1 c = 0 then insD c s.2 else s.2)
/-- how many in the queue are not stale -/
def frP (s : PS) : Nat := (s.2.filter fun k => decide (s.1 k < 4)).length
structure PI (n m : Nat) (s : PS) : Prop where
  falls : Falls s.2
  lt : ∀ q ∈ s.2, q < m
  seen : ∀ k, k < m → (s.1 k ≠ 0 ↔ k ∈ s.2)
  val : ∀ k, isV (s.1 k)
  top : ∀ k, n ≤ k → s.1 k = 0
theorem PI.add {n m : Nat} {s : PS} {c v : Nat} (h : PI n m s) (hc : c < m) (hm : m ≤ n) (hv : isV v) (h0 : v ≠ 0) : PI n m (addP s c v) := by
  have hne : s.1 c ||| v ≠ 0 := by
    have := h.val c
    rcases this with e | e | e | e | e <;> rcases hv with rfl | rfl | rfl | rfl | rfl <;> rw [e] <;> first | decide | exact absurd rfl h0
  refine ⟨?_, fun q hq => ?_, fun k hk => ?_, fun k => ?_, fun k hk => ?_⟩
  · show Falls (if s.1 c = 0 then insD c s.2 else s.2)
    split
    · rename_i h1
      exact insD_falls h.falls fun hq => (h.seen c hc).2 hq h1
    · exact h.falls
  · replace hq : q ∈ (if s.1 c = 0 then insD c s.2 else s.2) := hq
    split at hq
    · rcases mem_insD.1 hq with rfl | hq
      · exact hc
      · exact h.lt q hq
    · exact h.lt q hq
  · show (if k = c then s.1 k ||| v else s.1 k) ≠ 0 ↔ k ∈ (if s.1 c = 0 then insD c s.2 else s.2)
    by_cases e : k = c
    · subst e
      rw [if_pos rfl]
      refine ⟨fun _ => ?_, fun _ => hne⟩
      split
      · exact mem_insD.2 (.inl rfl)
      · rename_i h1; exact (h.seen k hk).1 h1
    · rw [if_neg e, h.seen k hk]
      split
      · rw [mem_insD]; exact ⟨.inr, fun h => h.resolve_left e⟩
      · rfl
  · show isV (if k = c then s.1 k ||| v else s.1 k)
    split
    · exact (h.val k).or hv
    · exact h.val k
  · show (if k = c then s.1 k ||| v else s.1 k) = 0
    rw [if_neg (by omega)]; exact h.top k hk
theorem filt_insD (p : Nat → Bool) (c : Nat) : ∀ l : List Nat, ((insD c l).filter p).length = (l.filter p).length + if p c = true then 1 else 0
  | [] => by unfold insD; rw [List.filter_cons]; split <;> simp
  | y :: l => by
    unfold insD
    split
    · rw [List.filter_cons (x := c)]
      split <;> simp
    · rw [List.filter_cons, List.filter_cons]
      have := filt_insD p c l
      split
      · rw [List.length_cons, this, List.length_cons]; omega
      · exact this
theorem filt_change {l : List Nat} (h : Falls l) {c : Nat} {p q : Nat → Bool} (hpq : ∀ k, k ≠ c → p k = q k) (hc : c ∈ l) (hp : p c = false) (hq : q c = true) : (l.filter q).length = (l.filter p).length + 1 := by
  induction l with
  | nil => cases hc
  | cons y l ih =>
    obtain ⟨h1, h2⟩ := List.pairwise_cons.1 h
    rw [List.filter_cons, List.filter_cons]
    by_cases e : y = c
    · subst e
      rw [if_pos hq, if_neg (by rw [hp]; exact Bool.false_ne_true), List.length_cons, List.filter_congr fun k hk => (hpq k (fun e => by have := h1 k hk; omega)).symm]
    · rw [hpq y e]
      have hc' : c ∈ l := (List.mem_cons.1 hc).resolve_left (fun h => e h.symm)
      have := ih h2 hc'
      split
      · rw [List.length_cons, List.length_cons, this]
      · exact this
theorem filt_same {l : List Nat} {c : Nat} {p q : Nat → Bool} (hpq : ∀ k, k ≠ c → p k = q k) (h : p c = q c) : (l.filter p).length = (l.filter q).length := by
  refine congrArg List.length (List.filter_congr fun k _ => ?_)
  by_cases e : k = c
  · rw [e]; exact h
  · exact hpq k e
/-- was it there and not stale; is it now -/
def pWas (s : PS) (c : Nat) : Bool := decide (s.1 c ≠ 0) && decide (s.1 c < 4)
def pIs (s : PS) (c v : Nat) : Bool := decide (s.1 c ||| v < 4)
theorem frP_add {n m : Nat} {s : PS} {c v : Nat} (h : PI n m s) (hc : c < m) (_hv : isV v) :
    (pIs s c v = true → pWas s c = false → frP (addP s c v) = frP s + 1) ∧ (pIs s c v = false → pWas s c = true → frP s = frP (addP s c v) + 1) ∧ (pIs s c v = pWas s c → frP (addP s c v) = frP s) := by
  have hP : ∀ k, k ≠ c → decide (s.1 k < 4) = decide ((addP s c v).1 k < 4) := fun k hk => by
    show _ = decide ((if k = c then s.1 k ||| v else s.1 k) < 4)
    rw [if_neg hk]
  have hPc : (addP s c v).1 c = s.1 c ||| v := if_pos rfl
  have hpc : decide ((addP s c v).1 c < 4) = pIs s c v := by rw [hPc]; rfl
  by_cases h0 : s.1 c = 0
  · have hq : (addP s c v).2 = insD c s.2 := if_pos h0
    have hw : pWas s c = false := by unfold pWas; rw [h0]; rfl
    have hcq : c ∉ s.2 := fun hm => (h.seen c hc).2 hm h0
    have e1 : frP (addP s c v) = frP s + if pIs s c v = true then 1 else 0 := by
      unfold frP
      rw [hq, filt_insD, hpc]
      congr 1
      rw [List.filter_congr fun k hk => (hP k (fun e => hcq (e ▸ hk))).symm]
    rw [hw]
    refine ⟨fun h1 _ => (by rw [e1, if_pos h1]), fun _ h2 => (by cases h2), fun h1 => (by rw [e1, if_neg (by rw [h1]; exact Bool.false_ne_true)]; rfl)⟩
  · have hq : (addP s c v).2 = s.2 := if_neg h0
    have hcq : c ∈ s.2 := (h.seen c hc).1 h0
    have hw : pWas s c = decide (s.1 c < 4) := by unfold pWas; rw [decide_eq_true h0, Bool.true_and]
    have h7 : pIs s c v = true → pWas s c = true := fun h1 => by
      rw [hw]
      unfold pIs at h1
      have h1 := of_decide_eq_true h1
      have hle : s.1 c ≤ s.1 c ||| v := Nat.left_le_or
      exact decide_eq_true (by omega)
    refine ⟨fun h1 h2 => (by rw [h7 h1] at h2; cases h2), fun h1 h2 => ?_, fun h1 => ?_⟩
    · unfold frP
      rw [hq]
      exact filt_change h.falls (p := fun k => decide ((addP s c v).1 k < 4)) (q := fun k => decide (s.1 k < 4)) (fun k hk => (hP k hk).symm) hcq (by rw [hpc]; exact h1) (by rw [← hw]; exact h2)
    · unfold frP
      rw [hq]
      exact filt_same (c := c) (fun k hk => (hP k hk).symm) (by rw [hpc, h1, hw])
def addRow (v : Nat) (s : PS) (l : List Int) : PS := l.foldl (fun s p => addP s p.toNat v) s
theorem addRow_succ {v : Nat} {s : PS} {l : List Int} {i : Nat} {c : Int} (h : l[i]? = some c) : addRow v s (l.take (i + 1)) = addP (addRow v s (l.take i)) c.toNat v := by
  unfold addRow
  rw [List.take_add_one, h, List.foldl_append]; rfl
theorem PI.addRow {n m v : Nat} (hm : m ≤ n) (hv : isV v) (h0 : v ≠ 0) : ∀ {l : List Int} {s : PS}, PI n m s → (∀ p ∈ l, 0 ≤ p ∧ p < m) → PI n m (addRow v s l) ∧ ∀ j, (SX.addRow v s l).1 j = if (j : Int) ∈ l then s.1 j ||| v else s.1 j
  | [], s, h, _ => ⟨h, fun j => by simp [SX.addRow]⟩
  | c :: l, s, h, hl => by
    have hc := hl c (List.mem_cons_self ..)
    obtain ⟨k, rfl⟩ : ∃ k : Nat, c = k := ⟨c.toNat, by omega⟩
    have h1 := h.add (c := k) (v := v) (by omega) hm hv h0
    obtain ⟨k1, k2⟩ := PI.addRow hm hv h0 h1 (fun p hp => hl p (List.mem_cons_of_mem _ hp))
    have e : SX.addRow v s ((k : Int) :: l) = SX.addRow v (addP s k v) l := rfl
    rw [e]
    refine ⟨k1, fun j => ?_⟩
    rw [k2]
    show (if (j : Int) ∈ l then (if j = k then s.1 j ||| v else s.1 j) ||| v else if j = k then s.1 j ||| v else s.1 j) = _
    by_cases e1 : j = k
    · subst e1
      rw [if_pos rfl, if_pos (List.mem_cons_self ..), Nat.or_assoc, Nat.or_self, ite_self]
    · rw [if_neg e1]
      have : ((j : Int) ∈ (k : Int) :: l) ↔ (j : Int) ∈ l := by rw [List.mem_cons]; exact ⟨fun h => h.resolve_left (by omega), .inr⟩
      simp only [this]
theorem PI.start (n : Nat) : PI n n (fun _ => 0, []) := ⟨.nil, fun _ h => (by cases h), fun k _ => ⟨fun h => absurd rfl h, fun h => (by cases h)⟩, fun _ => .inl rfl, fun _ _ => rfl⟩
theorem PI.pop {n m c : Nat} {P : Nat → Nat} {Q : List Nat} (h : PI n m (P, c :: Q)) : PI n c (P, Q) := by
  obtain ⟨h1, h2⟩ := List.pairwise_cons.1 h.falls
  refine ⟨h2, fun q hq => h1 q hq, fun k hk => ?_, h.val, h.top⟩
  have hc := h.lt c (List.mem_cons_self ..)
  refine (h.seen k (by omega)).trans ?_
  show k ∈ c :: Q ↔ k ∈ Q
  rw [List.mem_cons]
  exact ⟨fun h => h.resolve_left (by omega), .inr⟩
/-- the walk as a whole: at the head of a round -/
structure PW (g : List (List Int)) (l r : List Int) (m : Nat) (s : PS) (F : Nat → Bool) : Prop where
  pi : PI g.length m s
  le : m ≤ g.length
  fin : pF g g.length (seedP l r) = pF g m s.1
  found : ∀ k, F k = (decide (m ≤ k) && decide (s.1 k = 3))
/-- a round: c comes out -/
theorem PW.step {g : List (List Int)} (hg : Good g) {l r : List Int} {m c : Nat} {P : Nat → Nat} {Q : List Nat} {F : Nat → Bool} (h : PW g l r m (P, c :: Q) F) :
    PI g.length c (P, Q) ∧ P c ≠ 0 ∧ c < m ∧ PW g l r c (addRow (pOut (P c)) (P, Q) (rowOf g c)) (fun k => F k || (decide (P c = 3) && decide (k = c))) := by
  have hcm : c < m := h.pi.lt c (List.mem_cons_self ..)
  have hPc : P c ≠ 0 := (h.pi.seen c hcm).2 (List.mem_cons_self ..)
  have h1 := h.pi.pop
  have hrow : ∀ p ∈ rowOf g c, 0 ≤ p ∧ p < c := fun p hp => ⟨(row_good hg hp).1, (row_good hg hp).2.1⟩
  have hle := h.le
  obtain ⟨k1, k2⟩ := PI.addRow (v := pOut (P c)) (by omega) (h.pi.val c).out (pOut_ne hPc) h1 hrow
  have hfun : (addRow (pOut (P c)) (P, Q) (rowOf g c)).1 = stepP g c P := funext fun j => k2 j
  have hz : ∀ i, c < i → i < m → P i = 0 := fun i h2 h3 => by
    by_cases e : P i = 0
    · exact e
    · have := (h.pi.seen i h3).1 e
      rcases List.mem_cons.1 this with rfl | hi
      · omega
      · have := (List.pairwise_cons.1 h.pi.falls).1 i hi; omega
  refine ⟨h1, hPc, hcm, k1, by omega, ?_, fun k => ?_⟩
  · rw [hfun, h.fin]; exact pF_pop hcm hz
  · rw [hfun, h.found]
    show (decide (m ≤ k) && decide (P k = 3) || (decide (P c = 3) && decide (k = c))) = (decide (c ≤ k) && decide (stepP g c P k = 3))
    by_cases e : c ≤ k
    · rw [stepP_ge hg e, decide_eq_true e, Bool.true_and]
      by_cases e1 : k = c
      · subst e1
        rw [decide_eq_false (show ¬ m ≤ k by omega), Bool.false_and, Bool.false_or, decide_eq_true (rfl : k = k), Bool.and_true]
      · rw [decide_eq_false e1, Bool.and_false, Bool.or_false]
        by_cases e2 : m ≤ k
        · rw [decide_eq_true e2, Bool.true_and]
        · rw [hz k (by omega) (by omega)]; simp
    · rw [decide_eq_false e, decide_eq_false (show ¬ m ≤ k by omega), decide_eq_false (show ¬ k = c by omega)]; simp
/-- it ends where none is fresh -/
theorem PW.done {g : List (List Int)} (hg : Good g) {l r : List Int} {m : Nat} {s : PS} {F : Nat → Bool} (h : PW g l r m s F) (h0 : frP s = 0) : ∀ k, F k = bestT g (bothS g l r) g.length k := by
  intro k
  have hall : ∀ q ∈ s.2, ¬ s.1 q < 4 := fun q hq hlt => by
    have : s.2.filter (fun k => decide (s.1 k < 4)) = [] := List.eq_nil_of_length_eq_zero h0
    have hm : q ∈ s.2.filter fun k => decide (s.1 k < 4) := List.mem_filter.2 ⟨hq, decide_eq_true hlt⟩
    rw [this] at hm; cases hm
  have hst : ∀ k, k < m → s.1 k = 0 ∨ s.1 k = 7 := fun k hk => by
    by_cases e : s.1 k = 0
    · exact .inl e
    · have h1 := hall k ((h.pi.seen k hk).1 e)
      rcases h.pi.val k with h2 | h2 | h2 | h2 | h2
      · exact .inl h2
      · omega
      · omega
      · omega
      · exact .inr h2
  rw [Bool.eq_iff_iff, ← paint_best hg, h.fin, h.found]
  by_cases e : m ≤ k
  · rw [decide_eq_true e, Bool.true_and, pF_ge hg e, decide_eq_true_eq]
  · rw [decide_eq_false e, Bool.false_and]
    have := pF_stale (g := g) h.pi.val hst k (by omega)
    constructor
    · intro h; cases h
    · intro h2; rcases this with h1 | h1 <;> rw [h1] at h2 <;> cases h2
/-- as long as one is fresh the queue isn't empty -/
theorem frP_pos {s : PS} (h : 0 < frP s) : ∃ c Q, s.2 = c :: Q := by
  cases hs : s.2 with
  | nil => unfold frP at h; rw [hs] at h; simp at h
  | cons c Q => exact ⟨c, Q, rfl⟩
theorem frP_pop {P : Nat → Nat} {c : Nat} {Q : List Nat} : frP (P, c :: Q) = frP (P, Q) + if P c < 4 then 1 else 0 := by
  unfold frP
  show (List.filter _ (c :: Q)).length = _
  rw [List.filter_cons]
  by_cases h : P c < 4
  · rw [if_pos (decide_eq_true h), if_pos h]; rfl
  · rw [if_neg (by rw [decide_eq_false h]; exact Bool.false_ne_true), if_neg h]; rfl
theorem frP_le {n m : Nat} {s : PS} (h : PI n m s) : frP s ≤ m := by
  have h1 := falls_len h.falls h.lt
  have h2 : frP s ≤ s.2.length := List.length_filter_le ..
  omega
/-- the two lists are laid in -/
theorem seed_add {n : Nat} {l r : List Int} (hl : ∀ p ∈ l, 0 ≤ p ∧ p < n) (hr : ∀ p ∈ r, 0 ≤ p ∧ p < n) : (addRow 2 (addRow 1 (fun _ => 0, []) l) r).1 = seedP l r ∧ PI n n (addRow 2 (addRow 1 (fun _ => 0, []) l) r) := by
  obtain ⟨h1, h2⟩ := PI.addRow (v := 1) (Nat.le_refl n) (by unfold isV; decide) (by decide) (PI.start n) hl
  obtain ⟨h3, h4⟩ := PI.addRow (v := 2) (Nat.le_refl n) (by unfold isV; decide) (by decide) h1 hr
  refine ⟨funext fun j => ?_, h3⟩
  rw [h4, h2]
  unfold seedP
  by_cases e1 : (j : Int) ∈ l <;> by_cases e2 : (j : Int) ∈ r <;> simp [e1, e2]
theorem PW.start {g : List (List Int)} {l r : List Int} (hl : ∀ p ∈ l, 0 ≤ p ∧ p < g.length) (hr : ∀ p ∈ r, 0 ≤ p ∧ p < g.length) : PW g l r g.length (addRow 2 (addRow 1 (fun _ => 0, []) l) r) (fun _ => false) := by
  obtain ⟨h1, h2⟩ := seed_add hl hr
  refine ⟨h2, Nat.le_refl _, by rw [h1], fun k => ?_⟩
  by_cases e : g.length ≤ k
  · rw [h2.top k e]; simp
  · rw [decide_eq_false e]; rfl
end SX
namespace SX
open Go

section
variable {P : Program} {env : Env} {L : List Assn}
end
end SX
namespace SX
/-- what painting a commit needs -/
structure PC (n c : Nat) (s : PS) : Prop where
  falls : Falls s.2
  lt : ∀ q ∈ s.2, q < n
  seen : s.1 c ≠ 0 ↔ c ∈ s.2
  val : ∀ k, isV (s.1 k)
theorem frP_leW {n : Nat} {s : PS} (h1 : Falls s.2) (h2 : ∀ q ∈ s.2, q < n) : frP s ≤ n := by
  have h1 := falls_len h1 h2
  have h2 : frP s ≤ s.2.length := List.length_filter_le ..
  omega
theorem frP_addW {n : Nat} {s : PS} {c v : Nat} (h : PC n c s) :
    (pIs s c v = true → pWas s c = false → frP (addP s c v) = frP s + 1) ∧ (pIs s c v = false → pWas s c = true → frP s = frP (addP s c v) + 1) ∧ (pIs s c v = pWas s c → frP (addP s c v) = frP s) := by
  have hP : ∀ k, k ≠ c → decide (s.1 k < 4) = decide ((addP s c v).1 k < 4) := fun k hk => by
    show _ = decide ((if k = c then s.1 k ||| v else s.1 k) < 4)
    rw [if_neg hk]
  have hPc : (addP s c v).1 c = s.1 c ||| v := if_pos rfl
  have hpc : decide ((addP s c v).1 c < 4) = pIs s c v := by rw [hPc]; rfl
  by_cases h0 : s.1 c = 0
  · have hq : (addP s c v).2 = insD c s.2 := if_pos h0
    have hw : pWas s c = false := by unfold pWas; rw [h0]; rfl
    have hcq : c ∉ s.2 := fun hm => h.seen.2 hm h0
    have e1 : frP (addP s c v) = frP s + if pIs s c v = true then 1 else 0 := by
      unfold frP
      rw [hq, filt_insD, hpc]
      congr 1
      rw [List.filter_congr fun k hk => (hP k (fun e => hcq (e ▸ hk))).symm]
    rw [hw]
    refine ⟨fun h1 _ => (by rw [e1, if_pos h1]), fun _ h2 => (by cases h2), fun h1 => (by rw [e1, if_neg (by rw [h1]; exact Bool.false_ne_true)]; rfl)⟩
  · have hq : (addP s c v).2 = s.2 := if_neg h0
    have hcq : c ∈ s.2 := h.seen.1 h0
    have hw : pWas s c = decide (s.1 c < 4) := by unfold pWas; rw [decide_eq_true h0, Bool.true_and]
    have h7 : pIs s c v = true → pWas s c = true := fun h1 => by
      rw [hw]
      unfold pIs at h1
      have h1 := of_decide_eq_true h1
      have hle : s.1 c ≤ s.1 c ||| v := Nat.left_le_or
      exact decide_eq_true (by omega)
    refine ⟨fun h1 h2 => (by rw [h7 h1] at h2; cases h2), fun h1 h2 => ?_, fun h1 => ?_⟩
    · unfold frP
      rw [hq]
      exact filt_change h.falls (p := fun k => decide ((addP s c v).1 k < 4)) (q := fun k => decide (s.1 k < 4)) (fun k hk => (hP k hk).symm) hcq (by rw [hpc]; exact h1) (by rw [← hw]; exact h2)
    · unfold frP
      rw [hq]
      exact filt_same (c := c) (fun k hk => (hP k hk).symm) (by rw [hpc, h1, hw])
/-- the painter's state: D: those that are done -/
structure WI (n : Nat) (D : Nat → Bool) (s : PS) : Prop where
  falls : Falls s.2
  lt : ∀ q ∈ s.2, q < n
  seen : ∀ k, k < n → ((s.1 k ≠ 0 ∧ D k = false) ↔ k ∈ s.2)
  val : ∀ k, isV (s.1 k)
theorem WI.pc {n : Nat} {D : Nat → Bool} {s : PS} (h : WI n D s) {c : Nat} (hc : c < n) (hd : D c = false) : PC n c s :=
  ⟨h.falls, h.lt, ⟨fun k => (h.seen c hc).1 ⟨k, hd⟩, fun k => ((h.seen c hc).2 k).1⟩, h.val⟩
theorem WI.start (n : Nat) : WI n (fun _ => false) (fun _ => 0, []) := ⟨.nil, fun _ h => (by cases h), fun k _ => ⟨fun h => absurd rfl h.1, fun h => (by cases h)⟩, fun _ => .inl rfl⟩
theorem WI.add {n : Nat} {D : Nat → Bool} {s : PS} {c v : Nat} (h : WI n D s) (hc : c < n) (hd : D c = false) (hv : isV v) (h0 : v ≠ 0) : WI n D (addP s c v) := by
  have hne : s.1 c ||| v ≠ 0 := by
    have : v ≤ s.1 c ||| v := Nat.right_le_or
    omega
  have hs := (h.pc hc hd).seen
  refine ⟨?_, fun q hq => ?_, fun k hk => ?_, fun k => ?_⟩
  · show Falls (if s.1 c = 0 then insD c s.2 else s.2)
    split
    · rename_i h1
      exact insD_falls h.falls fun hq => hs.2 hq h1
    · exact h.falls
  · replace hq : q ∈ (if s.1 c = 0 then insD c s.2 else s.2) := hq
    split at hq
    · rcases mem_insD.1 hq with rfl | hq
      · exact hc
      · exact h.lt q hq
    · exact h.lt q hq
  · show ((if k = c then s.1 k ||| v else s.1 k) ≠ 0 ∧ D k = false) ↔ k ∈ (if s.1 c = 0 then insD c s.2 else s.2)
    by_cases e : k = c
    · subst e
      rw [if_pos rfl]
      refine ⟨fun _ => ?_, fun _ => ⟨hne, hd⟩⟩
      split
      · exact mem_insD.2 (.inl rfl)
      · rename_i h1; exact hs.1 h1
    · rw [if_neg e, h.seen k hk]
      split
      · rw [mem_insD]; exact ⟨.inr, fun h => h.resolve_left e⟩
      · rfl
  · show isV (if k = c then s.1 k ||| v else s.1 k)
    split
    · exact (h.val k).or hv
    · exact h.val k
theorem WI.pop {n c : Nat} {D : Nat → Bool} {P : Nat → Nat} {Q : List Nat} (h : WI n D (P, c :: Q)) : c < n ∧ D c = false ∧ P c ≠ 0 ∧ WI n (fun j => D j || decide (j = c)) (P, Q) := by
  obtain ⟨h1, h2⟩ := List.pairwise_cons.1 h.falls
  have hc := h.lt c (List.mem_cons_self ..)
  obtain ⟨k1, k2⟩ := (h.seen c hc).2 (List.mem_cons_self ..)
  refine ⟨hc, k2, k1, h2, fun q hq => h.lt q (List.mem_cons_of_mem _ hq), fun k hk => ?_, h.val⟩
  have h3 := h.seen k hk
  by_cases e : k = c
  · subst e
    refine ⟨fun ⟨_, h⟩ => ?_, fun hq => absurd (h1 k hq) (Nat.lt_irrefl _)⟩
    simp at h
  · show (P k ≠ 0 ∧ (D k || decide (k = c)) = false) ↔ k ∈ Q
    rw [decide_eq_false e, Bool.or_false]
    refine h3.trans ?_
    show k ∈ c :: Q ↔ k ∈ Q
    rw [List.mem_cons]
    exact ⟨fun h => h.resolve_left e, .inr⟩
theorem WI.addRow {n v : Nat} {D : Nat → Bool} (hv : isV v) (h0 : v ≠ 0) : ∀ {l : List Int} {s : PS}, WI n D s → (∀ p ∈ l, 0 ≤ p ∧ p < n) → (∀ k, D k = false) → WI n D (SX.addRow v s l)
  | [], _, h, _, _ => h
  | c :: l, s, h, hl, hd => by
    have hc := hl c (List.mem_cons_self ..)
    exact WI.addRow (l := l) (s := addP s c.toNat v) hv h0 (h.add (by omega) (hd _) hv h0) (fun p hp => hl p (List.mem_cons_of_mem _ hp)) hd
end SX
namespace SX
open Go
variable {P : Program} {env : Env}
/-! ### words of 32 -/
theorem ofInt_toNat32 (w : BitVec 32) : BitVec.ofInt 32 (w.toNat : Int) = w := by
  rw [← BitVec.toInt_inj, BitVec.toInt_ofInt]
  rw [BitVec.toInt_eq_toNat_bmod]
theorem wrap_word32 (w : BitVec 32) : IntKind.u32.wrap (w.toNat : Int) = w.toNat := IntWalk.u32_in _ ⟨by omega, by have := w.isLt; omega⟩
theorem run_bits32 {op : BinOp} {t u : TypeId} {x y : Operand} {a b c : BitVec 32} (hx : evalE env x = some (.int .u32 (a.toNat : Nat))) (hy : evalE env y = some (.int .u32 (b.toNat : Nat)))
    (hop : binOp op t (.int .u32 (a.toNat : Nat)) (.int .u32 (b.toNat : Nat)) = Op.intBits op .u32 a.toNat b.toNat) (hg : ∀ X Y, eqGuard op t X Y (.int .u32 (a.toNat : Nat)) (.int .u32 (b.toNat : Nat)) = pure ())
    (hc : Op.intBits op .u32 a.toNat b.toNat = pure (.int .u32 (IntKind.u32.wrap (c.toNat : Nat)))) : Pu P env (.binOp op t x y u) (.int .u32 (c.toNat : Nat)) := fun ρ hρ _ _ _ _ _ w => by
  simp only [execOp, hρ x _ hx, hρ y _ hy, Sem.run_bind, hg, Sem.run_pure, Result.andThen_ok, hop, hc, wrap_word32]
theorem pu_and_w32 {t u : TypeId} {x y : Operand} {a b : BitVec 32} (hx : evalE env x = some (.int .u32 (a.toNat : Nat))) (hy : evalE env y = some (.int .u32 (b.toNat : Nat))) : Pu P env (.binOp .and t x y u) (.int .u32 ((a &&& b).toNat : Nat)) :=
  run_bits32 hx hy (by simp [binOp]) (fun _ _ => by simp [eqGuard]) (by
    show (let a' : BitVec 32 := BitVec.ofInt 32 a.toNat; let b' : BitVec 32 := BitVec.ofInt 32 b.toNat; pure (.int .u32 (IntKind.u32.wrap (a' &&& b').toNat)) : Sem Value) = _
    rw [ofInt_toNat32, ofInt_toNat32])
theorem pu_or_w32 {t u : TypeId} {x y : Operand} {a b : BitVec 32} (hx : evalE env x = some (.int .u32 (a.toNat : Nat))) (hy : evalE env y = some (.int .u32 (b.toNat : Nat))) : Pu P env (.binOp .or t x y u) (.int .u32 ((a ||| b).toNat : Nat)) :=
  run_bits32 hx hy (by simp [binOp]) (fun _ _ => by simp [eqGuard]) (by
    show (let a' : BitVec 32 := BitVec.ofInt 32 a.toNat; let b' : BitVec 32 := BitVec.ofInt 32 b.toNat; pure (.int .u32 (IntKind.u32.wrap (a' ||| b').toNat)) : Sem Value) = _
    rw [ofInt_toNat32, ofInt_toNat32])
theorem pu_xor_w32 {t u : TypeId} {x y : Operand} {a b : BitVec 32} (hx : evalE env x = some (.int .u32 (a.toNat : Nat))) (hy : evalE env y = some (.int .u32 (b.toNat : Nat))) : Pu P env (.binOp .xor t x y u) (.int .u32 ((a ^^^ b).toNat : Nat)) :=
  run_bits32 hx hy (by simp [binOp]) (fun _ _ => by simp [eqGuard]) (by
    show (let a' : BitVec 32 := BitVec.ofInt 32 a.toNat; let b' : BitVec 32 := BitVec.ofInt 32 b.toNat; pure (.int .u32 (IntKind.u32.wrap (a' ^^^ b').toNat)) : Sem Value) = _
    rw [ofInt_toNat32, ofInt_toNat32])
theorem pu_shr_w32 {t u : TypeId} {x y : Operand} {ky : IntKind} {a : BitVec 32} (n : Nat) (hx : evalE env x = some (.int .u32 (a.toNat : Nat))) (hy : evalE env y = some (.int ky (n : Nat))) (hn : n ≤ 32) : Pu P env (.binOp .shr t x y u) (.int .u32 ((a >>> n).toNat : Nat)) := fun ρ hρ _ _ _ _ _ w => by
  have hm : min n 32 = n := Nat.min_eq_left hn
  have hp : Int.fdiv (a.toNat : Int) (2 ^ n) = ((a >>> n).toNat : Int) := by
    rw [BitVec.toNat_ushiftRight, Nat.shiftRight_eq_div_pow, Int.fdiv_eq_ediv_of_nonneg _ (Int.le_of_lt (Int.pow_pos (by decide)))]
    simp
  have hg : ∀ X Y, eqGuard .shr t X Y (.int .u32 (a.toNat : Nat)) (.int ky (n : Nat)) = pure () := fun _ _ => by simp [eqGuard]
  have hb : (binOp .shr t (.int .u32 (a.toNat : Nat)) (.int ky (n : Nat)) : Sem Value) = pure (.int .u32 ((a >>> n).toNat : Nat)) := by
    show Op.shift .shr .u32 _ ky _ = _
    unfold Op.shift
    rw [if_neg (by omega)]
    show (pure (.int .u32 (Int.fdiv (a.toNat : Int) (2 ^ (min (Int.toNat n) 32)))) : Sem Value) = _
    rw [Int.toNat_natCast, hm, hp]
  simp only [execOp, hρ x _ hx, hρ y _ hy, Sem.run_bind, hg, hb, Sem.run_pure, Result.andThen_ok]
/-! ### words of 8 -/
theorem ofInt_toNat8 (w : BitVec 8) : BitVec.ofInt 8 (w.toNat : Int) = w := by
  rw [← BitVec.toInt_inj, BitVec.toInt_ofInt]
  rw [BitVec.toInt_eq_toNat_bmod]
theorem wrap_word8 (w : BitVec 8) : IntKind.u8.wrap (w.toNat : Int) = w.toNat := IntWalk.u8_in _ ⟨by omega, by have := w.isLt; omega⟩
theorem run_bits8 {op : BinOp} {t u : TypeId} {x y : Operand} {a b c : BitVec 8} (hx : evalE env x = some (.int .u8 (a.toNat : Nat))) (hy : evalE env y = some (.int .u8 (b.toNat : Nat)))
    (hop : binOp op t (.int .u8 (a.toNat : Nat)) (.int .u8 (b.toNat : Nat)) = Op.intBits op .u8 a.toNat b.toNat) (hg : ∀ X Y, eqGuard op t X Y (.int .u8 (a.toNat : Nat)) (.int .u8 (b.toNat : Nat)) = pure ())
    (hc : Op.intBits op .u8 a.toNat b.toNat = pure (.int .u8 (IntKind.u8.wrap (c.toNat : Nat)))) : Pu P env (.binOp op t x y u) (.int .u8 (c.toNat : Nat)) := fun ρ hρ _ _ _ _ _ w => by
  simp only [execOp, hρ x _ hx, hρ y _ hy, Sem.run_bind, hg, Sem.run_pure, Result.andThen_ok, hop, hc, wrap_word8]
theorem pu_or_w8 {t u : TypeId} {x y : Operand} {a b : BitVec 8} (hx : evalE env x = some (.int .u8 (a.toNat : Nat))) (hy : evalE env y = some (.int .u8 (b.toNat : Nat))) : Pu P env (.binOp .or t x y u) (.int .u8 ((a ||| b).toNat : Nat)) :=
  run_bits8 hx hy (by simp [binOp]) (fun _ _ => by simp [eqGuard]) (by
    show (let a' : BitVec 8 := BitVec.ofInt 8 a.toNat; let b' : BitVec 8 := BitVec.ofInt 8 b.toNat; pure (.int .u8 (IntKind.u8.wrap (a' ||| b').toNat)) : Sem Value) = _
    rw [ofInt_toNat8, ofInt_toNat8])
theorem pu_xor_w8 {t u : TypeId} {x y : Operand} {a b : BitVec 8} (hx : evalE env x = some (.int .u8 (a.toNat : Nat))) (hy : evalE env y = some (.int .u8 (b.toNat : Nat))) : Pu P env (.binOp .xor t x y u) (.int .u8 ((a ^^^ b).toNat : Nat)) :=
  run_bits8 hx hy (by simp [binOp]) (fun _ _ => by simp [eqGuard]) (by
    show (let a' : BitVec 8 := BitVec.ofInt 8 a.toNat; let b' : BitVec 8 := BitVec.ofInt 8 b.toNat; pure (.int .u8 (IntKind.u8.wrap (a' ^^^ b').toNat)) : Sem Value) = _
    rw [ofInt_toNat8, ofInt_toNat8])
/-- shifts of a word, by less than 64 -/
theorem pu_shl_w8 {t u : TypeId} {x y : Operand} {ky : IntKind} {a : BitVec 8} (n : Nat) (hx : evalE env x = some (.int .u8 (a.toNat : Nat))) (hy : evalE env y = some (.int ky (n : Nat))) (hn : n ≤ 8) : Pu P env (.binOp .shl t x y u) (.int .u8 ((a <<< n).toNat : Nat)) := fun ρ hρ _ _ _ _ _ w => by
  have hm : min n 8 = n := Nat.min_eq_left hn
  have hp : IntKind.u8.wrap ((a.toNat : Int) * 2 ^ n) = ((a <<< n).toNat : Int) := by
    rw [BitVec.toNat_shiftLeft, Nat.shiftLeft_eq]
    have e : ((a.toNat : Int) * 2 ^ n) = ((a.toNat * 2 ^ n : Nat) : Int) := by simp
    rw [e]
    generalize a.toNat * 2 ^ n = m
    show (m : Int) % (2 : Int) ^ 8 = _
    omega
  have hg : ∀ X Y, eqGuard .shl t X Y (.int .u8 (a.toNat : Nat)) (.int ky (n : Nat)) = pure () := fun _ _ => by simp [eqGuard]
  have hb : (binOp .shl t (.int .u8 (a.toNat : Nat)) (.int ky (n : Nat)) : Sem Value) = pure (.int .u8 ((a <<< n).toNat : Nat)) := by
    show Op.shift .shl .u8 _ ky _ = _
    unfold Op.shift
    rw [if_neg (by omega)]
    show (pure (.int .u8 (IntKind.u8.wrap ((a.toNat : Int) * 2 ^ (min (Int.toNat n) 8)))) : Sem Value) = _
    rw [Int.toNat_natCast, hm, hp]
  simp only [execOp, hρ x _ hx, hρ y _ hy, Sem.run_bind, hg, hb, Sem.run_pure, Result.andThen_ok]
theorem pu_not_w32 {t : TypeId} {x : Operand} {a : BitVec 32} (hx : evalE env x = some (.int .u32 (a.toNat : Nat))) : Pu P env (.unOp .xor t x) (.int .u32 ((~~~a).toNat : Nat)) := fun ρ hρ _ _ _ _ _ w => by
  have hc : (Op.unary .xor (.int .u32 (a.toNat : Nat)) : Sem Value) = pure (.int .u32 ((~~~a).toNat : Nat)) := by
    show (let a' : BitVec 32 := BitVec.ofInt 32 4294967295; let b' : BitVec 32 := BitVec.ofInt 32 a.toNat; pure (.int .u32 (IntKind.u32.wrap (a' ^^^ b').toNat)) : Sem Value) = _
    rw [ofInt_toNat32]
    have e : (BitVec.ofInt 32 4294967295 ^^^ a) = ~~~a := by
      have : BitVec.ofInt 32 4294967295 = BitVec.allOnes 32 := by decide
      rw [this, BitVec.allOnes_xor]
    show (pure (.int .u32 (IntKind.u32.wrap ((BitVec.ofInt 32 4294967295 ^^^ a).toNat))) : Sem Value) = _
    rw [e, wrap_word32]
  simp only [execOp, hρ x _ hx, hc, Sem.run_bind, Sem.run_pure, Result.andThen_ok]
/-- the lowest byte -/
theorem pu_low8 {s t : TypeId} {ks : IntKind} {n : Nat} [hs : TInt P s ks] [ht : TInt P t .u8] {x : Operand} {v : Int} (a : BitVec n) (_hn : 8 ≤ n) (hv : v = (a.toNat : Nat)) (hx : evalE env x = some (.int ks v)) : Pu P env (.convert s t x) (.int .u8 ((a.setWidth 8).toNat : Nat)) := by
  have h := pu_conv (P := P) (s := s) (t := t) (k' := .u8) hx
  have e : IntKind.u8.wrap v = ((a.setWidth 8).toNat : Nat) := by
    rw [hv, BitVec.toNat_setWidth]
    show ((a.toNat : Nat) : Int) % 256 = _
    simp
  rwa [e] at h
end SX
namespace SX
abbrev W32 : Type := BitVec 32
def polyW : W32 := 3988292384#32
def turnW (c : W32) : W32 := if (c &&& 1#32) = 0#32 then c >>> 1 else (c >>> 1) ^^^ polyW
def turnsW : Nat → W32 → W32
  | 0, c => c
  | n + 1, c => turnsW n (turnW c)
def rowW (i : Nat) : W32 := turnsW 8 (BitVec.ofNat 32 i)
/-- a byte by the table -/
def takeW (c : W32) (b : UInt8) : W32 := rowW ((c.setWidth 8) ^^^ b.toBitVec).toNat ^^^ (c >>> 8)
/-- a byte bit by bit -/
def moreW (c : W32) (b : UInt8) : W32 := turnsW 8 (c ^^^ BitVec.ofNat 32 b.toNat)
theorem turn_low (c : W32) : turnW c = (c >>> 1) ^^^ (if c.getLsbD 0 then polyW else 0#32) := by
  have h : (c &&& 1#32) = 0#32 ↔ c.getLsbD 0 = false := by
    constructor
    · intro h
      have := congrArg (fun x => x.getLsbD 0) h
      simpa using this
    · intro h
      apply BitVec.eq_of_getLsbD_eq
      intro i hi
      rw [BitVec.getLsbD_and]
      by_cases h0 : i = 0
      · subst h0; rw [h]; simp
      · have : (1#32).getLsbD i = false := by simp [BitVec.getLsbD_one, h0]
        rw [this]; simp
  unfold turnW
  cases hb : c.getLsbD 0 with
  | false => rw [if_pos (h.2 hb)]; simp
  | true => rw [if_neg (fun e => by rw [h.1 e] at hb; cases hb)]; simp
theorem turn_xor (a b : W32) : turnW (a ^^^ b) = turnW a ^^^ turnW b := by
  rw [turn_low, turn_low, turn_low, BitVec.getLsbD_xor]
  have hs : (a ^^^ b) >>> 1 = (a >>> 1) ^^^ (b >>> 1) := by
    apply BitVec.eq_of_getLsbD_eq; intro i hi; simp [BitVec.getLsbD_ushiftRight, BitVec.getLsbD_xor]
  rw [hs]
  generalize a >>> 1 = x
  generalize b >>> 1 = y
  generalize polyW = p
  cases a.getLsbD 0 <;> cases b.getLsbD 0
  · show x ^^^ y ^^^ 0#32 = (x ^^^ 0#32) ^^^ (y ^^^ 0#32); simp
  · show x ^^^ y ^^^ p = (x ^^^ 0#32) ^^^ (y ^^^ p); rw [BitVec.xor_zero, BitVec.xor_assoc]
  · show x ^^^ y ^^^ p = (x ^^^ p) ^^^ (y ^^^ 0#32); rw [BitVec.xor_zero, BitVec.xor_assoc, BitVec.xor_comm y p, ← BitVec.xor_assoc]
  · show x ^^^ y ^^^ 0#32 = (x ^^^ p) ^^^ (y ^^^ p)
    rw [BitVec.xor_zero, BitVec.xor_comm y p, BitVec.xor_assoc, ← BitVec.xor_assoc p p y, BitVec.xor_self, BitVec.zero_xor]
theorem turns_xor (n : Nat) (a b : W32) : turnsW n (a ^^^ b) = turnsW n a ^^^ turnsW n b := by
  induction n generalizing a b with
  | zero => rfl
  | succ n ih => unfold turnsW; rw [turn_xor, ih]
theorem turns_shl (n : Nat) (x : W32) (hn : n ≤ 8) (hx : x.toNat < 16777216) : turnsW n (x <<< n) = x := by
  induction n with
  | zero => simp [turnsW]
  | succ n ih =>
    unfold turnsW
    have h1 : turnW (x <<< (n + 1)) = x <<< n := by
      rw [turn_low]
      have h0 : (x <<< (n + 1)).getLsbD 0 = false := by simp
      rw [h0]
      apply BitVec.eq_of_toNat_eq
      have hp : 2 ^ (n + 1) ≤ 256 := by
        have : 2 ^ (n + 1) ≤ 2 ^ 8 := Nat.pow_le_pow_right (by decide) hn
        simpa using this
      have hp2 : 2 ^ (n + 1) = 2 * 2 ^ n := by rw [Nat.pow_succ, Nat.mul_comm]
      have hp3 : 2 ^ n ≤ 128 := by omega
      have hb : x.toNat * 2 ^ n < 2147483648 := by
        have := Nat.mul_le_mul (Nat.le_of_lt_succ (Nat.lt_succ_of_lt hx)) hp3
        have h2 : x.toNat * 2 ^ n ≤ x.toNat * 128 := Nat.mul_le_mul_left _ hp3
        omega
      show ((x <<< (n + 1)) >>> 1 ^^^ 0#32).toNat = _
      rw [BitVec.xor_zero, BitVec.toNat_ushiftRight, BitVec.toNat_shiftLeft, BitVec.toNat_shiftLeft, Nat.shiftLeft_eq, Nat.shiftLeft_eq, Nat.shiftRight_eq_div_pow, hp2, ← Nat.mul_assoc, Nat.mul_comm x.toNat 2, Nat.mul_assoc]
      generalize x.toNat * 2 ^ n = m at hb
      omega
    rw [h1]; exact ih (by omega)
theorem take_more (c : W32) (b : UInt8) : takeW c b = moreW c b := by
  unfold takeW moreW rowW
  have hsplit : c ^^^ BitVec.ofNat 32 b.toNat = BitVec.ofNat 32 ((c.setWidth 8) ^^^ b.toBitVec).toNat ^^^ ((c >>> 8) <<< 8) := by
    have h1 : BitVec.ofNat 32 b.toNat = b.toBitVec.setWidth 32 := by
      apply BitVec.eq_of_toNat_eq; rw [BitVec.toNat_ofNat, BitVec.toNat_setWidth]; rfl
    have h2 : BitVec.ofNat 32 ((c.setWidth 8) ^^^ b.toBitVec).toNat = ((c.setWidth 8) ^^^ b.toBitVec).setWidth 32 := by
      apply BitVec.eq_of_toNat_eq; rw [BitVec.toNat_ofNat, BitVec.toNat_setWidth]
    rw [h1, h2]
    apply BitVec.eq_of_getLsbD_eq
    intro i hi
    simp only [BitVec.getLsbD_xor, BitVec.getLsbD_setWidth, BitVec.getLsbD_shiftLeft, BitVec.getLsbD_ushiftRight]
    by_cases h8 : i < 8
    · simp [h8, hi]
    · have e : 8 + (i - 8) = i := by omega
      have hb : b.toBitVec.getLsbD i = false := BitVec.getLsbD_of_ge _ _ (by omega)
      simp [h8, hi, e, hb]
  rw [hsplit, turns_xor, turns_shl 8 (c >>> 8) (Nat.le_refl _) (by rw [BitVec.toNat_ushiftRight, Nat.shiftRight_eq_div_pow]; have := c.isLt; omega)]
/-- the sum of bytes, from a state -/
def crcW (c : W32) (l : List UInt8) : W32 := l.foldl moreW c
theorem crc_take (l : List UInt8) (c : W32) : l.foldl takeW c = crcW c l := by
  unfold crcW; induction l generalizing c with
  | nil => rfl
  | cons b l ih => rw [List.foldl_cons, List.foldl_cons, take_more, ih]
/-- n bytes, the greatest first -/
def bigW (x : BitVec 64) (n : Nat) : List UInt8 := (List.range n).map fun i => UInt8.ofBitVec ((x >>> (8 * (n - 1 - i))).setWidth 8)
theorem bigW_len (x : BitVec 64) (n : Nat) : (bigW x n).length = n := by unfold bigW; rw [List.length_map, List.length_range]
theorem bigW_get (x : BitVec 64) {n i : Nat} (hi : i < n) : (bigW x n)[i]? = some (UInt8.ofBitVec ((x >>> (8 * (n - 1 - i))).setWidth 8)) := by
  unfold bigW; rw [List.getElem?_map, List.getElem?_range hi]; rfl
def sumW (l : List UInt8) : W32 := ~~~ crcW (~~~ 0#32) l
abbrev four (b : W32) : List UInt8 := bigW (b.setWidth 64) 4
theorem four_len (b : W32) : (four b).length = 4 := bigW_len _ _
def markW (b o t : W32) : W32 := sumW (four b ++ four o ++ four t) ||| 2147483648#32
end SX
namespace SX
open Go
variable {P : Program} {env : Env}
abbrev bc1 (b : UInt8) : List Value := [.int .u8 (b.toNat : Nat)]
abbrev bcs (l : List UInt8) : List Value := l.flatMap bc1
theorem bcs_map (l : List UInt8) : bcs l = l.map fun b => Value.int .u8 (b.toNat : Nat) := by
  induction l with
  | nil => rfl
  | cons a l ih => rw [bcs, List.flatMap_cons, List.map_cons, ← ih]; rfl
theorem bcs_len (l : List UInt8) : (bcs l).length = l.length := by rw [bcs_map, List.length_map]
/-- []byte(s) -/
theorem ef_bytes {L : List Assn} {s t e by_ : Nat} [hs : TStr P s] [ht : TSl P t e 1 by_] [he : TInt P e .u8] {x : Operand} {b : ByteArray} (hx : evalE env x = some (.string b)) (hl : b.size ≤ maxLen) :
    Ef P env L (.convert s t x) (fun k => ∀ g cap cs fr, b.size ≤ cap → cap ≤ maxLen → (∀ (j : Nat) (u : Value), (bcs b.data.toList)[j]? = some u → cs[j]? = some u) → k (.slice (some ⟨g, 0, none⟩) b.size cap) (one g (.cells cs e fr) :: L)) := by
  intro ro dst ty pos af g N E a w next Q k hf hh hk hn
  have hr := run_bytes_of_string (P := P) w s t e b hs.und ht.und he.und
  refine wpIn_value (v := .slice (some ⟨w.heap.size, 0, none⟩) b.size (grownCap w b.size 0 e)) (w' := w.drew.alloc (.cells (bytesRow b (grownCap w b.size 0 e)) e ((bytesRow b (grownCap w b.size 0 e)).size, (bytesRow b (grownCap w b.size 0 e)).size + 1)))
    (by simp only [execOp, hf.ev x _ hx, hr, Sem.run_bind, Sem.run_pure, Result.andThen_ok]) ?_
  refine hn _ _ _ (hk _ _ _ _ (grownCap_ge w _ 0 e) (grownCap_le_maxLen w _ 0 e hl) fun j u hj => ?_) (hh.drew.alloc _)
  rw [bcs_map, List.getElem?_map] at hj
  rw [Option.map_eq_some_iff] at hj
  obtain ⟨c, hc, rfl⟩ := hj
  obtain ⟨hlt, rfl⟩ := List.getElem?_eq_some_iff.1 hc
  have hlt' : j < b.data.size := by simpa using hlt
  rw [bytesRow_at b _ j hlt']
  simp
theorem swp_share1 {rn : Option Nat} {Q : Post} {N : Nat} {L : List Assn} {μ : PH} {c : Code} {b : Nat} {o : Obj} {L0 : List Assn} (hL : Split L0 [one b o, ro μ] L) (h : ∀ μ', Le μ μ' → μ' b = some o → swp P rn c Q N env (ro μ' :: L)) : swp P rn c Q N env L0 := fun E D a w hd hf hh => by
  obtain ⟨μ', h1, h2, h3⟩ := (hh.ent hL.ent).share
  exact h μ' h1 h2 E D a w hd hf h3
theorem row_bytes {μ : PH} {g e : Nat} {cs : Array Value} {fr : Nat × Nat} {b : ByteArray} {cap : Nat} (h1 : b.size ≤ cap) (h2 : cap ≤ maxLen) (h : ∀ (j : Nat) (u : Value), (bcs b.data.toList)[j]? = some u → cs[j]? = some u) (hg : μ g = some (.cells cs e fr)) :
    Row μ (.slice (some ⟨g, 0, none⟩) b.size cap) 1 b.data.toList.length (bcs b.data.toList) := by
  have hl : b.data.toList.length = b.size := by rw [Array.length_toList]; rfl
  refine ⟨by rw [bcs_len]; omega, _, _, by rw [hl], by omega, h2, (fun h => by cases h), fun _ => ⟨g, 0, rfl, fun j u hj => ⟨_, _, _, hg, ?_⟩⟩⟩
  rw [Nat.zero_add]; exact h j u hj
/-- string(b) of a slice of the call's own -/
theorem rd_bytes {L L' : List Assn} {s t e by_ : Nat} [ht : TStr P t] [hs : TSl P s e 1 by_] [he : TInt P e .u8] {x : Operand} {g cap : Nat} {ex : List Value} (l : List UInt8) (hx : evalE env x = some (.slice (some ⟨g, 0, none⟩) l.length cap)) (hb : Take (blk g e (bcs l ++ ex)) L L') :
    Rd P env L (.convert s t x) (.string ⟨l.toArray⟩) := by
  intro ρ hρ dst ty pos af g' E w hh
  have h1 : w.heap[g]? = some (.cells (bcs l ++ ex).toArray e (0, 0)) := hh.one_get hb
  have hr := run_convert_bytes_back (P := P) w s t e ⟨g, 0, none⟩ cap l hs.und he.und ht.und (fun j hj => by
    rw [addr_add, cell_of_row w g (0 + j) _ e (0, 0) h1]
    rw [Nat.zero_add, List.getElem?_toArray, List.getElem?_append_left (by rw [bcs_len]; exact hj), bcs_map, List.getElem?_map, List.getElem?_eq_getElem hj]; rfl)
  simp only [execOp, hρ x _ hx, hr, Sem.run_bind, Sem.run_pure, Result.andThen_ok]
end SX
namespace SX
open Go
variable {P : Program} {env : Env}
theorem pu_str_hi {t : TypeId} [h : TStr P t] {x y : Operand} {s : ByteArray} {ki : IntKind} {hi : Int} (k : Nat) (hx : evalE env x = some (.string s)) (hy : evalE env y = some (.int ki hi)) (hk : hi = (k : Int)) (hc : k ≤ s.size) :
    Pu P env (.slice t x none (some y) none) (.string (s.extract 0 k)) := fun ρ hρ _ _ _ _ _ w => by
  have h1 := run_slice_string_h (P := P) w t s h.und ki hi (by omega) (by omega)
  have h2 : (Instr.sliceAt t (.string s) none (some (.int ki hi)) none).run P w = (Instr.slice t (.string s) none (some (.int ki hi)) none).run P w := by
    simp [Instr.sliceAt, run_underlying h.und]
  rw [h1] at h2
  have h3 : hi.toNat = k := by omega
  rw [h3] at h2
  simp [execOp, hρ x _ hx, hρ y _ hy, h2]
theorem pu_str_index {t : TypeId} [h : TStr P t] {x y : Operand} {s : ByteArray} {ki : IntKind} {i : Int} {j : Nat} {b : UInt8} (hx : evalE env x = some (.string s)) (hy : evalE env y = some (.int ki i)) (hi : i = (j : Int)) (hb : s.data.toList[j]? = some b) :
    Pu P env (.index t x y) (.int .u8 (b.toNat : Nat)) := fun ρ hρ _ _ _ _ _ w => by
  subst hi
  have hlt : j < s.data.size := by have := (List.getElem?_eq_some_iff.1 hb).1; simpa using this
  have h1 : s[j]? = some b := by
    rw [getElem?_pos s j hlt]
    have : s.data.toList[j]? = some s[j] := by rw [List.getElem?_eq_getElem (by simpa using hlt)]; rfl
    rw [this] at hb; exact hb
  simp [execOp, hρ x _ hx, hρ y _ hy, Instr.index, asIntOf, run_underlying h.und, h1]
end SX
namespace SX
open Go
theorem bl_iff : ∀ x y : List UInt8, Op.bytesLess x y = true ↔ List.Lex (· < ·) x y := by
  intro x
  induction x with
  | nil => intro y; cases y <;> simp [Op.bytesLess]
  | cons a x ih =>
    intro y
    cases y with
    | nil => simp [Op.bytesLess]
    | cons b y =>
      simp only [Op.bytesLess, Bool.or_eq_true, decide_eq_true_eq, Bool.and_eq_true, beq_iff_eq, ih, List.cons_lex_cons_iff]
theorem bl_irrefl : ∀ x : List UInt8, Op.bytesLess x x = false := by
  intro x
  induction x with
  | nil => rfl
  | cons a x ih => simp [Op.bytesLess, ih]
theorem bl_trans : ∀ x y z : List UInt8, Op.bytesLess x y = true → Op.bytesLess y z = true → Op.bytesLess x z = true := by
  intro x
  induction x with
  | nil => intro y z h1 h2; cases y <;> cases z <;> simp_all [Op.bytesLess]
  | cons a x ih =>
    intro y z h1 h2
    cases y with
    | nil => simp [Op.bytesLess] at h1
    | cons b y =>
      cases z with
      | nil => simp [Op.bytesLess] at h2
      | cons c z =>
        simp only [Op.bytesLess, Bool.or_eq_true, decide_eq_true_eq, Bool.and_eq_true, beq_iff_eq] at h1 h2 ⊢
        rcases h1 with h1 | ⟨rfl, h1⟩ <;> rcases h2 with h2 | ⟨rfl, h2⟩
        · exact .inl (UInt8.lt_trans h1 h2)
        · exact .inl h1
        · exact .inl h2
        · exact .inr ⟨rfl, ih _ _ h1 h2⟩
theorem bl_total : ∀ x y : List UInt8, Op.bytesLess x y = true ∨ x = y ∨ Op.bytesLess y x = true := by
  intro x
  induction x with
  | nil => intro y; cases y <;> simp [Op.bytesLess]
  | cons a x ih =>
    intro y
    cases y with
    | nil => simp [Op.bytesLess]
    | cons b y =>
      simp only [Op.bytesLess, Bool.or_eq_true, decide_eq_true_eq, Bool.and_eq_true, beq_iff_eq, List.cons.injEq]
      have h3 : a < b ∨ a = b ∨ b < a := by
        rcases Nat.lt_trichotomy a.toNat b.toNat with h | h | h
        · exact .inl (UInt8.lt_iff_toNat_lt.2 h)
        · exact .inr (.inl (UInt8.toNat_inj.1 h))
        · exact .inr (.inr (UInt8.lt_iff_toNat_lt.2 h))
      rcases h3 with h | rfl | h
      · exact .inl (.inl h)
      · rcases ih y with h | rfl | h
        · exact .inl (.inr ⟨rfl, h⟩)
        · exact .inr (.inl ⟨rfl, rfl⟩)
        · exact .inr (.inr (.inr ⟨rfl, h⟩))
      · exact .inr (.inr (.inl h))
theorem bl_asym {x y : List UInt8} (h : Op.bytesLess x y = true) : Op.bytesLess y x = false := by
  cases h2 : Op.bytesLess y x with
  | false => rfl
  | true => have := bl_trans _ _ _ h h2; rw [bl_irrefl] at this; cases this
end SX
namespace SX
open Go
theorem strEq_iff {a b : ByteArray} : strEq a b = true ↔ a = b := by
  unfold strEq
  rw [beq_iff_eq, Lib.toList_data, Lib.toList_data]
  constructor
  · intro h; cases a; cases b; congr 1; exact Array.toList_inj.1 h
  · rintro rfl; rfl
theorem strEq_refl (a : ByteArray) : strEq a a = true := strEq_iff.2 rfl
theorem strEq_false {a b : ByteArray} : strEq a b = false ↔ a ≠ b := by rw [← Bool.not_eq_true, strEq_iff]
theorem strLt_irrefl (a : ByteArray) : strLt a a = false := bl_irrefl _
theorem strLt_asym {a b : ByteArray} (h : strLt a b = true) : strLt b a = false := bl_asym h
theorem strLt_trans {a b c : ByteArray} (h1 : strLt a b = true) (h2 : strLt b c = true) : strLt a c = true := bl_trans _ _ _ h1 h2
theorem strLt_total (a b : ByteArray) : strLt a b = true ∨ a = b ∨ strLt b a = true := by
  rcases bl_total a.toList b.toList with h | h | h
  · exact .inl h
  · refine .inr (.inl (strEq_iff.1 ?_)); unfold strEq; rw [h]; exact beq_self_eq_true _
  · exact .inr (.inr h)
theorem strLt_ne {a b : ByteArray} (h : strLt a b = true) : a ≠ b := by rintro rfl; rw [strLt_irrefl] at h; cases h
/-- strings.Compare -/
def cmpS (a b : ByteArray) : Int := Lib.compareBytes a.data.toList b.data.toList
theorem cmpB (a b : List UInt8) : (Lib.compareBytes a b < 0 ↔ Op.bytesLess a b = true) ∧ (Lib.compareBytes a b = 0 ↔ a = b) ∧ -1 ≤ Lib.compareBytes a b ∧ Lib.compareBytes a b ≤ 1 := by
  induction a generalizing b with
  | nil => cases b <;> simp [Lib.compareBytes, Op.bytesLess]
  | cons x a ih =>
    cases b with
    | nil => simp [Lib.compareBytes, Op.bytesLess]
    | cons y b =>
      obtain ⟨i1, i2, i3, i4⟩ := ih b
      unfold Lib.compareBytes
      by_cases h1 : x < y
      · have hne : x ≠ y := by rintro rfl; exact UInt8.lt_irrefl _ h1
        simp [h1, Op.bytesLess, hne]
      · by_cases h2 : y < x
        · have hne : x ≠ y := by rintro rfl; exact UInt8.lt_irrefl _ h2
          simp [h1, h2, Op.bytesLess, hne]
        · have he : x = y := by
            rcases Nat.lt_trichotomy x.toNat y.toNat with h | h | h
            · exact absurd (UInt8.lt_iff_toNat_lt.2 h) h1
            · exact UInt8.toNat_inj.1 h
            · exact absurd (UInt8.lt_iff_toNat_lt.2 h) h2
          subst he
          simp [h1, Op.bytesLess, i1, i2, i3, i4]
theorem cmpS_neg (a b : ByteArray) : cmpS a b < 0 ↔ strLt a b = true := by
  unfold cmpS strLt; rw [Lib.toList_data, Lib.toList_data]; exact (cmpB _ _).1
theorem cmpS_zero (a b : ByteArray) : cmpS a b = 0 ↔ a = b := by
  unfold cmpS; rw [(cmpB _ _).2.1, ← strEq_iff]; unfold strEq; rw [beq_iff_eq, Lib.toList_data, Lib.toList_data]
theorem dcmpS_zero (a b : ByteArray) : decide (cmpS a b = 0) = strEq a b := by
  cases h : strEq a b with
  | true => exact decide_eq_true ((cmpS_zero a b).2 (strEq_iff.1 h))
  | false => refine decide_eq_false fun hh => ?_; rw [strEq_iff.2 ((cmpS_zero a b).1 hh)] at h; cases h
/-! ## entries -/
abbrev En : Type := ByteArray × Int
abbrev enc1 (e : En) : List Value := [.string e.1, .int .u32 e.2]
abbrev ens (l : List En) : List Value := l.flatMap enc1
/-- a conflict -/
abbrev Cf : Type := ByteArray × Int × Int × Int
abbrev encC (e : Cf) : List Value := [.string e.1, .int .u32 e.2.1, .int .u32 e.2.2.1, .int .u32 e.2.2.2]
theorem ens_one (l : List En) : (ens l).all Value.oneCell' = true := by
  rw [List.all_eq_true]
  intro v hv
  obtain ⟨e, _, he⟩ := List.mem_flatMap.1 hv
  simp only [enc1, List.mem_cons, List.not_mem_nil, or_false] at he
  rcases he with rfl | rfl <;> rfl
theorem enc1_len (e : En) : (enc1 e).length = 2 := rfl
/-- what a list has at a path: the first -/
def lookE : List En → ByteArray → Int
  | [], _ => 0
  | e :: l, p => if strEq e.1 p then e.2 else lookE l p
/-- the first that isn't less, by halves -/
def bsF (l : List En) (p : ByteArray) (i j : Nat) : Nat :=
  if _h : i < j then
    if (l[(i + j) / 2]?.map fun e => strLt e.1 p).getD false then bsF l p ((i + j) / 2 + 1) j else bsF l p i ((i + j) / 2)
  else i
termination_by j - i
decreasing_by all_goals omega
def bsB (l : List En) (p : ByteArray) : Nat := bsF l p 0 l.length
/-- what the search by halves finds -/
def lookB (l : List En) (p : ByteArray) : Int :=
  match l[bsB l p]? with
  | some e => if strEq e.1 p then e.2 else 0
  | none => 0
theorem bsF_stop (l : List En) (p : ByteArray) {i j : Nat} (h : ¬ i < j) : bsF l p i j = i := by unfold bsF; rw [dif_neg h]
theorem bsF_lo (l : List En) (p : ByteArray) {i j : Nat} {e : En} (h : i < j) (he : l[(i + j) / 2]? = some e) (hl : strLt e.1 p = true) : bsF l p i j = bsF l p ((i + j) / 2 + 1) j := by
  rw [bsF, dif_pos h, he]; simp [hl]
theorem bsF_hi (l : List En) (p : ByteArray) {i j : Nat} {e : En} (h : i < j) (he : l[(i + j) / 2]? = some e) (hl : strLt e.1 p = false) : bsF l p i j = bsF l p i ((i + j) / 2) := by
  rw [bsF, dif_pos h, he]; simp [hl]
/-- paths rise -/
abbrev Rises (l : List En) : Prop := l.Pairwise fun a b => strLt a.1 b.1 = true
theorem rises_get {l : List En} (h : Rises l) {i j : Nat} {a b : En} (hij : i < j) (ha : l[i]? = some a) (hb : l[j]? = some b) : strLt a.1 b.1 = true := by
  obtain ⟨h1, rfl⟩ := List.getElem?_eq_some_iff.1 ha
  obtain ⟨h2, rfl⟩ := List.getElem?_eq_some_iff.1 hb
  exact List.pairwise_iff_getElem.1 h i j h1 h2 hij
theorem bsF_spec (l : List En) (p : ByteArray) (hr : Rises l) : ∀ (n i j : Nat), j - i ≤ n → i ≤ j → j ≤ l.length → (∀ k e, k < i → l[k]? = some e → strLt e.1 p = true) → (∀ k e, j ≤ k → l[k]? = some e → strLt e.1 p = false) →
    (∀ k e, k < bsF l p i j → l[k]? = some e → strLt e.1 p = true) ∧ (∀ k e, bsF l p i j ≤ k → l[k]? = some e → strLt e.1 p = false) := by
  intro n
  induction n with
  | zero => intro i j h1 h2 _ ha hb; rw [bsF_stop l p (by omega)]; exact ⟨ha, fun k e hk => hb k e (by omega)⟩
  | succ n ih =>
    intro i j h1 h2 h3 ha hb
    by_cases h : i < j
    · have hm : (i + j) / 2 < l.length := by omega
      cases hl : strLt l[(i + j) / 2].1 p with
      | true =>
        rw [bsF_lo l p h (List.getElem?_eq_getElem hm) hl]
        refine ih _ _ (by omega) (by omega) h3 (fun k e hk he => ?_) hb
        by_cases hk2 : k = (i + j) / 2
        · subst hk2; rw [List.getElem?_eq_getElem hm] at he; cases he; exact hl
        · exact strLt_trans (rises_get hr (by omega) he (List.getElem?_eq_getElem hm)) hl
      | false =>
        rw [bsF_hi l p h (List.getElem?_eq_getElem hm) hl]
        refine ih _ _ (by omega) (by omega) (by omega) ha (fun k e hk he => ?_)
        by_cases hk2 : k = (i + j) / 2
        · subst hk2; rw [List.getElem?_eq_getElem hm] at he; cases he; exact hl
        · cases hh : strLt e.1 p with
          | false => rfl
          | true => rw [strLt_trans (rises_get hr (by omega) (List.getElem?_eq_getElem hm) he) hh] at hl; cases hl
    · rw [bsF_stop l p h]; exact ⟨ha, fun k e hk => hb k e (by omega)⟩
theorem lookE_none {l : List En} {p : ByteArray} (h : ∀ e ∈ l, strEq e.1 p = false) : lookE l p = 0 := by
  induction l with
  | nil => rfl
  | cons e l ih => unfold lookE; rw [h e (.head _)]; exact ih fun x hx => h x (.tail _ hx)
theorem lookE_at {l : List En} {p : ByteArray} : ∀ {k : Nat} {e : En}, l[k]? = some e → strEq e.1 p = true → (∀ j x, j < k → l[j]? = some x → strEq x.1 p = false) → lookE l p = e.2 := by
  induction l with
  | nil => intro k e h; simp at h
  | cons x l ih =>
    intro k e hk he hj
    cases k with
    | zero => simp at hk; subst hk; unfold lookE; rw [he]; rfl
    | succ k =>
      unfold lookE
      rw [hj 0 x (by omega) rfl]
      exact ih (k := k) (by simpa using hk) he fun j y h1 h2 => hj (j + 1) y (by omega) (by simpa using h2)
/-- in a rising list both find the same -/
theorem look_same {l : List En} (hr : Rises l) (p : ByteArray) : lookB l p = lookE l p := by
  obtain ⟨h1, h2⟩ := bsF_spec l p hr l.length 0 l.length (by omega) (by omega) (Nat.le_refl _) (fun k e hk => by omega) (fun k e hk he => by have := (List.getElem?_eq_some_iff.1 he).1; omega)
  unfold lookB
  change ∀ k e, k < bsB l p → _ at h1
  change ∀ k e, bsB l p ≤ k → _ at h2
  cases hb : l[bsB l p]? with
  | none =>
    refine (lookE_none fun e he => ?_).symm
    obtain ⟨k, hk⟩ := List.mem_iff_getElem?.1 he
    have : k < bsB l p := by have := (List.getElem?_eq_some_iff.1 hk).1; have := List.getElem?_eq_none_iff.1 hb; omega
    exact strEq_false.2 (strLt_ne (h1 k e this hk))
  | some e =>
    simp only []
    cases he : strEq e.1 p with
    | true => exact (lookE_at hb he fun j x hj hx => strEq_false.2 (strLt_ne (h1 j x hj hx))).symm
    | false =>
      refine (lookE_none fun x hx => ?_).symm
      obtain ⟨k, hk⟩ := List.mem_iff_getElem?.1 hx
      refine strEq_false.2 fun hxe => ?_
      rcases Nat.lt_trichotomy k (bsB l p) with h | h | h
      · exact strLt_ne (h1 k x h hk) hxe
      · subst h; rw [hb] at hk; cases hk; rw [hxe, strEq_refl] at he; cases he
      · have := rises_get hr h hb hk
        rw [hxe] at this
        rw [h2 _ _ (Nat.le_refl _) hb] at this; cases this
end SX
namespace SX
open Go
def ltP (p : ByteArray) (e : En) : Bool := strLt e.1 p
/-- without the entry at p, if it is the first -/
def cutE (p : ByteArray) : List En → List En
  | [] => []
  | e :: l => if strEq e.1 p then l else e :: l
theorem cutE_cons (p : ByteArray) (e : En) (l : List En) : cutE p (e :: l) = if strEq e.1 p = true then l else e :: l := rfl
def putE (t : List En) (p : ByteArray) (b : Int) : List En :=
  if 255 < p.size then t else t.takeWhile (ltP p) ++ (if b = 0 then [] else [(p, b)]) ++ cutE p (t.dropWhile (ltP p))
def makeE (l : List En) : List En := l.foldl (fun t e => putE t e.1 e.2) []
def cutP (e : En) : En := (e.1.extract 0 (min e.1.size 255), e.2)
/-- the good tree of any list -/
def goodE (x : List En) : List En := makeE ((x.take 100).map cutP)
theorem while_at {p : ByteArray} {t : List En} : ∀ {i : Nat}, i ≤ t.length → (t.take i).all (ltP p) = true → (∀ e, t[i]? = some e → ltP p e = false) → t.takeWhile (ltP p) = t.take i ∧ t.dropWhile (ltP p) = t.drop i := by
  induction t with
  | nil => intro i hi _ _; simp
  | cons e t ih =>
    intro i hi h1 h2
    cases i with
    | zero => have := h2 e rfl; simp [this]
    | succ i =>
      simp only [List.take_succ_cons, List.all_cons, Bool.and_eq_true] at h1
      obtain ⟨k1, k2⟩ := ih (by simpa using hi) h1.2 (fun x hx => h2 x (by simpa using hx))
      simp [h1.1, k1, k2]
theorem cutE_len (p : ByteArray) (l : List En) : (cutE p l).length ≤ l.length := by
  cases l with
  | nil => simp [cutE]
  | cons e l => rw [cutE_cons]; split <;> simp
theorem putE_len (t : List En) (p : ByteArray) (b : Int) : (putE t p b).length ≤ t.length + 1 := by
  unfold putE
  split
  · omega
  · have h1 := cutE_len p (t.dropWhile (ltP p))
    have h2 : (t.takeWhile (ltP p)).length + (t.dropWhile (ltP p)).length = t.length := by rw [← List.length_append, List.takeWhile_append_dropWhile]
    rw [List.length_append, List.length_append]
    have h3 : (if b = 0 then [] else [(p, b)] : List En).length ≤ 1 := by split <;> simp
    omega
theorem makeE_lenF (l : List En) : ∀ t, (l.foldl (fun t e => putE t e.1 e.2) t).length ≤ t.length + l.length := by
  induction l with
  | nil => intro t; simp
  | cons e l ih => intro t; rw [List.foldl_cons]; have := ih (putE t e.1 e.2); have := putE_len t e.1 e.2; simp only [List.length_cons]; omega
theorem makeE_len (l : List En) : (makeE l).length ≤ l.length := by have := makeE_lenF l []; unfold makeE; simpa using this
theorem goodE_len (x : List En) : (goodE x).length ≤ 100 := by
  have := makeE_len ((x.take 100).map cutP)
  unfold goodE
  rw [List.length_map, List.length_take] at this
  omega
/-- a good tree -/
structure GoodT (t : List En) : Prop where
  rises : Rises t
  short : ∀ e ∈ t, e.1.size ≤ 255
  full : ∀ e ∈ t, e.2 ≠ 0
theorem mem_take_while {q : En → Bool} {l : List En} {e : En} (h : e ∈ l.takeWhile q) : q e = true := by
  induction l with
  | nil => simp at h
  | cons x l ih =>
    rw [List.takeWhile_cons] at h
    split at h
    · rename_i hx
      rcases List.mem_cons.1 h with rfl | h
      · exact hx
      · exact ih h
    · cases h
theorem drop_while_head {q : En → Bool} {l : List En} {e : En} {r : List En} (h : l.dropWhile q = e :: r) : q e = false := by
  induction l with
  | nil => simp at h
  | cons x l ih =>
    rw [List.dropWhile_cons] at h
    split at h
    · exact ih h
    · rename_i hx
      cases h
      simpa using hx
theorem cutE_mem {p : ByteArray} {l : List En} {e : En} (h : e ∈ cutE p l) : e ∈ l := by
  cases l with
  | nil => exact h
  | cons x l =>
    rw [cutE_cons] at h
    split at h
    · exact .tail _ h
    · exact h
theorem good_put {t : List En} (h : GoodT t) (p : ByteArray) (b : Int) : GoodT (putE t p b) := by
  unfold putE
  split
  · exact h
  · rename_i hp
    have hsplit : t.takeWhile (ltP p) ++ t.dropWhile (ltP p) = t := List.takeWhile_append_dropWhile
    have hr := h.rises
    rw [← hsplit] at hr
    obtain ⟨r1, r2, r3⟩ := List.pairwise_append.1 hr
    have hcut : ∀ e ∈ cutE p (t.dropWhile (ltP p)), strLt p e.1 = true := by
      intro e he
      cases hd : t.dropWhile (ltP p) with
      | nil => rw [hd] at he; cases he
      | cons x r =>
        rw [hd] at he r2
        have hx := drop_while_head hd
        obtain ⟨q1, q2⟩ := List.pairwise_cons.1 r2
        have hxp : x.1 = p ∨ strLt p x.1 = true := by
          rcases strLt_total x.1 p with k | k | k
          · unfold ltP at hx; rw [k] at hx; cases hx
          · exact .inl k
          · exact .inr k
        rw [cutE_cons] at he
        split at he
        · rename_i heq
          rw [strEq_iff] at heq
          rw [← heq]; exact q1 e he
        · rename_i heq
          rcases List.mem_cons.1 he with rfl | he
          · rcases hxp with k | k
            · rw [k, strEq_refl] at heq; exact absurd rfl heq
            · exact k
          · rcases hxp with k | k
            · rw [k, strEq_refl] at heq; exact absurd rfl heq
            · exact strLt_trans k (q1 e he)
    have hmid : ∀ e ∈ (if b = 0 then [] else [(p, b)] : List En), e = (p, b) ∧ b ≠ 0 := by
      intro e he
      split at he
      · cases he
      · rename_i hb; simp at he; exact ⟨he, hb⟩
    have hmem : ∀ e ∈ t.takeWhile (ltP p) ++ (if b = 0 then [] else [(p, b)]) ++ cutE p (t.dropWhile (ltP p)), e ∈ t ∨ (e = (p, b) ∧ b ≠ 0) := by
      intro e he
      rcases List.mem_append.1 he with he | he
      · rcases List.mem_append.1 he with he | he
        · exact .inl (hsplit ▸ List.mem_append_left _ he)
        · exact .inr (hmid e he)
      · exact .inl (hsplit ▸ List.mem_append_right _ (cutE_mem he))
    refine ⟨?_, fun e he => ?_, fun e he => ?_⟩
    · have hc : (cutE p (t.dropWhile (ltP p))).Pairwise fun a b => strLt a.1 b.1 = true := by
        cases hd : t.dropWhile (ltP p) with
        | nil => exact List.Pairwise.nil
        | cons x r =>
          rw [hd] at r2
          rw [cutE_cons]
          split
          · exact (List.pairwise_cons.1 r2).2
          · exact r2
      refine List.pairwise_append.2 ⟨List.pairwise_append.2 ⟨r1, ?_, fun a ha c hc => ?_⟩, hc, fun a ha c hc => ?_⟩
      · split
        · exact List.Pairwise.nil
        · exact List.pairwise_singleton _ _
      · have := mem_take_while ha
        rw [(hmid c hc).1]; exact this
      · rcases List.mem_append.1 ha with ha | ha
        · exact strLt_trans (mem_take_while ha) (hcut c hc)
        · rw [(hmid a ha).1]; exact hcut c hc
    · rcases hmem e he with k | ⟨rfl, _⟩
      · exact h.short e k
      · show p.size ≤ 255; omega
    · rcases hmem e he with k | ⟨rfl, k⟩
      · exact h.full e k
      · exact k
theorem good_nil : GoodT [] := ⟨List.Pairwise.nil, (fun _ h => by cases h), (fun _ h => by cases h)⟩
theorem good_makeF (l : List En) : ∀ t, GoodT t → GoodT (l.foldl (fun t e => putE t e.1 e.2) t) := by
  induction l with
  | nil => intro t h; exact h
  | cons e l ih => intro t h; rw [List.foldl_cons]; exact ih _ (good_put h _ _)
theorem good_make (l : List En) : GoodT (makeE l) := good_makeF l [] good_nil
theorem good_good (x : List En) : GoodT (goodE x) := good_make _
end SX
namespace SX
open Go Go.Sort
theorem H.grow {E : Ctx} {w : World} {L : List Assn} (h : H E w L) (os : Array Obj) : H E (Go.Sort.grow w os) L := by
  obtain ⟨h1, h2, h3, h4, h5⟩ := h
  refine ⟨h1, h2, h3, by simp only [Go.Sort.grow, Array.size_append]; omega, h5.mono fun b o hb => ?_⟩
  have hlt : b < w.heap.size := (Array.getElem?_eq_some_iff.1 hb).1
  show (w.heap ++ os)[b]? = some o
  rw [Array.getElem?_append_left hlt]; exact hb
section
variable {α : Type} [Inhabited α] {enc : α → Value}
theorem putCells_front (d : List α) (zs ex : List Value) (hl : zs.length = d.length) : putCells enc 0 d.toArray (zs ++ ex).toArray = (d.map enc ++ ex).toArray := by
  apply Array.ext_getElem?
  intro k
  unfold putCells
  rw [Array.getElem?_mapIdx]
  simp only [List.getElem?_toArray, List.size_toArray, Nat.zero_add, Nat.sub_zero, Nat.zero_le, true_and]
  by_cases hk : k < d.length
  · rw [List.getElem?_append_left (by omega), List.getElem?_append_left (by rw [List.length_map]; exact hk), List.getElem?_map, List.getElem?_eq_getElem hk, List.getElem?_eq_getElem (by omega)]
    simp [hk]
  · rw [List.getElem?_append_right (by omega), List.getElem?_append_right (by rw [List.length_map]; omega), List.length_map, hl]
    cases ex[k - d.length]? <;> simp [hk]
theorem holds_front {w : World} {b e : Nat} {d : List α} {ex : List Value} (h : w.heap[b]? = some (.cells (d.map enc ++ ex).toArray e (0, 0))) : Holds enc w b 0 d.toArray := by
  intro j hj
  have hj' : j < d.length := by simpa using hj
  rw [Nat.zero_add]
  refine ⟨?_, by simp [World.frozen?, h]⟩
  simp only [World.cell?, h]
  show (d.map enc ++ ex).toArray[j]? = _
  rw [List.getElem?_toArray, List.getElem?_append_left (by rw [List.length_map]; exact hj'), List.getElem?_map, List.getElem?_eq_getElem hj']
  simp [hj']
theorem H.sorted {E : Ctx} {w : World} {L : List Assn} {b e n : Nat} {d d' : List α} {ex : List Value} {os : Array Obj} (h : H E w (blk b e (d.map enc ++ ex) :: L)) (hl : d'.length = d.length) :
    H E (Go.Sort.grow (putRow enc (Go.Sort.ahead w n) b 0 d'.toArray) os) (blk b e (d'.map enc ++ ex) :: L) := by
  refine H.grow ?_ os
  have hb := h.one_get .here
  refine H.upd (o' := .cells (d'.map enc ++ ex).toArray e (0, 0)) h .here _ rfl rfl rfl ?_ ?_ ?_
  · simp [putRow, mapBlock, Go.Sort.ahead]
  · show ((Go.Sort.ahead w n).heap.modify b (onCells (putCells enc 0 d'.toArray)))[b]? = _
    rw [Array.getElem?_modify]
    have : (Go.Sort.ahead w n).heap[b]? = some (.cells (d.map enc ++ ex).toArray e (0, 0)) := hb
    rw [if_pos rfl, this]
    show some (Obj.cells (putCells enc 0 d'.toArray (d.map enc ++ ex).toArray) e (0, 0)) = _
    rw [putCells_front d' (d.map enc) ex (by rw [List.length_map]; exact hl.symm)]
  · intro k hk
    show ((Go.Sort.ahead w n).heap.modify b _)[k]? = _
    rw [Array.getElem?_modify, if_neg (fun e => hk e.symm)]
    rfl
end
end SX
namespace SX
open Go Go.Proofs Go.Sort Go.RowKit
abbrev toB (l : List UInt8) : ByteArray := ⟨l.toArray⟩
abbrev byL (x : ByteArray) : List UInt8 := x.data.toList
theorem toB_byL (x : ByteArray) : toB (byL x) = x := by cases x; rfl
def srtS (xs : List ByteArray) : List ByteArray := ((xs.map byL).mergeSort fun x y => decide (x ≤ y)).map toB
def cptS (xs : List ByteArray) : List ByteArray := (Lib.compact (xs.map byL)).map toB
theorem scsv_map (xs : List ByteArray) : xs.flatMap scsv = (xs.map byL).map encStr := by
  induction xs with
  | nil => rfl
  | cons x xs ih => rw [List.flatMap_cons, ih]; show Value.string x :: _ = Value.string (toB (byL x)) :: _; rw [toB_byL]; rfl
theorem scsv_map2 (ls : List (List UInt8)) : (ls.map toB).flatMap scsv = ls.map encStr := by
  induction ls with
  | nil => rfl
  | cons x xs ih => rw [List.map_cons, List.flatMap_cons, ih]; rfl
theorem srtS_len (xs : List ByteArray) : (srtS xs).length = xs.length := by
  unfold srtS; rw [List.length_map, (List.mergeSort_perm ..).length_eq, List.length_map]
theorem cptS_le (xs : List ByteArray) : (cptS xs).length ≤ xs.length := by
  unfold cptS; rw [List.length_map]; have := Lib.compact_length_le (xs.map byL); rw [List.length_map] at this; exact this
theorem sort_strs {P : Program} {f : FuncId} {e : TypeId}
    (h : ∀ (blk off cap : Nat) (ss : List (List UInt8)) (w : World), Holds encStr w blk off ss.toArray → blk < w.heap.size → ss.length < 4611686018427387904 →
      Calls P f #[.slice (some ⟨blk, off, none⟩) ss.length cap] w fun x w' => x = .returned (.tuple #[]) ∧ ∃ n os, w' = Go.Sort.grow (putRow encStr (Go.Sort.ahead w n) blk off (ss.mergeSort fun x y => decide (x ≤ y)).toArray) os)
    (h0 : ∀ (p : Option Addr) (cap : Nat) (w : World), Calls P f #[.slice p 0 cap] w fun x w' => x = .returned (.tuple #[]) ∧ w' = w)
    (v : Value) (xs : List ByteArray) (hl : xs.length ≤ 1099511627776) : Spec P f [v] [own e 1 v xs.length (xs.flatMap scsv)] (fun r L => r = .tuple #[] ∧ L = [own e 1 v xs.length ((srtS xs).flatMap scsv)]) := by
  refine Spec.own_cases (L := []) (fun hv h1 _ => ?_) (fun b cap ex hv h1 h2 h3 h4 => ?_)
  · subst hv
    obtain rfl := List.eq_nil_of_length_eq_zero h1
    intro E w hh
    refine (h0 none 0 w).mono fun x w' ⟨e1, e2⟩ => ?_
    subst e1 e2
    have e : srtS [] = [] := List.eq_nil_of_length_eq_zero (by rw [srtS_len]; rfl)
    rw [e]
    exact ⟨_, _, rfl, ⟨rfl, rfl⟩, hh.ent own_nil_ent⟩
  · subst hv
    intro E w hh
    rw [scsv_map] at hh
    have hb := hh.one_get .here
    have hcall := h b 0 cap (xs.map byL) w (holds_front hb) (Array.getElem?_eq_some_iff.1 hb).1 (by rw [List.length_map]; omega)
    rw [List.length_map] at hcall
    refine hcall.mono fun x w' ⟨e1, n, os, e2⟩ => ?_
    subst e1 e2
    refine ⟨_, _, rfl, ⟨rfl, rfl⟩, ?_⟩
    have := H.sorted (n := n) (os := os) (d' := (xs.map byL).mergeSort fun x y => decide (x ≤ y)) hh (List.mergeSort_perm ..).length_eq
    rw [← scsv_map2] at this
    exact this.ent (own_close (n := 1) (by rw [flat_length scsv_len]; show (srtS xs).length * 1 = _; rw [srtS_len]) h4 h1 h2)
theorem compact_strs {P : Program} {f : FuncId} {e : TypeId}
    (h : ∀ (blk off cap : Nat) (zs : List (List UInt8)) (w : World), Holds encStr w blk off zs.toArray → zs.length ≤ 9223372036854775807 → zs.length ≤ cap →
      Calls P f #[.slice (some ⟨blk, off, none⟩) zs.length cap] w fun x w' => x = .returned (.slice (some ⟨blk, off, none⟩) (Lib.compact zs).length cap) ∧ ∃ q, w' = putRow encStr (Go.Sort.ahead w q) blk off (Lib.compact zs ++ List.replicate (zs.length - (Lib.compact zs).length) []).toArray)
    (h0 : ∀ (p : Option Addr) (cap : Nat) (w : World), Calls P f #[.slice p 0 cap] w fun x w' => x = .returned (.slice p 0 cap) ∧ w' = w)
    (v : Value) (xs : List ByteArray) (hl : xs.length ≤ 1099511627776) : Spec P f [v] [own e 1 v xs.length (xs.flatMap scsv)] (fun r L => L = [own e 1 r (cptS xs).length ((cptS xs).flatMap scsv)]) := by
  refine Spec.own_cases (L := []) (fun hv h1 _ => ?_) (fun b cap ex hv h1 h2 h3 h4 => ?_)
  · subst hv
    obtain rfl := List.eq_nil_of_length_eq_zero h1
    intro E w hh
    refine (h0 none 0 w).mono fun x w' ⟨e1, e2⟩ => ?_
    subst e1 e2
    have e : cptS [] = [] := List.eq_nil_of_length_eq_zero (by have := cptS_le []; simpa using this)
    rw [e]
    exact ⟨_, _, rfl, rfl, hh.ent own_nil_ent⟩
  · subst hv
    intro E w hh
    rw [scsv_map] at hh
    have hb := hh.one_get .here
    have hcall := h b 0 cap (xs.map byL) w (holds_front hb) (by rw [List.length_map]; omega) (by rw [List.length_map]; exact h1)
    rw [List.length_map] at hcall
    refine hcall.mono fun x w' ⟨e1, q, e2⟩ => ?_
    subst e1 e2
    have hle := cptS_le xs
    unfold cptS at hle
    rw [List.length_map] at hle
    refine ⟨_, _, rfl, rfl, ?_⟩
    have := H.sorted (n := q) (os := #[]) (d' := Lib.compact (xs.map byL) ++ List.replicate (xs.length - (Lib.compact (xs.map byL)).length) []) hh (by rw [List.length_append, List.length_replicate, List.length_map]; omega)
    rw [grow_empty, List.map_append, List.append_assoc, ← scsv_map2] at this
    have hl2 : (cptS xs).length = (Lib.compact (xs.map byL)).length := by unfold cptS; rw [List.length_map]
    rw [← hl2]
    rw [← hl2] at this
    exact this.ent (own_close (n := 1) (by rw [flat_length scsv_len]; rfl) (by rw [List.length_append, List.length_map, List.length_replicate, h4]; omega) (by omega) h2)
/-! ## the paths, plainly -/
theorem blLt (a b : ByteArray) : strLt a b = true ↔ byL a < byL b := by
  unfold strLt; rw [Lib.toList_data, Lib.toList_data, bl_iff]; exact Iff.rfl
theorem le_bl (a b : List UInt8) : decide (a ≤ b) = true ↔ strLt (toB b) (toB a) = false := by
  rw [decide_eq_true_iff, ← Bool.not_eq_true, blLt]; exact Iff.rfl
theorem srtS_pw (xs : List ByteArray) : (srtS xs).Pairwise fun a b => strLt b a = false := by
  have := List.pairwise_mergeSort (le := fun x y : List UInt8 => decide (x ≤ y)) (fun a b c h1 h2 => ?_) (fun a b => ?_) (xs.map byL)
  · unfold srtS
    rw [List.pairwise_map]
    exact this.imp fun {a b} h => (le_bl a b).1 h
  · rw [le_bl] at *
    cases h : strLt (toB c) (toB a) with
    | false => rfl
    | true =>
      rcases strLt_total (toB a) (toB b) with k | k | k
      · rw [strLt_trans h k] at h2; cases h2
      · rw [← k] at h2; rw [h] at h2; cases h2
      · rw [k] at h1; cases h1
  · show (decide (a ≤ b) || decide (b ≤ a)) = true
    rw [Bool.or_eq_true, le_bl, le_bl]
    cases h : strLt (toB b) (toB a) with
    | false => exact .inl rfl
    | true => exact .inr (strLt_asym h)
theorem srtS_mem (xs : List ByteArray) (p : ByteArray) : p ∈ srtS xs ↔ p ∈ xs := by
  unfold srtS
  rw [List.mem_map]
  constructor
  · rintro ⟨l, hl, rfl⟩
    rw [(List.mergeSort_perm ..).mem_iff, List.mem_map] at hl
    obtain ⟨x, hx, rfl⟩ := hl
    rw [toB_byL]; exact hx
  · intro h
    exact ⟨byL p, by rw [(List.mergeSort_perm ..).mem_iff]; exact List.mem_map_of_mem h, toB_byL p⟩
theorem cpt_inv (d : List ByteArray) (hs : d.Pairwise fun a b => strLt b a = false) : ∀ m, m ≤ d.length → ((Lib.compactUpTo (d.map byL).toArray m).map toB).Pairwise (fun a b => strLt a b = true) ∧ (∀ p, p ∈ (Lib.compactUpTo (d.map byL).toArray m).map toB ↔ ∃ j, j < m ∧ d[j]? = some p) := by
  intro m
  induction m with
  | zero => intro _; exact ⟨List.Pairwise.nil, fun p => by simp [Lib.compactUpTo]⟩
  | succ m ih =>
    intro hm
    obtain ⟨i1, i2⟩ := ih (by omega)
    have hget : ∀ j, j < d.length → (d.map byL).toArray[j]! = byL d[j]! := fun j hj => by
      rw [getElem!_pos _ j (by simpa using hj), getElem!_pos d j hj]; simp
    rw [Lib.compactUpTo_succ, List.map_append]
    have hdm : d[m]? = some d[m]! := by rw [getElem!_pos d m (by omega), List.getElem?_eq_getElem]
    by_cases hk : Lib.keeps (d.map byL).toArray m = true
    · rw [if_pos hk, hget m (by omega)]
      simp only [List.map_cons, List.map_nil]
      rw [toB_byL]
      refine ⟨List.pairwise_append.2 ⟨i1, List.pairwise_singleton _ _, fun a ha b hb => ?_⟩, fun p => ?_⟩
      · simp only [List.mem_singleton] at hb
        subst hb
        obtain ⟨j, hj, hja⟩ := (i2 a).1 ha
        have hm0 : m ≠ 0 := by omega
        unfold Lib.keeps at hk
        rw [decide_eq_true_iff, hget m (by omega), hget (m - 1) (by omega)] at hk
        have hne := hk.resolve_left hm0
        have hne' : d[m]! ≠ d[m - 1]! := fun e => hne (by rw [e])
        have hp : d[m - 1]? = some d[m - 1]! := by rw [getElem!_pos d (m - 1) (by omega), List.getElem?_eq_getElem]
        have hle : ∀ i k x y, i < k → d[i]? = some x → d[k]? = some y → strLt y x = false := fun i k x y hik hx hy => by
          obtain ⟨h1, rfl⟩ := List.getElem?_eq_some_iff.1 hx
          obtain ⟨h2, rfl⟩ := List.getElem?_eq_some_iff.1 hy
          exact List.pairwise_iff_getElem.1 hs i k h1 h2 hik
        have k1 : strLt d[m - 1]! d[m]! = true := by
          rcases strLt_total d[m - 1]! d[m]! with k | k | k
          · exact k
          · exact absurd k.symm hne'
          · rw [hle _ _ _ _ (by omega) hp hdm] at k; cases k
        by_cases hj2 : j = m - 1
        · subst hj2; rw [hp] at hja; cases hja; exact k1
        · have k2 := hle j (m - 1) a _ (by omega) hja hp
          rcases strLt_total a d[m - 1]! with k | k | k
          · exact strLt_trans k k1
          · rw [k]; exact k1
          · rw [k] at k2; cases k2
      · rw [List.mem_append, i2, List.mem_singleton]
        constructor
        · rintro (⟨j, hj, h⟩ | rfl)
          · exact ⟨j, by omega, h⟩
          · exact ⟨m, by omega, hdm⟩
        · rintro ⟨j, hj, h⟩
          by_cases hjm : j = m
          · subst hjm; rw [hdm] at h; exact .inr (Option.some.inj h).symm
          · exact .inl ⟨j, by omega, h⟩
    · rw [if_neg hk, List.map_nil, List.append_nil]
      refine ⟨i1, fun p => ?_⟩
      rw [i2]
      constructor
      · rintro ⟨j, hj, h⟩; exact ⟨j, by omega, h⟩
      · rintro ⟨j, hj, h⟩
        by_cases hjm : j = m
        · subst hjm
          unfold Lib.keeps at hk
          rw [decide_eq_true_iff] at hk
          have hm0 : j ≠ 0 := fun e => hk (.inl e)
          have he : (d.map byL).toArray[j]! = (d.map byL).toArray[j - 1]! := Classical.byContradiction fun hne => hk (.inr hne)
          rw [hget j (by omega), hget (j - 1) (by omega)] at he
          have he' : d[j]! = d[j - 1]! := by rw [← toB_byL d[j]!, he, toB_byL]
          refine ⟨j - 1, by omega, ?_⟩
          rw [hdm, he'] at h
          rw [← h, getElem!_pos d (j - 1) (by omega), List.getElem?_eq_getElem]
        · exact ⟨j, by omega, h⟩
/-- sorted and made compact: the texts, each once, rising -/
def uniS (xs : List ByteArray) : List ByteArray := cptS (srtS xs)
theorem uniS_rises (xs : List ByteArray) : (uniS xs).Pairwise fun a b => strLt a b = true := by
  have := (cpt_inv (srtS xs) (srtS_pw xs) (srtS xs).length (Nat.le_refl _)).1
  unfold uniS cptS Lib.compact; rw [List.length_map]; exact this
theorem uniS_mem (xs : List ByteArray) (p : ByteArray) : p ∈ uniS xs ↔ p ∈ xs := by
  have := (cpt_inv (srtS xs) (srtS_pw xs) (srtS xs).length (Nat.le_refl _)).2 p
  unfold uniS cptS Lib.compact; rw [List.length_map, this, ← srtS_mem, List.mem_iff_getElem?]
  constructor
  · rintro ⟨j, _, h⟩; exact ⟨j, h⟩
  · rintro ⟨j, h⟩; exact ⟨j, (List.getElem?_eq_some_iff.1 h).1, h⟩
theorem uniS_len (xs : List ByteArray) : (uniS xs).length ≤ xs.length := by
  have h1 := cptS_le (srtS xs); rw [srtS_len] at h1; exact h1
end SX
namespace SX
open Go
/-- a number of 32 bits -/
def U32 (n : Int) : Prop := 0 ≤ n ∧ n ≤ 4294967295
theorem U32.bv {n : Int} (h : U32 n) : n = ((BitVec.ofInt 32 n).toNat : Int) := by
  obtain ⟨h1, h2⟩ := h
  rw [BitVec.toNat_ofInt]
  omega
def U32s (l : List En) : Prop := ∀ e ∈ l, U32 e.2
theorem u32_zero : U32 0 := ⟨by decide, by decide⟩
theorem U32s.lookE {l : List En} (h : U32s l) (p : ByteArray) : U32 (lookE l p) := by
  induction l with
  | nil => exact u32_zero
  | cons e l ih =>
    unfold SX.lookE
    split
    · exact h e (.head _)
    · exact ih fun x hx => h x (.tail _ hx)
theorem U32s.lookB {l : List En} (h : U32s l) (p : ByteArray) : U32 (lookB l p) := by
  unfold SX.lookB
  split
  · rename_i e he
    split
    · exact h e (List.mem_of_getElem? he)
    · exact u32_zero
  · exact u32_zero
def markZ (b o t : Int) : Int := ((markW (BitVec.ofInt 32 b) (BitVec.ofInt 32 o) (BitVec.ofInt 32 t)).toNat : Int)
/-- what stands at a path, and whether it is a conflict -/
def oneE (b o t : Int) : Int × Bool := if o = t ∨ b = t then (o, false) else if b = o then (t, false) else (markZ b o t, true)
/-- the rows of a merge: a path, and what the three have there -/
abbrev Rw : Type := ByteArray × Int × Int × Int
def outR1 (r : Rw) : List En := if (oneE r.2.1 r.2.2.1 r.2.2.2).1 = 0 then [] else [(r.1, (oneE r.2.1 r.2.2.1 r.2.2.2).1)]
def cfR1 (r : Rw) : List Cf := if (oneE r.2.1 r.2.2.1 r.2.2.2).2 = true then [r] else []
def outR (rs : List Rw) : List En := rs.flatMap outR1
def cfR (rs : List Rw) : List Cf := rs.flatMap cfR1
theorem outR_len (rs : List Rw) : (outR rs).length ≤ rs.length := by
  induction rs with
  | nil => exact Nat.le_refl _
  | cons r rs ih =>
    rw [outR, List.flatMap_cons, List.length_append, List.length_cons]
    have : (outR1 r).length ≤ 1 := by unfold outR1; split <;> simp
    unfold outR at ih; omega
theorem cfR_len (rs : List Rw) : (cfR rs).length ≤ rs.length := by
  induction rs with
  | nil => exact Nat.le_refl _
  | cons r rs ih =>
    rw [cfR, List.flatMap_cons, List.length_append, List.length_cons]
    have : (cfR1 r).length ≤ 1 := by unfold cfR1; split <;> simp
    unfold cfR at ih; omega
def pathsE (a b c : List En) : List ByteArray := uniS (a.map (·.1) ++ b.map (·.1) ++ c.map (·.1))
/-- ours -/
def rowsB (a b c : List En) : List Rw := (pathsE a b c).map fun p => (p, lookB a p, lookB b p, lookB c p)
/-! ## the document's -/
end SX
namespace SX
open Go
def pathIn (a b c : List En) (q : ByteArray) : Prop := q ∈ a.map (·.1) ∨ q ∈ b.map (·.1) ∨ q ∈ c.map (·.1)
abbrev cfs (l : List Cf) : List Value := l.flatMap encC
theorem outR_succ (R : List Rw) (r : Rw) : outR (R ++ [r]) = outR R ++ outR1 r := by unfold outR; rw [List.flatMap_append]; simp
theorem cfR_succ (R : List Rw) (r : Rw) : cfR (R ++ [r]) = cfR R ++ cfR1 r := by unfold cfR; rw [List.flatMap_append]; simp
/-- strictly rising lists with the same members are the same -/
theorem rise_ext : ∀ {x y : List ByteArray}, x.Pairwise (fun a b => strLt a b = true) → y.Pairwise (fun a b => strLt a b = true) → (∀ q, q ∈ x ↔ q ∈ y) → x = y
  | [], [], _, _, _ => rfl
  | [], b :: y, _, _, h => by have := (h b).2 (.head _); cases this
  | a :: x, [], _, _, h => by have := (h a).1 (.head _); cases this
  | a :: x, b :: y, hx, hy, h => by
    obtain ⟨x1, x2⟩ := List.pairwise_cons.1 hx
    obtain ⟨y1, y2⟩ := List.pairwise_cons.1 hy
    have hab : a = b := by
      rcases List.mem_cons.1 ((h a).1 (.head _)) with k | k
      · exact k
      · rcases List.mem_cons.1 ((h b).2 (.head _)) with k' | k'
        · exact k'.symm
        · have h1 := y1 a k
          have h2 := x1 b k'
          rw [strLt_asym h1] at h2; cases h2
    subst hab
    congr 1
    refine rise_ext x2 y2 fun q => ?_
    constructor
    · intro hq
      rcases List.mem_cons.1 ((h q).1 (.tail _ hq)) with k | k
      · have := x1 q hq; rw [k, strLt_irrefl] at this; cases this
      · exact k
    · intro hq
      rcases List.mem_cons.1 ((h q).2 (.tail _ hq)) with k | k
      · have := y1 q hq; rw [k, strLt_irrefl] at this; cases this
      · exact k
end SX
namespace SX
open Go Go.Proofs
def k1 : List En := [(⟨#[97]⟩, 1), (⟨#[98]⟩, 2), (⟨#[99]⟩, 3)]
def k2 : List En := [(⟨#[97]⟩, 1), (⟨#[98]⟩, 5), (⟨#[99]⟩, 3)]
def k3 : List En := [(⟨#[97]⟩, 4), (⟨#[98]⟩, 2)]
def k4 : List En := [(⟨#[97]⟩, 1)]
def k5 : List En := [(⟨#[97]⟩, 2)]
end SX
namespace SX
open Go
end SX
namespace SX
open Go
section
variable {P : Program} {env : Env} {L : List Assn} {μ : PH}
/-- a slice expression with three indexes, from the first element on -/
theorem pu_slice3 {t e n by_ : Nat} [h : TSl P t e n by_] {x y z : Operand} {A : Option Addr} {l c : Nat} {k1 k2 : IntKind} {hi mx : Int} (a b : Nat) (hx : evalE env x = some (.slice A l c)) (hy : evalE env y = some (.int k1 hi)) (hz : evalE env z = some (.int k2 mx)) (h1 : hi = (a : Int)) (h2 : mx = (b : Int)) (hab : a ≤ b) (hc : b ≤ c) :
    Pu P env (.slice t x none (some y) (some z)) (.slice A a b) := fun ρ hρ _ _ _ _ _ w => by
  obtain ⟨i, hu, hi, hin, hib⟩ := h.ok
  subst h1 h2
  have e2 : ¬ ((c : Int) < (b : Int)) := by omega
  have q1 : (0 : Int) ≤ (a : Int) ∧ (a : Int) ≤ (b : Int) := by omega
  have q2 : (0 : Int) ≤ (b : Int) ∧ (b : Int) ≤ (c : Int) := by omega
  simp [execOp, hρ x _ hx, hρ y _ hy, hρ z _ hz, Instr.sliceAt, Instr.slice, run_underlying hu, Instr.sliceBounds, Instr.sliceBound, asIntOf, Go.sizeOf, typeInfo, hi, q1, q2, hab, hc]
  intro _
  have h0 : ∀ a : Addr, a.add 0 = a := fun a => by unfold Addr.add; split <;> simp_all
  cases A <;> simp [h0]
/-- a slice that is full and only read, or one of the call's own -/
def Cat (μ : PH) (e n : Nat) (v : Value) (l : Nat) (xs : List Value) (L R : List Assn) : Prop :=
  (L = ro μ :: R ∧ Row μ v n l xs ∧ ∃ A, v = .slice A l l) ∨ L = own e n v l xs :: ro μ :: R
end
section
variable {P : Program} {env : Env} {L R : List Assn} {μ : PH}
theorem H.append_full {E : Ctx} {w : World} {t e : TypeId} {n by_ : Nat} (ht : TSl P t e n by_) {zs : List Value} (hz : TZero P e zs) (hzl : zs.length = n) (hn0 : 0 < n)
    {v s : Value} {l m : Nat} {xs news : List Value} {A : Option Addr} (hv : v = .slice A l l) (hr : Row μ v n l xs) (h : H E w (ro μ :: R)) (hs : Row μ s n m news) (h63 : l + m ≤ maxLen) (hby : (l + m) * by_ ≤ 140737488355328) (ty : TypeId) :
    ∃ v' w' L', (Builtin.append_ #[t, t] ty #[v, s]).run P w = .ok v' w' ∧ H E w' L' ∧ Cat μ e n v' (l + m) (xs ++ news) L' R := by
  obtain ⟨i, hu, hi, hin, hib⟩ := ht.ok
  obtain ⟨i', z, hi', hzz, hzc⟩ := hz.ok
  have : i' = i := Option.some.inj (hi'.symm.trans hi)
  subst this
  subst hv
  have hs' := hs
  obtain ⟨hsl, B, c, rfl, _, _, _, hpos⟩ := hs
  by_cases hm0 : m = 0
  · subst hm0
    have hnil : news = [] := List.eq_nil_of_length_eq_zero (by rw [hsl]; simp)
    subst hnil
    refine ⟨.slice A l l, w, _, ?_, h, .inl ⟨rfl, by simpa using hr, A, rfl⟩⟩
    have hld : ∀ B : Addr, (loadCells B 0).run P w = .ok #[] w := fun B => run_loadCells_list (P := P) w B [] (by simp)
    cases A <;> cases B <;> simp [Builtin.append_, run_underlying hu, Go.sizeOf, typeInfo, hi, Builtin.lenOf, Builtin.firstCells, storeCells, hld]
  · by_cases hl0 : l = 0
    · -- an empty slice: nil or not, what comes is new
      subst hl0
      have hxn : xs = [] := List.eq_nil_of_length_eq_zero (by rw [hr.1]; simp)
      subst hxn
      obtain ⟨ab, off, rfl, hrow⟩ := hpos (by omega)
      have hcells : ∀ j u, news[j]? = some u → w.cell? ((⟨ab, off, none⟩ : Addr).add j) = some u := fun j u hj => by
        rw [addr_add]; exact ro_cell (L := ro μ :: R) h (hrow j u hj)
      have hld : ∀ (w : World) (B : Addr), (loadCells B 0).run P w = .ok #[] w := fun w B => run_loadCells_list (P := P) w B [] (by simp)
      have hf := run_firstCells_some (P := P) w.drew i'.size m ⟨ab, off, none⟩ m c news (by rw [hsl, hin]) (by simpa using hcells)
      have h63' : ¬ (9223372036854775807 < (m : Int)) := by simp only [maxLen] at h63; omega
      have h48 : Builtin.nextslicecap (0 + m) 0 * i'.bytes ≤ 281474976710656 := growslice_fits (by omega) (by rw [hib]; exact hby)
      rw [Nat.zero_add] at h48
      have h48' : ¬ (281474976710656 < Builtin.nextslicecap m 0 * i'.bytes) := by omega
      have hge := grownCap_ge w m 0 e
      have hcm : grownCap w m 0 e ≤ maxLen := grownCap_le_maxLen w m 0 e (by omega)
      have hrun : (Builtin.append_ #[t, t] ty #[.slice A 0 0, .slice (some ⟨ab, off, none⟩) m c]).run P w = .ok (.slice (some ⟨w.heap.size, 0, none⟩) m (grownCap w m 0 e)) (w.drew.alloc (.cells (news.toArray ++ Builtin.zeroCells z.cells (grownCap w m 0 e - m)) e)) := by
        have hfo : (Builtin.firstCells i'.size 0 (.slice A 0 0)).run P w.drew = .ok #[] w.drew := by cases A <;> simp [Builtin.firstCells, hld]
        simp [Builtin.append_, run_underlying hu, Go.sizeOf, typeInfo, zeroValue, hi, hzz, Builtin.lenOf, hm0, h63', h48', Question.forced, hf, hfo, newRow, grownCap]
      rw [Nat.zero_add]
      refine ⟨_, _, own e n (.slice (some ⟨w.heap.size, 0, none⟩) m (grownCap w m 0 e)) m news :: ro μ :: R, hrun, ?_, .inr rfl⟩
      refine (H.alloc (w := w.drew) h.drew _).ent (Ent.imp fun mm hm => ⟨hsl, .inr ⟨w.heap.size, _, _, rfl, hm, hge, hcm, ?_, ?_⟩⟩)
      · simp only [Array.size_append, List.size_toArray, size_zeroCells, hzc, hzl, hsl, ← Nat.add_mul]
        congr 1
        omega
      · simp only [Array.toList_append]
        rw [← hsl]
        exact List.take_left
    · obtain ⟨hxl, A', cap, hA, hlc, hcm0, _, hpr⟩ := hr
      obtain ⟨rb, ro_, hA2, hrr⟩ := hpr (by omega)
      simp only [Value.slice.injEq] at hA
      obtain ⟨hA3, _, hcap⟩ := hA
      subst hcap
      subst hA3
      subst hA2
      obtain ⟨ab, off, rfl, hrow⟩ := hpos (by omega)
      have hcells : ∀ j u, news[j]? = some u → w.cell? ((⟨ab, off, none⟩ : Addr).add j) = some u := fun j u hj => by
        rw [addr_add]; exact ro_cell (L := ro μ :: R) h (hrow j u hj)
      have hold : ∀ j u, xs[j]? = some u → w.cell? ((⟨rb, ro_, none⟩ : Addr).add j) = some u := fun j u hj => by
        rw [addr_add]; exact ro_cell (L := ro μ :: R) h (hrr j u hj)
      have hge := grownCap_ge w (l + m) l e
      have hcm : grownCap w (l + m) l e ≤ maxLen := grownCap_le_maxLen w (l + m) l e h63
      have hrun := run_append_grow (P := P) w t ty e i' z hu hi hzz ⟨rb, ro_, none⟩ l l xs (by rw [hxl, hin]) hold ⟨ab, off, none⟩ m c news (by rw [hsl, hin]) hcells (by omega) (by simp only [maxLen] at h63; omega) (growslice_fits (by omega) (by rw [hib]; exact hby))
      refine ⟨_, _, own e n (.slice (some ⟨w.heap.size, 0, none⟩) (l + m) (grownCap w (l + m) l e)) (l + m) (xs ++ news) :: ro μ :: R, hrun, ?_, .inr rfl⟩
      have hll : (xs ++ news).length = (l + m) * n := by rw [List.length_append, hxl, hsl, Nat.add_mul]
      refine (H.alloc (w := w.drew) h.drew _).ent (Ent.imp fun mm hm => ⟨hll, .inr ⟨w.heap.size, _, _, rfl, hm, hge, hcm, ?_, ?_⟩⟩)
      · simp only [Array.size_append, List.size_toArray, size_zeroCells, hzc, hzl, hsl, hxl, ← Nat.add_mul]
        congr 1
        omega
      · simp only [Array.toList_append, List.append_assoc]
        rw [← List.append_assoc, ← hll]
        exact List.take_left
/-- append of what is only read to a slice that is full and only read, or of the call's own -/
theorem ef_append_cat {t e n by_ : Nat} [ht : TSl P t e n by_] {zs : List Value} [hz : TZero P e zs] {x y : Operand} {v s : Value} {l m : Nat} {xs news : List Value}
    (hc : Cat μ e n v l xs L R) (hs : Row μ s n m news) (hx : evalE env x = some v) (hy : evalE env y = some s) (h1 : news.all Value.oneCell' = true) (h63 : l + m ≤ maxLen) (hby : (l + m) * by_ ≤ 140737488355328) (hzl : zs.length = n := by rfl) (hn0 : 0 < n := by decide) :
    Ef P env L (.call { callee := .builtin .append, args := #[x, y], argTypes := #[t, t] }) (fun k => ∀ v' L', Cat μ e n v' (l + m) (xs ++ news) L' R → k v' L') := by
  intro ro_ dst tt pos af g N E a w next Q k hf hh hk hn
  rcases hc with ⟨rfl, hr, A, hA⟩ | rfl
  · obtain ⟨v', w', L', hrun, h', hc'⟩ := H.append_full (P := P) ht hz hzl hn0 hA hr hh hs h63 hby tt
    exact wpIn_value (run_builtin_append (v := v') (w' := w') (by rw [hf.ev x _ hx, hf.ev y _ hy]; exact hrun)) <| hn _ _ _ (hk v' L' hc') h'
  · obtain ⟨v', w', hrun, h', _⟩ := H.append_ro (P := P) (L := ro μ :: R) ht hz hzl hn0 hh hs h1 h63 hby tt
    exact wpIn_value (run_builtin_append (v := v') (w' := w') (by rw [hf.ev x _ hx, hf.ev y _ hy]; exact hrun)) <| hn _ _ _ (hk v' _ (.inr rfl)) h'
end
end SX
namespace SX
open Go
theorem u32s_cut {p : ByteArray} {l : List En} (h : U32s l) : U32s (cutE p l) := fun e he => h e (cutE_mem he)
theorem u32s_put {t : List En} (h : U32s t) (p : ByteArray) {b : Int} (hb : U32 b) : U32s (putE t p b) := by
  intro e he
  unfold putE at he
  split at he
  · exact h e he
  · rw [List.mem_append, List.mem_append] at he
    rcases he with (he | he) | he
    · exact h e ((List.takeWhile_sublist _).subset he)
    · split at he
      · cases he
      · rw [List.mem_singleton] at he; subst he; exact hb
    · exact u32s_cut (fun e he => h e ((List.dropWhile_sublist _).subset he)) e he
theorem u32s_make (l : List En) : ∀ t, U32s t → U32s l → U32s (l.foldl (fun t e => putE t e.1 e.2) t) := by
  induction l with
  | nil => intro t h _; exact h
  | cons e l ih =>
    intro t h hl
    rw [List.foldl_cons]
    exact ih _ (u32s_put h _ (hl e (by simp))) (fun x hx => hl x (by simp [hx]))
theorem u32s_good {x : List En} (h : U32s x) : U32s (goodE x) := by
  refine u32s_make _ [] (fun _ h => by cases h) (fun e he => ?_)
  obtain ⟨y, hy, rfl⟩ := List.mem_map.1 he
  exact h y (List.mem_of_mem_take hy)
end SX
namespace SX
open Go
theorem lookE_mem {l : List En} (hr : Rises l) {e : En} (h : e ∈ l) : lookE l e.1 = e.2 := by
  obtain ⟨k, hk⟩ := List.mem_iff_getElem?.1 h
  refine lookE_at hk (strEq_refl _) fun j x hj hx => ?_
  exact strEq_false.2 (strLt_ne (rises_get hr hj hx hk))
theorem lookE_not {l : List En} {p : ByteArray} (h : p ∉ l.map (·.1)) : lookE l p = 0 :=
  lookE_none fun e he => strEq_false.2 fun hp => h (List.mem_map.2 ⟨e, he, hp⟩)
/-- rising lists of entries whose blobs aren't 0 are told by what is found -/
theorem tree_ext {x y : List En} (hx : Rises x) (hy : Rises y) (fx : ∀ e ∈ x, e.2 ≠ 0) (fy : ∀ e ∈ y, e.2 ≠ 0) (h : ∀ p, lookE x p = lookE y p) : x = y := by
  have hp : x.map (·.1) = y.map (·.1) := by
    refine rise_ext (List.pairwise_map.2 hx) (List.pairwise_map.2 hy) fun q => ?_
    have key : ∀ {x y : List En}, Rises x → (∀ e ∈ x, e.2 ≠ 0) → (∀ p, lookE x p = lookE y p) → q ∈ x.map (·.1) → q ∈ y.map (·.1) := fun hx fx h hq => by
      obtain ⟨e, he, rfl⟩ := List.mem_map.1 hq
      by_cases k : e.1 ∈ List.map (fun x => x.1) ‹List En›
      · exact k
      · have h1 := lookE_mem hx he
        rw [h, lookE_not k] at h1
        exact absurd h1.symm (fx e he)
    exact ⟨key hx fx h, key hy fy fun p => (h p).symm⟩
  have e1 : ∀ l : List En, Rises l → l = (l.map (·.1)).map fun p => (p, lookE l p) := fun l hl => by
    rw [List.map_map]
    conv => lhs; rw [← List.map_id l]
    exact List.map_congr_left fun e he => by show e = (e.1, lookE l e.1); rw [lookE_mem hl he]
  rw [e1 x hx, e1 y hy, hp]
  exact List.map_congr_left fun p _ => by rw [h]
theorem pathsE_mem (a b c : List En) (q : ByteArray) : q ∈ pathsE a b c ↔ pathIn a b c q := by
  rw [pathsE, uniS_mem, List.mem_append, List.mem_append, or_assoc]; rfl
theorem look_pathIn {a b c : List En} {q : ByteArray} (h : ¬ pathIn a b c q) : lookE a q = 0 ∧ lookE b q = 0 ∧ lookE c q = 0 :=
  ⟨lookE_not fun k => h (.inl k), lookE_not fun k => h (.inr (.inl k)), lookE_not fun k => h (.inr (.inr k))⟩
/-- the rows: rising paths, each with what is found -/
def rowsL (ps : List ByteArray) (a b c : List En) : List Rw := ps.map fun p => (p, lookE a p, lookE b p, lookE c p)
theorem rowsB_L {a b c : List En} (ha : Rises a) (hb : Rises b) (hc : Rises c) : rowsB a b c = rowsL (pathsE a b c) a b c :=
  List.map_congr_left fun p _ => by rw [look_same ha, look_same hb, look_same hc]
theorem outR_rises {rs : List Rw} (h : rs.Pairwise fun x y => strLt x.1 y.1 = true) : Rises (outR rs) := by
  induction rs with
  | nil => exact List.Pairwise.nil
  | cons r rs ih =>
    obtain ⟨h1, h2⟩ := List.pairwise_cons.1 h
    show Rises (outR1 r ++ outR rs)
    refine List.pairwise_append.2 ⟨?_, ih h2, fun x hx y hy => ?_⟩
    · unfold outR1; split
      · exact List.Pairwise.nil
      · exact List.pairwise_singleton _ _
    · have e1 : x.1 = r.1 := by
        unfold outR1 at hx; split at hx
        · cases hx
        · rw [List.mem_singleton] at hx; rw [hx]
      obtain ⟨r', hr', hy'⟩ := List.mem_flatMap.1 hy
      have e2 : y.1 = r'.1 := by
        unfold outR1 at hy'; split at hy'
        · cases hy'
        · rw [List.mem_singleton] at hy'; rw [hy']
      rw [e1, e2]; exact h1 r' hr'
theorem outR_mem {rs : List Rw} {e : En} (h : e ∈ outR rs) : ∃ r ∈ rs, e = (r.1, (oneE r.2.1 r.2.2.1 r.2.2.2).1) ∧ (oneE r.2.1 r.2.2.1 r.2.2.2).1 ≠ 0 := by
  obtain ⟨r, hr, hy⟩ := List.mem_flatMap.1 h
  unfold outR1 at hy; split at hy
  · cases hy
  · next k => rw [List.mem_singleton] at hy; exact ⟨r, hr, hy, k⟩
theorem outR_full {rs : List Rw} : ∀ e ∈ outR rs, e.2 ≠ 0 := fun e he => by
  obtain ⟨r, _, rfl, k⟩ := outR_mem he; exact k
theorem cfR_mem {rs : List Rw} {r : Rw} : r ∈ cfR rs ↔ r ∈ rs ∧ (oneE r.2.1 r.2.2.1 r.2.2.2).2 = true := by
  constructor
  · intro h
    obtain ⟨r', hr, hy⟩ := List.mem_flatMap.1 h
    unfold cfR1 at hy; split at hy
    · next k => rw [List.mem_singleton] at hy; subst hy; exact ⟨hr, k⟩
    · cases hy
  · rintro ⟨h1, h2⟩
    exact List.mem_flatMap.2 ⟨r, h1, by unfold cfR1; rw [if_pos h2]; exact List.mem_singleton.2 rfl⟩
section
variable {a b c : List En}
theorem rows_pw (a b c : List En) : (rowsB a b c).Pairwise fun x y => strLt x.1 y.1 = true := by
  unfold rowsB
  exact List.pairwise_map.2 (uniS_rises _)
theorem one_zero : oneE 0 0 0 = (0, false) := rfl
/-- what is found in the merged tree -/
theorem look_out (ha : Rises a) (hb : Rises b) (hc : Rises c) (p : ByteArray) : lookE (outR (rowsB a b c)) p = (oneE (lookE a p) (lookE b p) (lookE c p)).1 := by
  have hR := outR_rises (rows_pw a b c)
  by_cases hp : pathIn a b c p
  · by_cases h0 : (oneE (lookE a p) (lookE b p) (lookE c p)).1 = 0
    · rw [h0]
      refine lookE_not fun k => ?_
      obtain ⟨e, he, rfl⟩ := List.mem_map.1 k
      obtain ⟨r, hr, he2, hn⟩ := outR_mem he
      rw [rowsB_L ha hb hc] at hr
      obtain ⟨q, _, rfl⟩ := List.mem_map.1 hr
      have : q = e.1 := by rw [he2]
      subst this
      exact hn h0
    · have hm : (p, (oneE (lookE a p) (lookE b p) (lookE c p)).1) ∈ outR (rowsB a b c) := by
        refine List.mem_flatMap.2 ⟨(p, lookE a p, lookE b p, lookE c p), ?_, ?_⟩
        · rw [rowsB_L ha hb hc]; exact List.mem_map.2 ⟨p, (pathsE_mem a b c p).2 hp, rfl⟩
        · unfold outR1; rw [if_neg h0]; exact List.mem_singleton.2 rfl
      exact lookE_mem hR hm
  · obtain ⟨h1, h2, h3⟩ := look_pathIn hp
    rw [h1, h2, h3, one_zero]
    refine lookE_not fun k => ?_
    obtain ⟨e, he, rfl⟩ := List.mem_map.1 k
    obtain ⟨r, hr, he2, hn⟩ := outR_mem he
    rw [rowsB_L ha hb hc] at hr
    obtain ⟨q, hq, rfl⟩ := List.mem_map.1 hr
    have : q = e.1 := by rw [he2]
    subst this
    exact hp ((pathsE_mem a b c _).1 hq)
theorem out_is {d : List En} (ha : Rises a) (hb : Rises b) (hc : Rises c) (hd : Rises d) (fd : ∀ e ∈ d, e.2 ≠ 0) (h : ∀ p, (oneE (lookE a p) (lookE b p) (lookE c p)).1 = lookE d p) : outR (rowsB a b c) = d :=
  tree_ext (outR_rises (rows_pw a b c)) hd outR_full fd fun p => by rw [look_out ha hb hc, h]
theorem cf_nil (ha : Rises a) (hb : Rises b) (hc : Rises c) (h : ∀ p, (oneE (lookE a p) (lookE b p) (lookE c p)).2 = false) : cfR (rowsB a b c) = [] := by
  refine List.eq_nil_iff_forall_not_mem.2 fun r hr => ?_
  obtain ⟨h1, h2⟩ := cfR_mem.1 hr
  rw [rowsB_L ha hb hc] at h1
  obtain ⟨q, _, rfl⟩ := List.mem_map.1 h1
  rw [h] at h2; cases h2
theorem one_bb (b t : Int) : oneE b b t = (t, false) := by unfold oneE; by_cases h : b = t <;> simp [h]
theorem one_bob (b o : Int) : oneE b o b = (o, false) := by unfold oneE; simp
theorem one_boo (b o : Int) : oneE b o o = (o, false) := by unfold oneE; simp
/-- two sides the same -/
theorem side_bbt (hb : GoodT a) (ht : GoodT c) : outR (rowsB a a c) = c ∧ cfR (rowsB a a c) = [] :=
  ⟨out_is hb.rises hb.rises ht.rises ht.rises ht.full fun p => by rw [one_bb], cf_nil hb.rises hb.rises ht.rises fun p => by rw [one_bb]⟩
theorem side_bob (hb : GoodT a) (ho : GoodT b) : outR (rowsB a b a) = b ∧ cfR (rowsB a b a) = [] :=
  ⟨out_is hb.rises ho.rises hb.rises ho.rises ho.full fun p => by rw [one_bob], cf_nil hb.rises ho.rises hb.rises fun p => by rw [one_bob]⟩
theorem side_boo (hb : GoodT a) (ho : GoodT b) : outR (rowsB a b b) = b ∧ cfR (rowsB a b b) = [] :=
  ⟨out_is hb.rises ho.rises ho.rises ho.rises ho.full fun p => by rw [one_boo], cf_nil hb.rises ho.rises ho.rises fun p => by rw [one_boo]⟩
end
end SX
namespace SX
open Go
section
variable {a b c : List En}
theorem out_good (ha : GoodT a) (hb : GoodT b) (hc : GoodT c) : GoodT (outR (rowsB a b c)) := by
  refine ⟨outR_rises (rows_pw a b c), fun e he => ?_, outR_full⟩
  obtain ⟨r, hr, he2, _⟩ := outR_mem he
  rw [rowsB_L ha.rises hb.rises hc.rises] at hr
  obtain ⟨q, hq, rfl⟩ := List.mem_map.1 hr
  have : q = e.1 := by rw [he2]
  subst this
  rcases (pathsE_mem a b c _).1 hq with k | k | k <;> obtain ⟨d, hd, he⟩ := List.mem_map.1 k
  · rw [← he]; exact ha.short d hd
  · rw [← he]; exact hb.short d hd
  · rw [← he]; exact hc.short d hd
end
end SX
namespace SX
section
variable {τ : Type} (S : List Int → Int → List Int) (T : Int → τ) (M : τ → τ → τ → τ) (z : τ)
/-- the bases that are still to come, one behind the other -/
def vloop (rec : Nat → List Int → Int → Option (τ × Bool) × Nat) : List Int → List Int → τ → Nat → Option τ × Nat
  | [], _, t, left => (some t, left)
  | c :: rest, node, t, left => match rec left node c with
    | (none, l) => (none, l)
    | (some (u, _), l) => vloop rec rest (node ++ [c]) (M u t (T c)) l
/-- a question: f is enough if it is no less than the steps that are left -/
def vrec : Nat → Nat → List Int → Int → Option (τ × Bool) × Nat
  | 0, left, _, _ => (none, left)
  | f + 1, left, x, y => if left = 0 then (none, 0) else match S x y with
    | [] => (some (z, false), left - 1)
    | b :: l => match vloop T M (vrec f) l [b] (T b) (left - 1) with
      | (none, k) => (none, k)
      | (some t, k) => (some (t, true), k)
theorem vloop_le {rec : Nat → List Int → Int → Option (τ × Bool) × Nat} (h : ∀ left x y, (rec left x y).2 ≤ left) : ∀ (rest node : List Int) (t : τ) (left : Nat), (vloop T M rec rest node t left).2 ≤ left
  | [], _, _, _ => Nat.le_refl _
  | c :: rest, node, t, left => by
    unfold vloop
    have h1 := h left node c
    generalize rec left node c = r at h1
    obtain ⟨u, l⟩ := r
    cases u with
    | none => exact h1
    | some u => exact Nat.le_trans (vloop_le h rest (node ++ [c]) (M u.1 t (T c)) l) h1
theorem vrec_le : ∀ (f left : Nat) (x : List Int) (y : Int), (vrec S T M z f left x y).2 ≤ left
  | 0, _, _, _ => Nat.le_refl _
  | f + 1, left, x, y => by
    unfold vrec
    split
    · exact Nat.zero_le _
    · split
      · exact Nat.sub_le _ _
      · rename_i b l hs
        have h1 := vloop_le T M (vrec_le f) l [b] (T b) (left - 1)
        generalize vloop T M (vrec S T M z f) l [b] (T b) (left - 1) = r at h1
        obtain ⟨u, k⟩ := r
        cases u <;> exact Nat.le_trans h1 (Nat.sub_le _ _)
theorem vloop_congr {r1 r2 : Nat → List Int → Int → Option (τ × Bool) × Nat} (n : Nat) (h : ∀ left x y, left ≤ n → r1 left x y = r2 left x y) (hle : ∀ left x y, (r1 left x y).2 ≤ left) : ∀ (rest node : List Int) (t : τ) (left : Nat), left ≤ n → vloop T M r1 rest node t left = vloop T M r2 rest node t left
  | [], _, _, _, _ => rfl
  | c :: rest, node, t, left, hn => by
    unfold vloop
    rw [← h left node c hn]
    have h1 := hle left node c
    generalize r1 left node c = r at h1
    obtain ⟨u, l⟩ := r
    cases u with
    | none => rfl
    | some u => exact vloop_congr n h hle rest (node ++ [c]) (M u.1 t (T c)) l (Nat.le_trans h1 hn)
theorem vrec_fuel : ∀ (f f' left : Nat) (x : List Int) (y : Int), left ≤ f → left ≤ f' → vrec S T M z f left x y = vrec S T M z f' left x y
  | 0, 0, _, _, _, _, _ => rfl
  | 0, f' + 1, left, x, y, h, _ => by
    obtain rfl : left = 0 := by omega
    unfold vrec; rw [if_pos rfl]
  | f + 1, 0, left, x, y, _, h => by
    obtain rfl : left = 0 := by omega
    unfold vrec; rw [if_pos rfl]
  | f + 1, f' + 1, left, x, y, h, h' => by
    unfold vrec
    by_cases h0 : left = 0
    · rw [if_pos h0, if_pos h0]
    · rw [if_neg h0, if_neg h0]
      cases S x y with
      | nil => rfl
      | cons b l =>
        dsimp only
        rw [vloop_congr T M (left - 1) (fun k x y hk => vrec_fuel f f' k x y (by omega) (by omega)) (vrec_le S T M z f) l [b] (T b) (left - 1) (Nat.le_refl _)]
/-- with all the steps that are left -/
def vall (left : Nat) (x : List Int) (y : Int) : Option (τ × Bool) × Nat := vrec S T M z left left x y
theorem vall_eq (left : Nat) (x : List Int) (y : Int) : vall S T M z left x y = if left = 0 then (none, 0) else match S x y with
    | [] => (some (z, false), left - 1)
    | b :: l => match vloop T M (vall S T M z) l [b] (T b) (left - 1) with
      | (none, k) => (none, k)
      | (some t, k) => (some (t, true), k) := by
  unfold vall
  cases left with
  | zero => unfold vrec; rfl
  | succ n =>
    rw [vrec, if_neg (by omega), if_neg (by omega)]
    cases S x y with
    | nil => rfl
    | cons b l =>
      dsimp only
      rw [Nat.add_sub_cancel, vloop_congr T M n (fun k x y hk => vrec_fuel S T M z n k k x y hk (Nat.le_refl _)) (vrec_le S T M z n) l [b] (T b) n (Nat.le_refl _)]
/-- a question under work -/
structure VF (τ : Type) where
  rest : List Int
  node : List Int
  tree : τ
def vfr : List Int → VF τ
  | [] => ⟨[], [], z⟩
  | b :: l => ⟨l, [b], T b⟩
def vup (u : τ) (f : VF τ) : VF τ := match f.rest with | [] => f | c :: r => ⟨r, f.node ++ [c], M u f.tree (T c)⟩
/-- what comes of a stack, the topmost first -/
def vst : List (VF τ) → Nat → Option (τ × Bool) × Nat
  | [], left => (none, left)
  | [f], left => match vloop T M (vall S T M z) f.rest f.node f.tree left with | (none, l) => (none, l) | (some t, l) => (some (t, !(f.node ++ f.rest).isEmpty), l)
  | f :: up :: st, left => match vloop T M (vall S T M z) f.rest f.node f.tree left with | (none, l) => (none, l) | (some t, l) => vst (vup T M t up :: st) l
termination_by l => l.length
theorem vst_cons (f : VF τ) (st : List (VF τ)) (left : Nat) : vst S T M z (f :: st) left = match vloop T M (vall S T M z) f.rest f.node f.tree left with
    | (none, l) => (none, l)
    | (some t, l) => match st with | [] => (some (t, !(f.node ++ f.rest).isEmpty), l) | up :: st => vst S T M z (vup T M t up :: st) l := by
  cases st with
  | nil => rw [vst]
  | cons up st => rw [vst]
theorem vst_pop (node : List Int) (t : τ) (up : VF τ) (st : List (VF τ)) (left : Nat) : vst S T M z (⟨[], node, t⟩ :: up :: st) left = vst S T M z (vup T M t up :: st) left := by
  rw [vst_cons]; rfl
theorem vst_end (node : List Int) (t : τ) (left : Nat) : vst S T M z [⟨[], node, t⟩] left = (some (t, !node.isEmpty), left) := by
  rw [vst_cons]
  show (some (t, !(node ++ []).isEmpty), left) = _
  rw [List.append_nil]
theorem vst_out (c : Int) (rest node : List Int) (t : τ) (st : List (VF τ)) : (vst S T M z (⟨c :: rest, node, t⟩ :: st) 0).1 = none := by
  rw [vst_cons, vloop, vall_eq, if_pos rfl]
theorem vst_push (c : Int) (rest node : List Int) (t : τ) (st : List (VF τ)) (left : Nat) (h : left ≠ 0) :
    vst S T M z (⟨c :: rest, node, t⟩ :: st) left = vst S T M z (vfr T z (S node c) :: ⟨c :: rest, node, t⟩ :: st) (left - 1) := by
  rw [vst_cons, vst_cons S T M z (vfr T z (S node c))]
  dsimp only
  rw [vloop, vall_eq, if_neg h]
  cases S node c with
  | nil =>
    show _ = vst S T M z (vup T M z ⟨c :: rest, node, t⟩ :: st) (left - 1)
    rw [vst_cons]
    dsimp only [vup]
    rw [List.append_assoc]; rfl
  | cons b l =>
    dsimp only [vfr]
    generalize vloop T M (vall S T M z) l [b] (T b) (left - 1) = r
    obtain ⟨u, k⟩ := r
    cases u with
    | none => rfl
    | some u =>
      show _ = vst S T M z (vup T M u ⟨c :: rest, node, t⟩ :: st) k
      rw [vst_cons]
      dsimp only [vup]
      rw [List.append_assoc]; rfl
theorem vst_start (x : List Int) (y : Int) (left : Nat) (h : left ≠ 0) : vall S T M z left x y = vst S T M z [vfr T z (S x y)] (left - 1) := by
  rw [vall_eq, if_neg h]
  cases S x y with
  | nil => rw [vst_cons]; rfl
  | cons b l =>
    rw [vst_cons]
    dsimp only [vfr]
    generalize vloop T M (vall S T M z) l [b] (T b) (left - 1) = r
    obtain ⟨u, k⟩ := r
    cases u <;> rfl
end
end SX
namespace SX
open Go Go.MapKept
open Go.ChangeMaps (setBlock)
section
variable {κ : Type} [DecidableEq κ]
/-- the stamps: each below the clock, no two alike -/
def Born (l : Ents κ) (c : Nat) : Prop := (∀ x ∈ l, x.2.2 < c) ∧ (l.map (·.2.2)).Nodup
omit [DecidableEq κ] in
theorem Born.nil (c : Nat) : Born ([] : Ents κ) c := ⟨(fun _ h => by cases h), List.nodup_nil⟩
theorem upd_borns (a : κ) (c : Nat) (v : Value) : ∀ (l : Ents κ), (upd l c a v).map (·.2.2) = l.map (·.2.2) ++ (if (mlook l a).isSome then [] else [c])
  | [] => rfl
  | x :: l => by
    unfold upd mlook
    by_cases e : x.1 = a
    · simp [e]
    · simp [e, upd_borns a c v l]
theorem Born.upd {l : Ents κ} {c : Nat} (h : Born l c) (a : κ) (v : Value) : Born (upd l c a v) (updC l c a) := by
  have hb := upd_borns a c v l
  unfold updC
  by_cases hs : (mlook l a).isSome = true
  · rw [if_pos hs, List.append_nil] at hb
    rw [if_pos hs]
    refine ⟨fun x hx => ?_, by rw [hb]; exact h.2⟩
    have : x.2.2 ∈ l.map (·.2.2) := by rw [← hb]; exact List.mem_map.2 ⟨x, hx, rfl⟩
    obtain ⟨y, hy, e⟩ := List.mem_map.1 this
    rw [← e]; exact h.1 y hy
  · rw [if_neg hs] at hb
    rw [if_neg hs]
    refine ⟨fun x hx => ?_, ?_⟩
    · have : x.2.2 ∈ l.map (·.2.2) ++ [c] := by rw [← hb]; exact List.mem_map.2 ⟨x, hx, rfl⟩
      rcases List.mem_append.1 this with k | k
      · obtain ⟨y, hy, e⟩ := List.mem_map.1 k
        rw [← e]; have := h.1 y hy; omega
      · rw [List.mem_singleton.1 k]; omega
    · rw [hb, List.nodup_append]
      refine ⟨h.2, by simp, fun x hx y hy e => ?_⟩
      rw [List.mem_singleton.1 hy] at e
      obtain ⟨z, hz, e2⟩ := List.mem_map.1 hx
      have := h.1 z hz
      omega
variable {P : Program} {env : Env} {L : List Assn}
/-- how far a range is: done, and what is to come, are all there are -/
def Going (l dn td : Ents κ) : Prop := (dn ++ td).Perm l
omit [DecidableEq κ] in
theorem Going.start (l : Ents κ) : Going l [] l := .refl _
omit [DecidableEq κ] in
theorem Going.step {l dn td : Ents κ} (h : Going l dn td) {x : κ × Value × Nat} (hx : x ∈ l) (hs : x.2.2 ∉ dn.map (·.2.2)) : ∃ td', Going l (dn ++ [x]) td' ∧ td.length = td'.length + 1 := by
  have hm : x ∈ dn ++ td := h.mem_iff.2 hx
  rcases List.mem_append.1 hm with k | k
  · exact absurd (List.mem_map.2 ⟨x, k, rfl⟩) hs
  · obtain ⟨s, t, rfl⟩ := List.append_of_mem k
    refine ⟨s ++ t, ?_, by simp; omega⟩
    refine List.Perm.trans ?_ h
    rw [List.append_assoc]
    exact List.Perm.append_left _ (show ([x] ++ (s ++ t)).Perm _ from (List.perm_middle (a := x) (l₁ := s) (l₂ := t)).symm)
end
end SX
namespace SX
open Go Go.MapKept Go.Lib
section
variable {P : Program} {env : Env}
end
end SX
namespace SX
open Go
section
variable {P : Program} {env : Env} {L L' : List Assn}
theorem own_cap2 {e n : Nat} {v : Value} {l : Nat} {xs : List Value} {m : PH} (h : Sat (own e n v l xs :: L) m) : ∃ A c, v = .slice A l c ∧ l ≤ c ∧ c ≤ maxLen ∧ (A = none → c = 0) ∧ ∀ a, A = some a → ∃ b, a = ⟨b, 0, none⟩ := by
  obtain ⟨m1, _, ⟨_, ho⟩, _⟩ := h
  rcases ho with ⟨rfl, rfl⟩ | ⟨g, cap, cur, rfl, _, h3, h4, _⟩
  · exact ⟨_, _, rfl, Nat.le_refl _, Nat.zero_le _, (fun _ => rfl), fun a h => by cases h⟩
  · exact ⟨_, _, rfl, h3, h4, (fun h => by cases h), fun a h => ⟨g, (Option.some.inj h).symm⟩⟩
theorem own_cell {E : Ctx} {w : World} {e n b c l i : Nat} {xs : List Value} {v : Value} (hh : H E w L) (hL : Take (own e n (.slice (some ⟨b, 0, none⟩) l c) l xs) L L') (hv : xs[i]? = some v) : w.cell? ⟨b, i, none⟩ = some v := by
  obtain ⟨m1, m2, ⟨_, ho⟩, _, _, s1, _⟩ := (hh.ent (Ent.perm hL.perm)).sat
  rcases ho with ⟨h0, _⟩ | ⟨g, cap, cur, h1, hg, _, _, _, htk⟩
  · cases h0
  · obtain ⟨h2, _, _⟩ := Value.slice.inj h1
    obtain ⟨rfl, _, _⟩ := Addr.mk.inj (Option.some.inj h2)
    have hw : w.heap[b]? = some (.cells cur e (0, 0)) := s1 _ _ hg
    rw [← htk, List.getElem?_take] at hv
    split at hv
    · rw [cell_of_row w b i _ e (0, 0) hw, ← Array.getElem?_toList]; exact hv
    · cases hv
/-- an element of a slice of the call's own -/
theorem rd_own {t : TypeId} [ht : TOne P t] {x : Operand} {e n b c l i : Nat} {xs : List Value} {v : Value} (hx : evalE env x = some (.pointer (some ⟨b, i, none⟩))) (hL : Take (own e n (.slice (some ⟨b, 0, none⟩) l c) l xs) L L') (hv : xs[i]? = some v) : Rd P env L (.load t x) v :=
  rd_of_ld hx fun {E w} hh => by
    have ha := run_isAgg ht.und w
    simp [loadVar, ha, own_cell hh hL hv]
theorem rd_ownA {t k : Nat} [ht : TAgg P t k] {x : Operand} {e n b c l i : Nat} {xs vs : List Value} (hx : evalE env x = some (.pointer (some ⟨b, i, none⟩))) (hL : Take (own e n (.slice (some ⟨b, 0, none⟩) l c) l xs) L L') (hl : vs.length = k) (hv : ∀ (j : Nat) (v : Value), vs[j]? = some v → xs[i + j]? = some v) : Rd P env L (.load t x) (.agg vs.toArray) :=
  rd_of_ld hx fun {E w} hh => by
    have ha := run_isAgg ht.und w
    have hr := run_loadCells_list (P := P) w ⟨b, i, none⟩ vs (fun j v hj => by rw [addr_add]; exact own_cell hh hL (hv j v hj))
    rw [hl] at hr
    simp [loadVar, ha, run_sizeOf ht.inf, hr]
theorem set_app {xs ex : List Value} {i : Nat} {v : Value} (h : i < xs.length) : (xs ++ ex).set i v = xs.set i v ++ ex := by rw [List.set_append_left _ _ h]
/-- an element of a slice of the call's own is written -/
theorem ef_store_own {t : TypeId} [ht : TOne P t] {x y : Operand} {e n b c l i : Nat} {xs : List Value} {v : Value} {R : List Assn} (hx : evalE env x = some (.pointer (some ⟨b, i, none⟩))) (hy : evalE env y = some v) (hL : Split L [own e n (.slice (some ⟨b, 0, none⟩) l c) l xs] R) (hi : i < xs.length) (hv : v.oneCell' = true) :
    Ef P env L (.store t x y) (fun k => k undef (own e n (.slice (some ⟨b, 0, none⟩) l c) l (xs.set i v) :: R)) := by
  intro ro dst tt pos af g N E a w next Q k hf hh hk hn
  have h2 := hh.ent hL.ent
  obtain ⟨h21, h22, h23, h24, h25⟩ := h2
  have k6 : Sat (own e n (.slice (some ⟨b, 0, none⟩) l c) l xs :: (E.X ++ R)) (fun b => w.heap[b]?) := Sat.perm (perm_out (.refl _)) _ h25
  rcases own_open k6 with ⟨h0, _⟩ | ⟨b', cap, ex, h1, h3, h4, h5, h6, h7⟩
  · cases h0
  · obtain ⟨h8, _, rfl⟩ := Value.slice.inj h1
    obtain ⟨rfl, _, _⟩ := Addr.mk.inj (Option.some.inj h8)
    have h9 : H E w (blk b e (xs ++ ex) :: R) := ⟨h21, h22, h23, h24, Sat.perm (perm_out (.refl _)).symm _ h7⟩
    refine ef_storeP (P := P) (t := t) (L := blk b e (xs ++ ex) :: R) (i := i) hx hy hv (by rw [List.length_append]; omega) ro dst tt pos af g N E a w next Q (fun u L' => u = undef ∧ Ent L' (own e n (.slice (some ⟨b, 0, none⟩) l c) l (xs.set i v) :: R)) hf h9 ⟨rfl, ?_⟩ ?_
    · rw [set_app hi]
      exact own_close (by rw [List.length_set]; exact h5) h6 h3 h4
    · rintro u w' L' ⟨rfl, he⟩ hh'
      exact hn _ _ _ hk (hh'.ent he)
theorem over_app {xs ex vs : List Value} {i : Nat} (h : i + vs.length ≤ xs.length) : over (xs ++ ex) vs i = over xs vs i ++ ex := by
  unfold over
  rw [List.take_append_of_le_length (by omega), List.drop_append_of_le_length h]; simp only [List.append_assoc]
theorem over_len {xs vs : List Value} {i : Nat} (h : i + vs.length ≤ xs.length) : (over xs vs i).length = xs.length := by
  unfold over; rw [List.length_append, List.length_append, List.length_take, List.length_drop]; omega
theorem ef_store_ownA {t k : Nat} [ht : TAgg P t k] {x y : Operand} {e n b c l i : Nat} {xs vs : List Value} {R : List Assn} (hx : evalE env x = some (.pointer (some ⟨b, i, none⟩))) (hy : evalE env y = some (.agg vs.toArray)) (hL : Split L [own e n (.slice (some ⟨b, 0, none⟩) l c) l xs] R) (hi : i + vs.length ≤ xs.length) (hl : vs.length = k) (hv : vs.all Value.oneCell' = true) :
    Ef P env L (.store t x y) (fun k => k undef (own e n (.slice (some ⟨b, 0, none⟩) l c) l (over xs vs i) :: R)) := by
  intro ro dst tt pos af g N E a w next Q k hf hh hk hn
  have h2 := hh.ent hL.ent
  obtain ⟨h21, h22, h23, h24, h25⟩ := h2
  have k6 : Sat (own e n (.slice (some ⟨b, 0, none⟩) l c) l xs :: (E.X ++ R)) (fun b => w.heap[b]?) := Sat.perm (perm_out (.refl _)) _ h25
  rcases own_open k6 with ⟨h0, _⟩ | ⟨b', cap, ex, h1, h3, h4, h5, h6, h7⟩
  · cases h0
  · obtain ⟨h8, _, rfl⟩ := Value.slice.inj h1
    obtain ⟨rfl, _, _⟩ := Addr.mk.inj (Option.some.inj h8)
    have h9 : H E w (blk b e (xs ++ ex) :: R) := ⟨h21, h22, h23, h24, Sat.perm (perm_out (.refl _)).symm _ h7⟩
    refine ef_storeAP (P := P) (t := t) (L := blk b e (xs ++ ex) :: R) (i := i) hx hy hv hl (by rw [List.length_append]; omega) ro dst tt pos af g N E a w next Q (fun u L' => u = undef ∧ Ent L' (own e n (.slice (some ⟨b, 0, none⟩) l c) l (over xs vs i) :: R)) hf h9 ⟨rfl, ?_⟩ ?_
    · rw [over_app hi]
      exact own_close (by rw [over_len hi]; exact h5) h6 h3 h4
    · rintro u w' L' ⟨rfl, he⟩ hh'
      exact hn _ _ _ hk (hh'.ent he)
/-- elements laid in cells -/
theorem flat_at {α : Type} {f : α → List Value} {n : Nat} (hf : ∀ a, (f a).length = n) {l : List α} {i : Nat} {a : α} (h : l[i]? = some a) (j : Nat) (v : Value) (hj : (f a)[j]? = some v) : (l.flatMap f)[i * n + j]? = some v := by
  have := flat_get hf l [] i a h j v hj
  rwa [List.append_nil] at this
theorem flat_over2 {α : Type} {f : α → List Value} {n : Nat} (hf : ∀ a, (f a).length = n) : ∀ {l : List α} {i : Nat} {a : α}, i < l.length → over (l.flatMap f) (f a) (i * n) = (l.set i a).flatMap f
  | [], _, _, h => by cases h
  | b :: l, 0, a, _ => by
    unfold over
    rw [Nat.zero_mul, List.take_zero, List.nil_append, Nat.zero_add, List.set_cons_zero, List.flatMap_cons, List.flatMap_cons, hf a, ← hf b, List.drop_left]
  | b :: l, i + 1, a, h => by
    have ih := flat_over2 hf (l := l) (i := i) (a := a) (by simpa using h)
    unfold over at ih ⊢
    rw [List.set_cons_succ, List.flatMap_cons, List.flatMap_cons, ← ih]
    rw [show (i + 1) * n = (f b).length + i * n by rw [hf b, Nat.add_mul, Nat.one_mul, Nat.add_comm], List.take_length_add_append, Nat.add_assoc, List.drop_length_add_append]
    simp only [List.append_assoc]
/-- make of elements of more cells than one -/
theorem madeCells_flat {zs : List Value} {n l : Nat} (hz : zs.length = n) (hn : 0 < n) : madeCells zs.toArray (l * n) = ((List.replicate l ()).flatMap fun _ => zs).toArray := by
  apply Array.ext
  · rw [size_madeCells, List.size_toArray, flat_length (f := fun _ : Unit => zs) (k := n) (fun _ => hz), List.length_replicate]
  · intro i h1 h2
    have hi : i < l * n := by rwa [size_madeCells] at h1
    have hq : i / n < l := by rw [Nat.div_lt_iff_lt_mul hn]; exact hi
    have hr : i % n < zs.length := by rw [hz]; exact Nat.mod_lt _ hn
    have e1 : ((List.replicate l ()).flatMap fun _ => zs)[i]? = some zs[i % n] := by
      have := flat_at (f := fun _ : Unit => zs) (n := n) (fun _ => hz) (l := List.replicate l ()) (i := i / n) (a := ()) (by rw [List.getElem?_replicate, if_pos hq]) (i % n) zs[i % n] (List.getElem?_eq_getElem hr)
      rwa [show i / n * n + i % n = i by rw [Nat.mul_comm]; exact Nat.div_add_mod i n] at this
    have e2 : (madeCells zs.toArray (l * n))[i] = zs[i % n] := by
      subst hz
      simp only [madeCells, Array.getElem_map, Array.getElem_range, List.size_toArray]
      rw [getElem!_pos zs.toArray (i % zs.length) (by simpa using hr)]; simp
    rw [e2]
    have e3 : ((List.replicate l ()).flatMap fun _ => zs).toArray[i]? = some zs[i % n] := by rw [List.getElem?_toArray]; exact e1
    rw [Array.getElem?_eq_getElem h2] at e3
    exact (Option.some.inj e3).symm
theorem ef_makeN {t e n by_ : Nat} [ht : TSl P t e n by_] {zs : List Value} [hz : TZero P e zs] {x y : Operand} {kx ky : IntKind} {c : Int} (l : Nat) (hx : evalE env x = some (.int kx c)) (hy : evalE env y = some (.int ky c)) (h0 : c = (l : Int)) (hb : (by_ : Int) * l ≤ 281474976710656) (hc : l ≤ maxLen) (hzl : zs.length = n := by rfl) (hn0 : 0 < n := by decide) :
    Ef P env L (.makeSlice t x y) (fun k => ∀ b, k (.slice (some ⟨b, 0, none⟩) l l) (own e n (.slice (some ⟨b, 0, none⟩) l l) l ((List.replicate l ()).flatMap fun _ => zs) :: L)) := by
  intro ro dst ty pos af g N E a w next Q k hf hh hk hn
  obtain ⟨i, hu, hi, hin, hib⟩ := ht.ok
  obtain ⟨i', z', hi', hzz, hzc⟩ := hz.ok
  have : i' = i := Option.some.inj (hi'.symm.trans hi)
  subst this
  subst h0
  have hr := run_make (P := P) w t e i' z' hu hi hzz kx ky l l (by omega) (by omega) (by rw [hib]; exact hb) (by simp only [maxLen] at hc; omega)
  rw [hin, Int.toNat_natCast, hzc, madeCells_flat hzl hn0] at hr
  refine wpIn_value (v := .slice (some ⟨w.heap.size, 0, none⟩) l l) (w' := w.alloc (.cells ((List.replicate l ()).flatMap fun _ => zs).toArray e)) (by simp [execOp, hf.ev x _ hx, hf.ev y _ hy, hr]) (hn _ _ _ (hk _) ((hh.alloc _).ent ?_))
  have hfl : ((List.replicate l ()).flatMap fun _ => zs).length = l * n := by rw [flat_length (f := fun _ : Unit => zs) (k := n) (fun _ => hzl), List.length_replicate]
  refine Ent.imp fun m hm => ⟨hfl, .inr ⟨w.heap.size, l, _, rfl, hm, Nat.le_refl _, hc, by rw [List.size_toArray, hfl], ?_⟩⟩
  rw [← hfl]; exact List.take_length
end
end SX
namespace SX
open Go

def viaB (P : Program) (t : TypeId) (name : String) (ft off : Nat) (fn : Option (FuncId × Bool)) : Bool :=
  match P.info? t with
  | some inf => match inf.methods.find? (·.name == name) with
    | some m => decide (m.func = fn) && match m.path.toList with
      | [st] => st.deref && match P.underlying st.struct with
        | some (.struct fs) => match fs[st.index]? with
          | some f => f.type == ft && (f.offset == off && ((P.info? f.type).map (·.size != 0)).getD false)
          | none => false
        | _ => false
      | _ => false
    | none => false
  | none => false
/-- the method is promoted from the field at off, of type ft -/
class TVia (P : Program) (t : TypeId) (name : String) (ft off : outParam Nat) (fn : outParam (Option (FuncId × Bool))) : Prop where
  okB : viaB P t name ft off fn = true
theorem TVia.ok {P : Program} {t : TypeId} {name : String} {ft off : Nat} {fn : Option (FuncId × Bool)} (h : TVia P t name ft off fn) : ∃ inf m st fs f j, P.info? t = some inf ∧ inf.methods.find? (·.name == name) = some m ∧ m.func = fn ∧ m.path.toList = [st] ∧ st.deref = true ∧ P.underlying st.struct = some (.struct fs) ∧ fs[st.index]? = some f ∧ f.type = ft ∧ f.offset = off ∧ P.info? f.type = some j ∧ j.size ≠ 0 := by
  have h := h.okB
  unfold viaB at h
  split at h
  · rename_i inf hi
    split at h
    · rename_i m hm
      simp only [Bool.and_eq_true, decide_eq_true_eq] at h
      obtain ⟨h1, h⟩ := h
      split at h
      · rename_i st hp
        simp only [Bool.and_eq_true] at h
        obtain ⟨h2, h⟩ := h
        split at h
        · rename_i fs hu
          split at h
          · rename_i f hf
            simp only [Bool.and_eq_true, beq_iff_eq] at h
            obtain ⟨h3, h4, h5⟩ := h
            cases hj : P.info? f.type with
            | none => simp [hj] at h5
            | some j => simp [hj] at h5; exact ⟨inf, m, st, fs, f, j, hi, hm, h1, hp, h2, hu, hf, h3, h4, hj, h5⟩
          · cases h
        · cases h
      · cases h
    · cases h
  · cases h
section
variable {P : Program}
theorem run_follow1 {t : TypeId} {name : String} {ft off : Nat} {fn : Option (FuncId × Bool)} [h : TVia P t name ft off fn] (b : Nat) (w : World) :
    ∃ inf m, P.info? t = some inf ∧ inf.methods.find? (·.name == name) = some m ∧ m.func = fn ∧ m.path.isEmpty = false ∧ (follow m.path.toList t (.val (.pointer (some ⟨b, 0, none⟩)))).run P w = .ok (ft, .var ⟨b, off, none⟩) w := by
  obtain ⟨inf, m, st, fs, f, j, h1, h2, h3, h4, h5, h6, h7, h8, h9, h10, h11⟩ := h.ok
  refine ⟨inf, m, h1, h2, h3, ?_, ?_⟩
  · cases hm : m.path.isEmpty with
    | false => rfl
    | true =>
      have : m.path = #[] := by simpa using hm
      rw [this] at h4; simp at h4
  · rw [h4]
    rw [h8] at h10
    simp [follow, run_underlying h6, h7, h5, Place.get, asAddr, fieldPlace, Go.sizeOf, typeInfo, h10, h11, addr_add, h8, h9]
/-- a pointer in the field, and a method of it -/
theorem run_method_ptr {t : TypeId} {name : String} {ft off : Nat} {f : FuncId} [h : TVia P t name ft off (some (f, true))] [hp : TPtr P ft] {b : Nat} {w : World} {a : Option Addr} (hl : (loadVar ft ⟨b, off, none⟩).run P w = .ok (.pointer a) w) (k : Nat) :
    (method (k + 1) t (.pointer (some ⟨b, 0, none⟩)) name).run P w = .ok (f, .pointer a) w := by
  obtain ⟨inf, m, h1, h2, h3, h4, h5⟩ := run_follow1 (P := P) (t := t) (name := name) b w
  obtain ⟨e, he⟩ := hp.ok
  unfold method
  simp [typeInfo, h1, h2, h5, h3, receiverAt, run_underlying he, Place.get, hl]
/-- a call of a method of the embedded pointer -/
theorem InvS.ptr {t : TypeId} {name : String} {ft off : Nat} {f : FuncId} [h : TVia P t name ft off (some (f, true))] [hp : TPtr P ft] [hb : Body P f] {b : Nat} {a : Option Addr} {args : List Value} {pre R : List Assn} {post : Value → List Assn → Prop} (hl : Ld P (pre ++ R) ft ⟨b, off, none⟩ (.pointer a)) (hi : Spec P f (.pointer a :: args) pre post) :
    InvS P 0 t (.pointer (some ⟨b, 0, none⟩)) name args (pre ++ R) (fun v L => ∃ L', post v L' ∧ L = L' ++ R) := fun E w hw =>
  ⟨f, .pointer a, fun k _ => run_method_ptr (hl E w hw) k, hb, (hi.frame hw).mono fun _ _ ⟨u, L', he, hp, h'⟩ => ⟨u, L' ++ R, he, ⟨L', hp, rfl⟩, h'⟩⟩
theorem InvS.exA {α : Type} {F : α → List Assn} {d : Nat} {t : TypeId} {v : Value} {name : String} {args : List Value} {R : List Assn} {post : Value → List Assn → Prop} (h : ∀ x, InvS P d t v name args (F x ++ R) post) : InvS P d t v name args (exA F :: R) post := fun E w hw => by
  obtain ⟨k1, k2, k3, k4, k5⟩ := hw
  have k6 : Sat (SX.exA F :: (E.X ++ R)) (fun b => w.heap[b]?) := Sat.perm (perm_out (.refl _)) _ k5
  obtain ⟨x, hx⟩ := exA_open k6
  refine h x E w ⟨k1, k2, k3, k4, Sat.perm ?_ _ hx⟩
  rw [← List.append_assoc, ← List.append_assoc]
  exact List.Perm.append_right _ List.perm_append_comm
theorem H.ex {α : Type} {F : α → List Assn} {L : List Assn} {E : Ctx} {w : World} (hh : H E w (exA F :: L)) : ∃ x, H E w (F x ++ L) := by
  obtain ⟨k1, k2, k3, k4, k5⟩ := hh
  have k6 : Sat (exA F :: (E.X ++ L)) (fun b => w.heap[b]?) := Sat.perm (perm_out (.refl _)) _ k5
  obtain ⟨x, hx⟩ := exA_open k6
  exact ⟨x, k1, k2, k3, k4, Sat.perm (by rw [← List.append_assoc, ← List.append_assoc]; exact List.Perm.append_right _ List.perm_append_comm) _ hx⟩
end
end SX
