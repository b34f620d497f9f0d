/- A part of the proof: walks of the program's functions, and the rules by which they go. -/
import Derived.Test.YtieggbckcacihaaDoorB3df7d3c5
import Derived.Carry
import Derived.OpenShut
import Derived.ProofKit
import Derived.Deep.SlicePairs
import Derived.Deep.Grids
import Derived.Laws.CopyRow
import Derived.JoinedCond
import Derived.LaidMore
import Derived.Test.YtieggbckcacihaaDoorProg
namespace SX
open Go Go.RowKit Go.WideShapes Go.ChangeShapes

section
variable {H0 : Type} {enc : TypeId × Value → H0} {P : Program}
theorem stays_all (hl : laidOutB P = true) {W W' : World} (hb : Below W.heap.size W W') {sp : Nat → Bool} : ∀ {ts : List TypeId} {vs : List Value} {ds : List (DataW H0)} {ps : List MemPlace},
    (ts.all fun t => P.readableRec t && decide (t < P.types.size)) = true → DataW.TrodAll enc P W 0 (fun _ => true) true ts vs ds ps → (∀ x ∈ ps, x.block < W.heap.size) → (∀ x ∈ ps, sp x.block = true) → DataW.TrodAll enc P W' 0 sp true ts vs ds ps
  | [], [], [], _, _, h, _, _ => h
  | t :: ts, _ :: _, _ :: _, _, hT, ⟨p, q, h1, h2, e⟩, hlt, hs => by
    simp only [List.all_cons, Bool.and_eq_true, decide_eq_true_eq] at hT
    obtain ⟨⟨r1, r2⟩, r3⟩ := hT
    refine ⟨p, q, WideElems.Trod_stays hl r1 r2 h1 (fun x hx => hb.same (hlt x (by rw [e]; exact List.mem_append_left _ hx))) (fun x hx => hs x (by rw [e]; exact List.mem_append_left _ hx)), ?_, e⟩
    exact stays_all hl hb (by simpa using r3) h2 (fun x hx => hlt x (by rw [e]; exact List.mem_append_right _ hx)) (fun x hx => hs x (by rw [e]; exact List.mem_append_right _ hx))

/-- true, and the arguments as they were -/
theorem law_post {f : Func} {s : ChangeSpec} {apart fresh handsOn again : Bool} {tb : TypeId} {W W' : World} {args : Array Value} {ds : List (DataW H0)} {before : List MemPlace}
    (hl : laidOutB P = true) (hpar : (f.params.toList.all fun t => P.readableRec t && decide (t < P.types.size)) = true) (hv : s.vars = []) (hrt : f.resultTypes = #[tb]) (htb : P.underlying tb = some .bool)
    (hW : DataW.Whole enc P f.params.toList s.vars apart W args.toList ds [] before) (hb : Below W.heap.size W W')
    (hfn : s.fn H0 (ds ++ []) = { results := [.lit (.bool true)], args := ds }) : s.post enc P f apart fresh handsOn again W args (.bool true) W' := by
  have hW' := hW
  obtain ⟨p, q, hA, hV, hpq, hfz, hnd⟩ := hW
  rw [hv] at hV
  obtain ⟨_, rfl⟩ := trodVars_none hV
  have lt : ∀ x ∈ p, x.block < W.heap.size := fun x hx => hW'.lt x (by rw [hpq]; exact List.mem_append_left _ hx)
  refine post_old (pa := p) (pv := []) hb hpq hW' (fun b sp hd => ?_) (fun sp hsp => ?_) (fun sp hsp => ?_) (ok_one hrt rfl (okWide_bool_mk htb true))
  · rw [hfn, hrt]; exact trodAll_cons_mk (shut_bool htb _) trodAll_mk0
  · rw [hfn]; exact stays_all hl hb hpar hA lt (fun x hx => hsp x (by rw [hpq]; exact List.mem_append_left _ hx))
  · rw [hfn, hv]; rfl
end

/-! ### How arguments read -/
def icsk (k : IntKind) (n : Int) : List Value := [.int k n]
theorem icsk_len (k : IntKind) (n : Int) : (icsk k n).length = 1 := rfl
theorem spot_of_cell {w : World} {a : Addr} {v : Value} (h : w.cell? a = some v) : a = ⟨a.block, a.off, none⟩ ∧ CellAt (fun b => w.heap[b]?) a.block a.off v := by
  obtain ⟨b, o, s⟩ := a
  unfold World.cell? at h
  simp only at h
  split at h
  · rename_i cs t fr hh
    cases s with
    | none => exact ⟨rfl, cs, t, fr, hh, by simpa using h⟩
    | some s => simp at h
  · cases h
section
variable {H0 : Type} {enc : TypeId × Value → H0} {P : Program} {W : World} {base : Nat}
/-- a slice of integers -/
theorem arg_ints {t e : TypeId} {k : IntKind} {v : Value} {d : DataW H0} {ps : List MemPlace} {r : Reach} {b0 : Nat} (ht : P.underlying t = some (.slice e)) (he : P.underlying e = some (.int k)) (hc : P.cellsOf e = 1)
    (hv : Value.okWide P W r b0 t v) (h : DataW.Trod enc P W 0 (fun _ => true) true t v d ps) :
    ∃ xs : List Int, Row (fun b => W.heap[b]?) v 1 xs.length (xs.flatMap (icsk k)) ∧ (∀ x ∈ xs, (Lit.int k x).wf = true) ∧ ((d = .nil ∧ xs = []) ∨ ∃ spare, d = .slice (lits k xs) spare) := by
  obtain ⟨a0, len, cap, rfl⟩ := okWide_slice ht hv
  obtain ⟨fuel, hf⟩ := h
  rcases open_ints ht he hc hf with ⟨hcs, hx⟩ | ⟨a, len', cap', zs, hcs, _, hl, hm, hz, hx, hcell, hwz⟩
  · simp only [Value.cells, List.cons.injEq, Value.slice.injEq, and_true] at hcs
    obtain ⟨rfl, rfl, rfl⟩ := hcs
    cases hx
    exact ⟨[], Row.nil _ _, by simp, .inl ⟨rfl, rfl⟩⟩
  · simp only [Value.cells, List.cons.injEq, Value.slice.injEq, and_true] at hcs
    obtain ⟨rfl, rfl, rfl⟩ := hcs
    simp only [if_true] at hz
    have hlen : (zs.take len).length = len := by rw [List.length_take]; omega
    refine ⟨zs.take len, ?_, fun x hx' => hwz x (List.mem_of_mem_take hx'), .inr ⟨lits k (zs.drop len), by cases hx; rfl⟩⟩
    rw [hlen]
    refine ⟨by rw [flat_length (icsk_len k), hlen], some a, cap, rfl, hl, hm, fun h => (by cases h), fun hpos => ?_⟩
    have h0 := hcell 0 (by omega)
    rw [show a.add 0 = a by simp [Addr.add]] at h0
    have ha := (spot_of_cell h0).1
    refine ⟨a.block, a.off, by rw [← ha], fun j u hj => ?_⟩
    have hj' : j < len := by
      have := (List.getElem?_eq_some_iff.1 hj).1
      rw [flat_length (icsk_len k), hlen] at this; omega
    obtain ⟨z, hzj⟩ : ∃ z, (zs.take len)[j]? = some z := ⟨_, List.getElem?_eq_getElem (by omega)⟩
    have hu := flat_get (icsk_len k) (zs.take len) [] j z hzj 0 (.int k z) rfl
    rw [List.append_nil, Nat.mul_one, Nat.add_zero] at hu
    rw [hu] at hj
    cases hj
    have hc2 := (spot_of_cell (hcell j (by omega))).2
    rw [addr_block, addr_off] at hc2
    have : zs.getD j 0 = z := by
      rw [List.getElem?_take, if_pos hj'] at hzj
      simp [List.getD, hzj]
    rw [this] at hc2
    exact hc2
end
end SX
namespace SX
open Go Go.RowKit Go.WideShapes Go.ChangeShapes Go.Deep

section
variable {H0 : Type} {enc : TypeId × Value → H0} {P : Program} {W : World}
/-- the cells of a slice, element by element -/
theorem trod_slice {α : Type} [Inhabited α] {f : α → List Value} {n : Nat} (hn : 0 < n) (hf : ∀ a, (f a).length = n) (R : α → DataW H0 → Prop) {t e : TypeId} (ht : P.underlying t = some (.slice e)) (hc : P.cellsOf e = n)
    (hel : ∀ fuel cs D Pl, DataW.trod enc P W 0 (fun _ => true) true fuel e cs = some (D, Pl) → ∃ a, cs = f a ∧ R a D)
    {fuel : Nat} {cs : List Value} {d : DataW H0} {ps : List MemPlace} (h : DataW.trod enc P W 0 (fun _ => true) true fuel t cs = some (d, ps)) :
    ∃ (v : Value) (xs : List α), cs = [v] ∧ Row (fun b => W.heap[b]?) v n xs.length (xs.flatMap f) ∧ ((d = .nil ∧ xs = []) ∨ ∃ (Ds sp : List (DataW H0)), d = .slice Ds sp ∧ Ds.length = xs.length ∧ ∀ (i : Nat) (a : α) (D : DataW H0), xs[i]? = some a → Ds[i]? = some D → R a D) := by
  rcases open_slice ht h with ⟨rfl, hx⟩ | ⟨a, len, cap, m, n', D, Pl, rfl, _, hl, hm, hmm, hx, hall⟩
  · cases hx
    exact ⟨_, [], rfl, Row.nil _ _, .inl ⟨rfl, rfl⟩⟩
  simp only [if_true] at hmm
  subst hmm
  cases hx
  obtain ⟨A, hA⟩ := choose_lt (α := α) (n := m) (p := fun i x => W.cells? 0 (a.add (i * P.cellsOf e)) (P.cellsOf e) = some (f x) ∧ R x (D i)) (fun i hi => by
    obtain ⟨cs', h1, h2⟩ := hall i hi
    obtain ⟨a', rfl, hR⟩ := hel _ _ _ _ h2
    exact ⟨a', h1, hR⟩)
  have hlen : ((List.range len).map A).length = len := by simp
  have hcell : ∀ i j v, i < m → (f (A i))[j]? = some v → W.cell? (a.add (i * n + j)) = some v := by
    intro i j v hi hv
    obtain ⟨h2, _⟩ := hA i hi
    obtain ⟨_, _, h3⟩ := World.cells?_some h2
    have hj : j < (f (A i)).length := (List.getElem?_eq_some_iff.1 hv).1
    rw [hf] at hj
    have := h3 j (by rw [hc]; exact hj)
    rw [hc] at this
    have e : (a.add (i * n)).add j = a.add (i * n + j) := by
      obtain ⟨b, o, s⟩ := a
      unfold Addr.add
      split <;> split <;> simp_all [Nat.add_assoc]
    rw [e] at this
    rw [this]; exact hv
  refine ⟨_, (List.range len).map A, rfl, ?_, .inr ⟨_, _, rfl, by simp, fun i a' D' hi hD => ?_⟩⟩
  · rw [hlen]
    refine ⟨by rw [flat_length hf, hlen], some a, m, rfl, hl, hm, fun h => (by cases h), fun hpos => ?_⟩
    obtain ⟨v0, hv0⟩ : ∃ v, (f (A 0))[0]? = some v := ⟨_, List.getElem?_eq_getElem (by rw [hf]; exact hn)⟩
    have h0 := hcell 0 0 v0 (by omega) hv0
    rw [Nat.zero_mul, Nat.zero_add, show a.add 0 = a by simp [Addr.add]] at h0
    have ha := (spot_of_cell h0).1
    refine ⟨a.block, a.off, by rw [← ha], fun j u hj => ?_⟩
    have hj2 : j < len * n := by
      have := (List.getElem?_eq_some_iff.1 hj).1
      rwa [flat_length hf, hlen] at this
    have hq : j / n < len := Nat.div_lt_of_lt_mul (by rw [Nat.mul_comm]; exact hj2)
    have hr : j % n < n := Nat.mod_lt _ hn
    have hg : ((List.range len).map A)[j / n]? = some (A (j / n)) := by rw [List.getElem?_map, List.getElem?_range hq]; rfl
    obtain ⟨v, hv⟩ : ∃ v, (f (A (j / n)))[j % n]? = some v := ⟨_, List.getElem?_eq_getElem (by rw [hf]; exact hr)⟩
    have hu := flat_get hf _ [] (j / n) _ hg (j % n) v hv
    rw [List.append_nil, Nat.div_add_mod'] at hu
    rw [hu] at hj
    cases hj
    have hc2 := (spot_of_cell (hcell (j / n) (j % n) _ (by omega) hv)).2
    rw [addr_block, addr_off, Nat.div_add_mod'] at hc2
    exact hc2
  · have hi' : i < len := by
      have := (List.getElem?_eq_some_iff.1 hi).1
      simpa using this
    simp [hi'] at hi hD
    subst hi hD
    exact (hA i (by omega)).2

theorem wf_u8 {x : Int} (h : (Lit.int .u8 x).wf = true) : 0 ≤ x ∧ x ≤ 255 := by
  simp only [Lit.wf, Bool.and_eq_true, decide_eq_true_eq] at h
  exact h
/-- a slice of slices of integers -/
def gcs (a : Value × List Int) : List Value := [a.1]
theorem gcs_len (a : Value × List Int) : (gcs a).length = 1 := rfl
instance : Inhabited (Value × List Int) := ⟨(.bool false, [])⟩
theorem arg_graph {t e q : TypeId} {k : IntKind} {v : Value} {d : DataW H0} {ps : List MemPlace} {r : Reach} {b0 : Nat} (ht : P.underlying t = some (.slice e)) (he : P.underlying e = some (.slice q)) (hq : P.underlying q = some (.int k)) (hc : P.cellsOf e = 1) (hcq : P.cellsOf q = 1)
    (hv : Value.okWide P W r b0 t v) (h : DataW.Trod enc P W 0 (fun _ => true) true t v d ps) :
    ∃ xs : List (Value × List Int), Row (fun b => W.heap[b]?) v 1 xs.length (xs.flatMap gcs) ∧
      (∀ x ∈ xs, Row (fun b => W.heap[b]?) x.1 1 x.2.length (x.2.flatMap (icsk k)) ∧ ∀ y ∈ x.2, (Lit.int k y).wf = true) ∧
      ((d = .nil ∧ xs = []) ∨ ∃ (Ds sp : List (DataW H0)), d = .slice Ds sp ∧ Ds.length = xs.length ∧ ∀ (i : Nat) (a : Value × List Int) (D : DataW H0), xs[i]? = some a → Ds[i]? = some D → (D = .nil ∧ a.2 = []) ∨ ∃ (Ds sp : List (DataW H0)), D = .slice Ds sp ∧ Ds.length = a.2.length) := by
  obtain ⟨a0, len, cap, rfl⟩ := okWide_slice ht hv
  obtain ⟨fuel, hf⟩ := h
  obtain ⟨v', xs, hcs, hrow, hd⟩ := trod_slice (f := gcs) (by decide) gcs_len (fun x D => (Row (fun b => W.heap[b]?) x.1 1 x.2.length (x.2.flatMap (icsk k)) ∧ ∀ y ∈ x.2, (Lit.int k y).wf = true) ∧ ((D = .nil ∧ x.2 = []) ∨ ∃ (Ds sp : List (DataW H0)), D = .slice Ds sp ∧ Ds.length = x.2.length)) ht hc (fun fuel cs D Pl h => by
    obtain ⟨v2, ys, rfl, hr2, hd2⟩ := trod_slice (f := icsk k) (by decide) (icsk_len k) (fun y _ => (Lit.int k y).wf = true) he hcq (fun fuel cs D Pl h => by
      obtain ⟨y, rfl, _, hw⟩ := DataW.trod_int hq h
      exact ⟨y, rfl, hw⟩) h
    refine ⟨(v2, ys), rfl, ⟨hr2, fun y hy => ?_⟩, hd2.imp id fun ⟨Ds, sp, h1, h2, _⟩ => ⟨Ds, sp, h1, h2⟩⟩
    rcases hd2 with ⟨_, rfl⟩ | ⟨Ds, sp, h1, h2, h3⟩
    · cases hy
    · obtain ⟨i, hi⟩ := List.getElem?_of_mem hy
      have hlt := (List.getElem?_eq_some_iff.1 hi).1
      have h2' : Ds.length = ys.length := h2
      have hlt' : i < ys.length := hlt
      exact h3 i y (Ds[i]'(by omega)) hi (List.getElem?_eq_getElem (by omega))) hf
  simp only [Value.cells, List.cons.injEq, and_true] at hcs
  subst hcs
  refine ⟨xs, hrow, fun x hx => ?_, hd.imp id fun ⟨Ds, sp, h1, h2, h3⟩ => ⟨Ds, sp, h1, h2, fun i a D ha hD => (h3 i a D ha hD).2⟩⟩
  rcases hd with ⟨_, rfl⟩ | ⟨Ds, sp, h1, h2, h3⟩
  · cases hx
  · obtain ⟨i, hi⟩ := List.getElem?_of_mem hx
    have hlt := (List.getElem?_eq_some_iff.1 hi).1
    exact (h3 i x Ds[i] hi (List.getElem?_eq_getElem (by omega))).1
end
end SX
namespace Hp

/-- asymmetric, and 'not ahead' goes on -/
structure Ord {β : Type} (ah : β → β → Bool) : Prop where
  asym : ∀ a b, ah a b = true → ah b a = false
  trans : ∀ a b c, ah b a = false → ah c b = false → ah c a = false

section
variable {β : Type} {ah : β → β → Bool}
theorem Ord.irrefl (h : Ord ah) (a : β) : ah a a = false := by
  cases e : ah a a with
  | false => rfl
  | true => exact (h.asym a a e).symm.trans e |>.symm ▸ rfl

def up (ah : β → β → Bool) : Nat → List β → Nat → List β
  | 0, es, _ => es
  | f + 1, es, i => if i = 0 then es else match es[i]?, es[(i - 1) / 2]? with
    | some a, some b => if ah a b then up ah f ((es.set i b).set ((i - 1) / 2) a) ((i - 1) / 2) else es
    | _, _ => es

def better (ah : β → β → Bool) (es : List β) (k i : Nat) : Nat := match es[k]?, es[i]? with
  | some a, some b => if ah a b then k else i
  | _, _ => i
def best (ah : β → β → Bool) (es : List β) (i : Nat) : Nat := better ah es (2 * i + 2) (better ah es (2 * i + 1) i)
def down (ah : β → β → Bool) : Nat → List β → Nat → List β
  | 0, es, _ => es
  | f + 1, es, i => if best ah es i = i then es else match es[i]?, es[best ah es i]? with
    | some a, some b => down ah f ((es.set i b).set (best ah es i) a) (best ah es i)
    | _, _ => es

def Heap (ah : β → β → Bool) (es : List β) : Prop := ∀ i a p, 0 < i → es[i]? = some a → es[(i - 1) / 2]? = some p → ah a p = false
/-- a heap but at i, which may stand too low -/
def HU (ah : β → β → Bool) (es : List β) (i : Nat) : Prop :=
  (∀ j a p, 0 < j → j ≠ i → es[j]? = some a → es[(j - 1) / 2]? = some p → ah a p = false) ∧
  (∀ j a p, 0 < j → 0 < i → (j - 1) / 2 = i → es[j]? = some a → es[(i - 1) / 2]? = some p → ah a p = false)
/-- a heap but at i, which may stand too high -/
def HD (ah : β → β → Bool) (es : List β) (i : Nat) : Prop :=
  (∀ j a p, 0 < j → (j - 1) / 2 ≠ i → es[j]? = some a → es[(j - 1) / 2]? = some p → ah a p = false) ∧
  (∀ j a p, 0 < j → 0 < i → (j - 1) / 2 = i → es[j]? = some a → es[(i - 1) / 2]? = some p → ah a p = false)

theorem get_swap (es : List β) {i p : Nat} {a b : β} (ha : es[i]? = some a) (hb : es[p]? = some b) (_ : i ≠ p) (j : Nat) :
    ((es.set i b).set p a)[j]? = if j = p then some a else if j = i then some b else es[j]? := by
  have hi : i < es.length := (List.getElem?_eq_some_iff.1 ha).1
  have hp : p < es.length := (List.getElem?_eq_some_iff.1 hb).1
  rw [List.getElem?_set]
  by_cases h1 : p = j
  · subst h1; simp [hp]
  · rw [if_neg h1, if_neg (Ne.symm h1), List.getElem?_set]
    by_cases h2 : i = j
    · subst h2; simp [hi]
    · rw [if_neg h2, if_neg (Ne.symm h2)]

theorem swap_perm (es : List β) {i p : Nat} {a b : β} (ha : es[i]? = some a) (hb : es[p]? = some b) (_ : i ≠ p) : ((es.set i b).set p a).Perm es := by
  have hi : i < es.length := (List.getElem?_eq_some_iff.1 ha).1
  have hp : p < es.length := (List.getElem?_eq_some_iff.1 hb).1
  have ea : es[i] = a := (List.getElem?_eq_some_iff.1 ha).2
  have eb : es[p] = b := (List.getElem?_eq_some_iff.1 hb).2
  subst ea; subst eb
  exact List.set_set_perm hi hp

theorem up_zero (f : Nat) (es : List β) : up ah f es 0 = es := by cases f <;> simp [up]
theorem up_enough : ∀ (f g : Nat) (es : List β) (i : Nat), i ≤ f → i ≤ g → up ah f es i = up ah g es i
  | 0, g, es, i, hf, _ => by
    obtain rfl : i = 0 := by omega
    rw [up_zero, up_zero]
  | f + 1, 0, es, i, _, hg => by
    obtain rfl : i = 0 := by omega
    rw [up_zero, up_zero]
  | f + 1, g + 1, es, i, hf, hg => by
    unfold up
    by_cases hi : i = 0
    · rw [if_pos hi, if_pos hi]
    · rw [if_neg hi, if_neg hi]
      cases es[i]? with
      | none => rfl
      | some a => cases es[(i - 1) / 2]? with
        | none => rfl
        | some b =>
          simp only []
          cases ah a b with
          | false => rfl
          | true => exact up_enough f g _ _ (by omega) (by omega)
theorem up_stop {f : Nat} {es : List β} {i : Nat} {a b : β} (ha : es[i]? = some a) (hb : es[(i - 1) / 2]? = some b) (h : ah a b = false) : up ah f es i = es := by
  cases f with
  | zero => rfl
  | succ f =>
    unfold up
    split
    · rfl
    · rw [ha, hb]; simp [h]
theorem up_step {es : List β} {i : Nat} {a b : β} (hi : 0 < i) (ha : es[i]? = some a) (hb : es[(i - 1) / 2]? = some b) (h : ah a b = true) :
    up ah i es i = up ah ((i - 1) / 2) ((es.set i b).set ((i - 1) / 2) a) ((i - 1) / 2) := by
  obtain ⟨k, rfl⟩ : ∃ k, i = k + 1 := ⟨i - 1, by omega⟩
  conv => lhs; unfold up
  rw [if_neg (by omega), ha, hb]
  simp only [h, if_true]
  exact up_enough _ _ _ _ (by omega) (Nat.le_refl _)
theorem up_perm (f : Nat) : ∀ (es : List β) (i : Nat), (up ah f es i).Perm es := by
  induction f with
  | zero => exact fun _ _ => .refl _
  | succ f ih =>
    intro es i
    unfold up
    split
    · exact .refl _
    · rename_i hi
      split
      · rename_i a b ha hb
        split
        · exact (ih _ _).trans (swap_perm es ha hb (by omega))
        · exact .refl _
      · exact .refl _

theorem up_heap (o : Ord ah) (f : Nat) : ∀ (es : List β) (i : Nat), i ≤ f → HU ah es i → Heap ah (up ah f es i) := by
  induction f with
  | zero =>
    intro es i hi h j a p hj ha hp
    obtain rfl : i = 0 := by omega
    exact h.1 j a p hj (by omega) ha hp
  | succ f ih =>
    intro es i hif h
    unfold up
    split
    · rename_i hi
      subst hi
      intro j a p hj ha hp
      exact h.1 j a p hj (by omega) ha hp
    · rename_i hi
      split
      · rename_i a b ha hb
        have hne : i ≠ (i - 1) / 2 := by omega
        split
        · rename_i hab
          have g := get_swap es ha hb hne
          refine ih _ _ (by omega) ⟨?_, ?_⟩
          · intro j x y hj hjp hx hy
            rw [g] at hx hy
            rw [if_neg hjp] at hx
            by_cases hji : j = i
            · subst hji
              rw [if_pos rfl] at hx hy
              cases hx; cases hy
              exact o.asym _ _ hab
            · rw [if_neg hji] at hx
              by_cases hpi : (j - 1) / 2 = i
              · rw [if_neg (by omega), if_pos hpi] at hy
                cases hy
                exact h.2 j x b hj (by omega) hpi hx hb
              · by_cases hpp : (j - 1) / 2 = (i - 1) / 2
                · rw [if_pos hpp] at hy
                  cases hy
                  exact o.trans a b x (o.asym _ _ hab) (h.1 j x b hj hji hx (by rw [hpp]; exact hb))
                · rw [if_neg hpp, if_neg hpi] at hy
                  exact h.1 j x y hj hji hx hy
          · intro j x y hj hp0 hjp hx hy
            rw [g] at hx hy
            rw [if_neg (by omega), if_neg (by omega)] at hy
            rw [if_neg (by omega)] at hx
            have hby : ah b y = false := h.1 ((i - 1) / 2) b y hp0 (by omega) hb hy
            by_cases hji : j = i
            · rw [if_pos hji] at hx
              cases hx; exact hby
            · rw [if_neg hji] at hx
              exact o.trans y b x hby (h.1 j x b hj hji hx (by rw [hjp]; exact hb))
        · rename_i hab
          intro j x y hj hx hy
          by_cases hji : j = i
          · subst hji
            rw [ha] at hx; rw [hb] at hy
            cases hx; cases hy
            simpa using hab
          · exact h.1 j x y hj hji hx hy
      · rename_i hno
        intro j x y hj hx hy
        by_cases hji : j = i
        · subst hji; exact (hno x y hx hy).elim
        · exact h.1 j x y hj hji hx hy

theorem better_cases (es : List β) (k i : Nat) : (better ah es k i = i ∧ ∀ a b, es[k]? = some a → es[i]? = some b → ah a b = false) ∨
    (better ah es k i = k ∧ ∃ a b, es[k]? = some a ∧ es[i]? = some b ∧ ah a b = true) := by
  unfold better
  cases ha : es[k]? with
  | none => exact .inl ⟨rfl, fun _ _ h => by cases h⟩
  | some a =>
    cases hb : es[i]? with
    | none => exact .inl ⟨rfl, fun _ _ _ h => by cases h⟩
    | some b =>
      cases h : ah a b with
      | true => exact .inr ⟨by simp [h], a, b, rfl, rfl, h⟩
      | false => exact .inl ⟨by simp [h], fun x y hx hy => by cases hx; cases hy; exact h⟩

/-- the best of i and its children: no child is ahead of it; it is i or a child that is ahead of i -/
theorem best_spec (o : Ord ah) (es : List β) (i : Nat) {c : β} (hi : es[i]? = some c) :
    ∃ m, es[best ah es i]? = some m ∧ (∀ j a, j = 2 * i + 1 ∨ j = 2 * i + 2 → es[j]? = some a → ah a m = false) ∧
      ((best ah es i = i ∧ m = c) ∨ ((best ah es i = 2 * i + 1 ∨ best ah es i = 2 * i + 2) ∧ ah m c = true)) := by
  unfold best
  rcases better_cases (ah := ah) es (2 * i + 1) i with ⟨e1, h1⟩ | ⟨e1, a, b, ha, hb, h1⟩
  · rw [e1]
    rcases better_cases (ah := ah) es (2 * i + 2) i with ⟨e2, h2⟩ | ⟨e2, a, b, ha, hb, h2⟩
    · rw [e2]
      exact ⟨c, hi, fun j x hj hx => by
        rcases hj with rfl | rfl
        · exact h1 x c hx hi
        · exact h2 x c hx hi, .inl ⟨rfl, rfl⟩⟩
    · rw [e2]
      have : b = c := Option.some.inj (hb.symm.trans hi)
      subst this
      exact ⟨a, ha, fun j x hj hx => by
        rcases hj with rfl | rfl
        · exact o.trans a b x (o.asym _ _ h2) (h1 x b hx hi)
        · have : x = a := Option.some.inj (hx.symm.trans ha)
          subst this; exact o.irrefl x, .inr ⟨.inr rfl, h2⟩⟩
  · rw [e1]
    have : b = c := Option.some.inj (hb.symm.trans hi)
    subst this
    rcases better_cases (ah := ah) es (2 * i + 2) (2 * i + 1) with ⟨e2, h2⟩ | ⟨e2, a', b', ha', hb', h2⟩
    · rw [e2]
      exact ⟨a, ha, fun j x hj hx => by
        rcases hj with rfl | rfl
        · have : x = a := Option.some.inj (hx.symm.trans ha)
          subst this; exact o.irrefl x
        · exact h2 x a hx ha, .inr ⟨.inl rfl, h1⟩⟩
    · rw [e2]
      have : b' = a := Option.some.inj (hb'.symm.trans ha)
      subst this
      refine ⟨a', ha', fun j x hj hx => ?_, .inr ⟨.inr rfl, ?_⟩⟩
      · rcases hj with rfl | rfl
        · have : x = b' := Option.some.inj (hx.symm.trans ha)
          subst this; exact o.asym _ _ h2
        · have : x = a' := Option.some.inj (hx.symm.trans ha')
          subst this; exact o.irrefl x
      · cases hc : ah a' b with
        | true => rfl
        | false => exact (o.trans b a' b' hc (o.asym _ _ h2)).symm.trans h1 |>.symm ▸ rfl

theorem down_enough : ∀ (f g : Nat) (es : List β) (i : Nat), es.length ≤ f + i → es.length ≤ g + i → down ah f es i = down ah g es i := by
  intro f
  induction f with
  | zero =>
    intro g es i hf hg
    cases g with
    | zero => rfl
    | succ g =>
      have hn : es[i]? = none := List.getElem?_eq_none_iff.2 (by omega)
      have hb : best ah es i = i := by
        have h1 : es[2 * i + 1]? = none := List.getElem?_eq_none_iff.2 (by omega)
        have h2 : es[2 * i + 2]? = none := List.getElem?_eq_none_iff.2 (by omega)
        simp [best, better, h1, h2]
      simp [down, hb]
  | succ f ih =>
    intro g es i hf hg
    cases g with
    | zero =>
      have hb : best ah es i = i := by
        have h1 : es[2 * i + 1]? = none := List.getElem?_eq_none_iff.2 (by omega)
        have h2 : es[2 * i + 2]? = none := List.getElem?_eq_none_iff.2 (by omega)
        simp [best, better, h1, h2]
      simp [down, hb]
    | succ g =>
      unfold down
      by_cases hb : best ah es i = i
      · rw [if_pos hb, if_pos hb]
      · rw [if_neg hb, if_neg hb]
        have hgt : i < best ah es i := by
          unfold best
          rcases better_cases (ah := ah) es (2 * i + 1) i with ⟨e1, _⟩ | ⟨e1, _⟩ <;> rw [e1]
          · rcases better_cases (ah := ah) es (2 * i + 2) i with ⟨e2, _⟩ | ⟨e2, _⟩
            · exact absurd (by unfold best; rw [e1]; exact e2) hb
            · rw [e2]; omega
          · rcases better_cases (ah := ah) es (2 * i + 2) (2 * i + 1) with ⟨e2, _⟩ | ⟨e2, _⟩ <;> rw [e2] <;> omega
        cases es[i]? with
        | none => rfl
        | some a => cases es[best ah es i]? with
          | none => rfl
          | some b => exact ih _ _ _ (by simp; omega) (by simp; omega)
theorem down_stop {f : Nat} {es : List β} {i : Nat} (h : best ah es i = i) : down ah f es i = es := by
  cases f with
  | zero => rfl
  | succ f => simp [down, h]
theorem best_gt {es : List β} {i : Nat} (h : best ah es i ≠ i) : i < best ah es i ∧ best ah es i < es.length := by
  have hb : ∀ k m, m ≤ k → better ah es k m = m ∨ (better ah es k m = k ∧ k < es.length) := fun k m _ => by
    rcases better_cases (ah := ah) es k m with ⟨e, _⟩ | ⟨e, a, b, ha, _⟩
    · exact .inl e
    · exact .inr ⟨e, (List.getElem?_eq_some_iff.1 ha).1⟩
  unfold best at *
  rcases hb (2 * i + 1) i (by omega) with h1 | ⟨h1, l1⟩
  · rw [h1] at h ⊢
    rcases hb (2 * i + 2) i (by omega) with h2 | ⟨h2, l2⟩
    · exact absurd h2 h
    · rw [h2]; omega
  · rw [h1] at h ⊢
    rcases hb (2 * i + 2) (2 * i + 1) (by omega) with h2 | ⟨h2, l2⟩ <;> rw [h2] <;> omega
theorem down_step {n : Nat} {es : List β} {i : Nat} {a b : β} (hn : es.length ≤ n) (hne : best ah es i ≠ i) (ha : es[i]? = some a) (hb : es[best ah es i]? = some b) :
    down ah n es i = down ah n ((es.set i b).set (best ah es i) a) (best ah es i) := by
  have hlt := best_gt hne
  cases n with
  | zero => omega
  | succ n =>
    conv => lhs; unfold down
    rw [if_neg hne, ha, hb]
    exact down_enough _ _ _ _ (by simp; omega) (by simp; omega)
theorem down_perm (f : Nat) : ∀ (es : List β) (i : Nat), (down ah f es i).Perm es := by
  induction f with
  | zero => exact fun _ _ => .refl _
  | succ f ih =>
    intro es i
    unfold down
    split
    · exact .refl _
    · rename_i hi
      split
      · rename_i a b ha hb
        exact (ih _ _).trans (swap_perm es ha hb (Ne.symm hi))
      · exact .refl _

theorem down_heap (o : Ord ah) (f : Nat) : ∀ (es : List β) (i : Nat), es.length ≤ f + i → HD ah es i → Heap ah (down ah f es i) := by
  induction f with
  | zero =>
    intro es i hl h
    show Heap ah es
    intro j a p hj ha hp
    by_cases hpi : (j - 1) / 2 = i
    · have := (List.getElem?_eq_some_iff.1 hp).1
      omega
    · exact h.1 j a p hj hpi ha hp
  | succ f ih =>
    intro es i hl h
    unfold down
    cases hc : es[i]? with
    | none =>
      have hge : es.length ≤ i := List.getElem?_eq_none_iff.1 hc
      have hheap : Heap ah es := fun j a p hj ha hp => by
        by_cases hpi : (j - 1) / 2 = i
        · have := (List.getElem?_eq_some_iff.1 hp).1
          omega
        · exact h.1 j a p hj hpi ha hp
      split
      · exact hheap
      · exact hheap
    | some c =>
      obtain ⟨m, hm, hall, hcase⟩ := best_spec o es i hc
      rcases hcase with ⟨hb, rfl⟩ | ⟨hb, hmc⟩
      · rw [if_pos hb]
        intro j a p hj ha hp
        by_cases hpi : (j - 1) / 2 = i
        · rw [hpi, hc] at hp
          cases hp
          exact hall j a (by omega) ha
        · exact h.1 j a p hj hpi ha hp
      · have hne : best ah es i ≠ i := by omega
        rw [if_neg hne]
        rw [hm]
        simp only []
        have hgt : i < best ah es i := by omega
        have hpar : (best ah es i - 1) / 2 = i := by omega
        generalize hk : best ah es i = k at *
        have g := get_swap es hc hm (Ne.symm hne)
        refine ih _ _ (by simp; omega) ⟨?_, ?_⟩
        · intro j x y hj hjk hx hy
          rw [g] at hx hy
          rw [if_neg hjk] at hy
          by_cases hjk2 : j = k
          · subst hjk2
            rw [if_pos rfl] at hx
            rw [hpar, if_pos rfl] at hy
            cases hx; cases hy
            exact o.asym _ _ hmc
          · rw [if_neg hjk2] at hx
            by_cases hji : j = i
            · subst hji
              rw [if_pos rfl] at hx
              rw [if_neg (by omega)] at hy
              cases hx
              exact h.2 k m y (by omega) hj hpar hm hy
            · rw [if_neg hji] at hx
              by_cases hpi : (j - 1) / 2 = i
              · rw [if_pos hpi] at hy
                cases hy
                exact hall j x (by omega) hx
              · rw [if_neg hpi] at hy
                exact h.1 j x y hj hpi hx hy
        · intro j x y hj hk0 hjk hx hy
          rw [g] at hx hy
          rw [hpar, if_neg (by omega), if_pos rfl] at hy
          rw [if_neg (by omega), if_neg (by omega)] at hx
          cases hy
          exact h.1 j x m hj (by omega) hx (by rw [hjk]; exact hm)

/-- nobody is ahead of the first -/
theorem Heap.first (o : Ord ah) {es : List β} (h : Heap ah es) {z : β} (hz : es[0]? = some z) : ∀ (i : Nat) (a : β), es[i]? = some a → ah a z = false := by
  intro i
  induction i using Nat.strongRecOn with
  | _ i ih =>
    intro a ha
    by_cases hi : i = 0
    · subst hi
      rw [hz] at ha; cases ha; exact o.irrefl z
    · have hlt : (i - 1) / 2 < es.length := by have := (List.getElem?_eq_some_iff.1 ha).1; omega
      have hp : es[(i - 1) / 2]? = some es[(i - 1) / 2] := List.getElem?_eq_getElem hlt
      exact o.trans z _ a (ih _ (by omega) _ hp) (h i a _ (by omega) ha hp)
theorem down_length (f : Nat) (es : List β) (i : Nat) : (down ah f es i).length = es.length := (down_perm f es i).length_eq
end
end Hp
namespace Hp
section
variable {β : Type} {ah : β → β → Bool}

def Rep (ah : β → β → Bool) (es S : List β) : Prop := es.Perm S ∧ Heap ah es ∧ S.Pairwise (fun a b => ah a b = true)

def ins (ah : β → β → Bool) (x : β) : List β → List β
  | [] => [x]
  | y :: S => if ah x y then x :: y :: S else y :: ins ah x S
theorem ins_perm (x : β) : ∀ S : List β, (ins ah x S).Perm (x :: S)
  | [] => .refl _
  | y :: S => by
    unfold ins
    split
    · exact .refl _
    · exact (List.Perm.cons y (ins_perm x S)).trans (.swap _ _ _)
theorem mem_ins {x y : β} {S : List β} : y ∈ ins ah x S ↔ y = x ∨ y ∈ S := by rw [(ins_perm x S).mem_iff, List.mem_cons]
theorem ins_sorted (o : Ord ah) (ht : ∀ a b c, ah a b = true → ah b c = true → ah a c = true) {x : β} : ∀ {S : List β}, S.Pairwise (fun a b => ah a b = true) → (∀ y ∈ S, ah x y = false → ah y x = true) → (ins ah x S).Pairwise (fun a b => ah a b = true)
  | [], _, _ => by simp [ins]
  | y :: S, h, hx => by
    obtain ⟨h1, h2⟩ := List.pairwise_cons.1 h
    unfold ins
    split
    · rename_i hxy
      refine List.pairwise_cons.2 ⟨fun z hz => ?_, h⟩
      rcases List.mem_cons.1 hz with rfl | hz
      · exact hxy
      · exact ht _ _ _ hxy (h1 z hz)
    · rename_i hxy
      refine List.pairwise_cons.2 ⟨fun z hz => ?_, ins_sorted o ht h2 (fun w hw => hx w (List.mem_cons_of_mem _ hw))⟩
      rcases mem_ins.1 hz with rfl | hz
      · exact hx y (List.mem_cons_self) (by simpa using hxy)
      · exact h1 z hz

theorem Rep.nil : Rep ah [] [] := ⟨.refl _, fun i a p _ h => by simp at h, .nil⟩
theorem Rep.length {es S : List β} (h : Rep ah es S) : es.length = S.length := h.1.length_eq

theorem heap_push {es : List β} (h : Heap ah es) (x : β) : HU ah (es ++ [x]) es.length := by
  refine ⟨fun j a p hj hne ha hp => ?_, fun j a p hj hl hjl ha hp => ?_⟩
  · have hlt : j < (es ++ [x]).length := (List.getElem?_eq_some_iff.1 ha).1
    simp at hlt
    rw [List.getElem?_append_left (by omega)] at ha hp
    exact h j a p hj ha hp
  · have hlt : j < (es ++ [x]).length := (List.getElem?_eq_some_iff.1 ha).1
    simp at hlt; omega

theorem Rep.push (o : Ord ah) (ht : ∀ a b c, ah a b = true → ah b c = true → ah a c = true) {es S : List β} (h : Rep ah es S) {x : β} (hx : ∀ y ∈ S, ah x y = false → ah y x = true) : Rep ah (up ah es.length (es ++ [x]) es.length) (ins ah x S) := by
  refine ⟨(up_perm _ _ _).trans ?_, up_heap o _ _ _ (Nat.le_refl _) (heap_push h.2.1 x), ins_sorted o ht h.2.2 hx⟩
  refine List.Perm.trans ?_ (ins_perm x S).symm
  exact List.perm_append_comm.trans (List.Perm.cons x h.1)

theorem Rep.head (o : Ord ah) {es S : List β} {s z : β} (h : Rep ah es (s :: S)) (hz : es[0]? = some z) : z = s := by
  have hs : s ∈ es := h.1.mem_iff.2 List.mem_cons_self
  obtain ⟨i, hi⟩ := List.getElem?_of_mem hs
  have h1 := h.2.1.first o hz i s hi
  have hzm : z ∈ s :: S := h.1.mem_iff.1 (List.mem_of_getElem? hz)
  rcases List.mem_cons.1 hzm with h2 | h2
  · exact h2
  · have := (List.pairwise_cons.1 h.2.2).1 z h2
    rw [h1] at this; cases this

/-- what is left when the first is taken: the last in its place, and down -/
def pop (ah : β → β → Bool) (es : List β) : List β := match es.getLast? with
  | none => []
  | some l => down ah es.length ((es.set 0 l).dropLast) 0

theorem dropLast_perm : ∀ {es : List β} {z l : β}, es[0]? = some z → es.getLast? = some l → (z :: (es.set 0 l).dropLast).Perm es
  | [], _, _, h, _ => by simp at h
  | [a], z, l, h, hl => by simp at h hl; subst h; subst hl; simp
  | a :: b :: t, z, l, h, hl => by
    simp at h; subst h
    have hl' : (b :: t).getLast? = some l := by simpa using hl
    have hne : b :: t ≠ [] := by simp
    have e : (b :: t) = (b :: t).dropLast ++ [l] := by
      rw [List.getLast?_eq_some_getLast hne, Option.some.injEq] at hl'
      rw [← hl', List.dropLast_concat_getLast]
    have : ((a :: b :: t).set 0 l).dropLast = l :: (b :: t).dropLast := by simp
    rw [this]
    refine List.Perm.cons a ?_
    conv => rhs; rw [e]
    exact (List.perm_append_comm (l₁ := [l])).trans (.refl _)

theorem heap_dropLast {es : List β} (h : Heap ah es) (l : β) : HD ah ((es.set 0 l).dropLast) 0 := by
  have get : ∀ (j : Nat) (a : β), 0 < j → ((es.set 0 l).dropLast)[j]? = some a → es[j]? = some a := fun j a hj ha => by
    rw [List.getElem?_dropLast] at ha
    split at ha
    · rwa [List.getElem?_set_ne (by omega)] at ha
    · cases ha
  refine ⟨fun j a p hj hne ha hp => h j a p hj (get j a hj ha) (get _ p (by omega) hp), fun j a p hj h0 => by omega⟩

theorem Rep.pop (o : Ord ah) {es S : List β} {s : β} (h : Rep ah es (s :: S)) : Rep ah (pop ah es) S := by
  have hlen := h.1.length_eq
  simp at hlen
  cases hes : es with
  | nil => simp [hes] at hlen
  | cons z t =>
    have hz : es[0]? = some z := by simp [hes]
    have hzs := h.head o hz
    subst hzs
    cases hl : es.getLast? with
    | none => simp [hes] at hl
    | some l =>
      have e : Hp.pop ah es = down ah es.length ((es.set 0 l).dropLast) 0 := by unfold Hp.pop; rw [hl]
      rw [← hes, e]
      refine ⟨(down_perm _ _ _).trans ?_, down_heap o _ _ _ (by simp) (heap_dropLast h.2.1 l), (List.pairwise_cons.1 h.2.2).2⟩
      exact List.Perm.cons_inv ((dropLast_perm hz hl).trans h.1)
end

/-! ### things that were pushed at a time -/
section
variable {α : Type} (lt : α → α → Bool)
def ahd (a b : α × Nat) : Bool := lt a.1 b.1 || (!lt b.1 a.1 && decide (a.2 < b.2))
variable {lt}
theorem ahd_ord (h : Ord lt) : Ord (ahd lt) := by
  refine ⟨fun a b hab => ?_, fun a b c hba hcb => ?_⟩
  · unfold ahd at *
    cases h1 : lt a.1 b.1 with
    | true => simp [h.asym _ _ h1]
    | false =>
      simp [h1] at hab ⊢
      refine ⟨hab.1, ?_⟩
      omega
  · unfold ahd at *
    simp only [Bool.or_eq_false_iff, Bool.and_eq_false_iff, Bool.not_eq_false', decide_eq_false_iff_not, Nat.not_lt] at *
    obtain ⟨h1, h2⟩ := hba
    obtain ⟨h3, h4⟩ := hcb
    refine ⟨h.trans _ _ _ h1 h3, ?_⟩
    rcases h2 with h2 | h2
    · -- a before b strictly
      left
      cases hac : lt a.1 c.1 with
      | true => rfl
      | false =>
        have hx := h.trans b.1 c.1 a.1 h3 hac
        rw [h2] at hx; cases hx
    · rcases h4 with h4 | h4
      · left
        cases hac : lt a.1 c.1 with
        | true => rfl
        | false =>
          have hy := h.trans c.1 a.1 b.1 hac h1
          rw [h4] at hy; cases hy
      · exact .inr (Nat.le_trans h2 h4)
theorem ahd_total {a b : α × Nat} (hne : a.2 ≠ b.2) (h : ahd lt a b = false) : ahd lt b a = true := by
  unfold ahd at *
  cases h1 : lt a.1 b.1 <;> cases h2 : lt b.1 a.1 <;> simp [h1, h2] at * ; omega
theorem ahd_trans (h : Ord lt) (a b c : α × Nat) (h1 : ahd lt a b = true) (h2 : ahd lt b c = true) : ahd lt a c = true := by
  have o := ahd_ord h
  cases h3 : ahd lt a c with
  | true => rfl
  | false =>
    -- c <= a, a <= b: c <= b, against b ahead of c
    have := o.trans c a b h3 (o.asym _ _ h1)
    rw [h2] at this; cases this
end
end Hp
namespace SX
open Go
/-- the bools of a set of n -/
def rbs (n : Nat) (S : Nat → Bool) : List Value := (List.range n).map fun k => .bool (S k)
theorem rbs_len (n : Nat) (S : Nat → Bool) : (rbs n S).length = n := by simp [rbs]
theorem rbs_get {n k : Nat} (S : Nat → Bool) (h : k < n) : (rbs n S)[k]? = some (.bool (S k)) := by simp [rbs, h]
theorem Row.sl {μ : PH} {v : Value} {n l : Nat} {xs : List Value} (h : Row μ v n l xs) : ∃ A cap, v = .slice A l cap := by
  obtain ⟨_, A, cap, e, _⟩ := h; exact ⟨A, cap, e⟩
theorem rbs_ext {n : Nat} {S T : Nat → Bool} (h : ∀ j, j < n → S j = T j) : rbs n S = rbs n T := by
  unfold rbs
  apply List.map_congr_left
  intro k hk
  rw [h k (List.mem_range.1 hk)]
theorem rbs_set {n i : Nat} {S T : Nat → Bool} {c : Bool} (h : ∀ j, j < n → T j = if j = i then c else S j) : (rbs n S).set i (.bool c) = rbs n T := by
  apply List.ext_getElem?
  intro j
  rw [List.getElem?_set, rbs_len]
  rcases Nat.lt_or_ge j n with hj | hj
  · rw [rbs_get T hj, rbs_get S hj, h j hj]
    by_cases e : i = j
    · subst e; simp [hj]
    · simp [e, Ne.symm e]
  · rw [List.getElem?_eq_none (l := rbs n S) (by rw [rbs_len]; exact hj), List.getElem?_eq_none (l := rbs n T) (by rw [rbs_len]; exact hj)]
    split
    · rw [if_neg (by omega)]
    · rfl
/-- a graph: its rows, and what each row reads as -/
def Graph (μ : PH) (v : Value) (G : List (Value × List Int)) : Prop := Row μ v 1 G.length (G.flatMap gcs) ∧ ∀ x ∈ G, Row μ x.1 1 x.2.length (x.2.flatMap (icsk .i64))
theorem Graph.le {μ μ' : PH} {v : Value} {G : List (Value × List Int)} (h : Graph μ v G) (k : Le μ μ') : Graph μ' v G := ⟨h.1.le k, fun x hx => (h.2 x hx).le k⟩
theorem Row.small {μ : PH} {v : Value} {n l : Nat} {xs : List Value} (h : Row μ v n l xs) : l ≤ 9223372036854775807 := by
  obtain ⟨_, _, _, _, h1, h2, _⟩ := h; simp only [maxLen] at h2; omega
/-- what is wrong with one commit's parents -/
def rowErr (c : Nat) (s : List Int) : List Int → Int
  | [] => 0
  | p :: l => if p < 0 then 1 else if (c : Int) ≤ p then 10 else if p ∈ s then 11 else rowErr c (s ++ [p]) l
def chkFrom : Nat → List (List Int) → Int
  | _, [] => 0
  | c, l :: g => if rowErr c [] l = 0 then chkFrom (c + 1) g else rowErr c [] l
theorem rowErr_at {c : Nat} {l : List Int} {j : Nat} {p : Int} (h : l[j]? = some p) : rowErr c (l.take j) (l.drop j) = if p < 0 then 1 else if (c : Int) ≤ p then 10 else if p ∈ l.take j then 11 else rowErr c (l.take (j + 1)) (l.drop (j + 1)) := by
  have hlt := (List.getElem?_eq_some_iff.1 h).1
  rw [List.drop_eq_getElem_cons hlt, List.take_add_one, h]
  have e : l[j] = p := by rw [List.getElem?_eq_getElem hlt] at h; exact Option.some.inj h
  rw [e]; rfl
theorem chkFrom_at {g : List (List Int)} {i : Nat} {l : List Int} (h : g[i]? = some l) : chkFrom i (g.drop i) = if rowErr i [] l = 0 then chkFrom (i + 1) (g.drop (i + 1)) else rowErr i [] l := by
  have hlt := (List.getElem?_eq_some_iff.1 h).1
  rw [List.drop_eq_getElem_cons hlt]
  have e : g[i] = l := by rw [List.getElem?_eq_getElem hlt] at h; exact Option.some.inj h
  rw [e]; rfl
/-- the graph's numbers -/
abbrev nums (G : List (Value × List Int)) : List (List Int) := G.map (·.2)
def rowOf (g : List (List Int)) (c : Nat) : List Int := g.getD c []
def stepUp (g : List (List Int)) (c : Nat) (S : Nat → Bool) : Nat → Bool := fun j => S j || (S c && decide ((j : Int) ∈ rowOf g c))
def upF (g : List (List Int)) : Nat → (Nat → Bool) → (Nat → Bool)
  | 0, S => S
  | c + 1, S => upF g c (stepUp g c S)
/-- a commit's ancestors -/
def up (g : List (List Int)) (a : Nat) : Nat → Bool := upF g (a + 1) (fun j => decide (j = a))
/-- parents come first -/
def Good (g : List (List Int)) : Prop := ∀ (c : Nat) (l : List Int), g[c]? = some l → ∀ p ∈ l, 0 ≤ p ∧ p < c
theorem rowOf_at {g : List (List Int)} {c : Nat} {l : List Int} (h : g[c]? = some l) : rowOf g c = l := by unfold rowOf; rw [List.getD_eq_getElem?_getD, h]; rfl
/-- which of S are no parent of one of them -/
def bestT (g : List (List Int)) (S : Nat → Bool) (c : Nat) : Nat → Bool := fun j => S j && !((List.range c).any fun y => S y && decide ((j : Int) ∈ rowOf g y))
theorem rbs_false (n : Nat) : List.replicate n (Value.bool false) = rbs n (fun _ => false) := by
  apply List.ext_getElem?
  intro j
  simp [rbs, List.getElem?_replicate]
  split <;> simp_all
/-- by definition: itself, or by a parent -/
inductive Reach (g : List (List Int)) : Nat → Nat → Prop
  | refl (a : Nat) : Reach g a a
  | step {a p j : Nat} (h : (p : Int) ∈ rowOf g a) (k : Reach g p j) : Reach g a j
theorem row_good {g : List (List Int)} (hg : Good g) {a : Nat} {p : Int} (h : p ∈ rowOf g a) : 0 ≤ p ∧ p < a ∧ a < g.length := by
  unfold rowOf at h
  rw [List.getD_eq_getElem?_getD] at h
  cases hc : g[a]? with
  | none => rw [hc] at h; cases h
  | some l => rw [hc] at h; exact ⟨(hg a l hc p h).1, (hg a l hc p h).2, (List.getElem?_eq_some_iff.1 hc).1⟩
theorem Reach.le {g : List (List Int)} (hg : Good g) {a j : Nat} (h : Reach g a j) : j ≤ a := by
  induction h with
  | refl => exact Nat.le_refl _
  | step h _ ih => have := row_good hg h; omega
theorem Reach.trans {g : List (List Int)} {a b c : Nat} (h : Reach g a b) (k : Reach g b c) : Reach g a c := by
  induction h with
  | refl => exact k
  | step h _ ih => exact .step h (ih k)
theorem Reach.last {g : List (List Int)} {a j : Nat} (h : Reach g a j) : a = j ∨ ∃ z, Reach g a z ∧ (j : Int) ∈ rowOf g z := by
  induction h with
  | refl => exact .inl rfl
  | @step a p j h _ ih =>
    right
    rcases ih with rfl | ⟨z, h1, h2⟩
    · exact ⟨a, .refl _, h⟩
    · exact ⟨z, .step h h1, h2⟩
theorem Reach.lt {g : List (List Int)} (hg : Good g) {a j : Nat} (h : Reach g a j) (hne : a ≠ j) : j < a ∧ a < g.length := by
  cases h with
  | refl => exact absurd rfl hne
  | step h k => have := row_good hg h; have := k.le hg; omega
theorem upF_iff {g : List (List Int)} (hg : Good g) : ∀ (c : Nat) (S : Nat → Bool), (∀ i, c ≤ i → S i = true → ∀ p : Nat, (p : Int) ∈ rowOf g i → S p = true) → ∀ j, upF g c S j = true ↔ ∃ i, S i = true ∧ Reach g i j
  | 0, S, hS, j => by
    refine ⟨fun h => ⟨j, h, .refl _⟩, ?_⟩
    rintro ⟨i, hi, hr⟩
    show S j = true
    induction hr with
    | refl => exact hi
    | step h _ ih => exact ih (hS _ (Nat.zero_le _) hi _ h)
  | c + 1, S, hS, j => by
    have hst : ∀ i, stepUp g c S i = true ↔ S i = true ∨ (S c = true ∧ (i : Int) ∈ rowOf g c) := fun i => by unfold stepUp; simp
    have h1 : ∀ i, c ≤ i → stepUp g c S i = true → ∀ p : Nat, (p : Int) ∈ rowOf g i → stepUp g c S p = true := fun i hi hs p hp => by
      rw [hst] at hs ⊢
      by_cases e : i = c
      · subst e
        rcases hs with hs | ⟨hs, _⟩
        · exact .inr ⟨hs, hp⟩
        · exact .inr ⟨hs, hp⟩
      · rcases hs with hs | ⟨_, hs⟩
        · exact .inl (hS i (by omega) hs p hp)
        · have := row_good hg hs; omega
    show upF g c (stepUp g c S) j = true ↔ _
    rw [upF_iff hg c _ h1 j]
    constructor
    · rintro ⟨i, hi, hr⟩
      rcases (hst i).1 hi with h | ⟨h, hm⟩
      · exact ⟨i, h, hr⟩
      · exact ⟨c, h, .step hm hr⟩
    · rintro ⟨i, hi, hr⟩
      exact ⟨i, (hst i).2 (.inl hi), hr⟩
theorem up_iff {g : List (List Int)} (hg : Good g) (a j : Nat) : up g a j = true ↔ Reach g a j := by
  unfold up
  rw [upF_iff hg (a + 1) _ (fun i hi h => by have := of_decide_eq_true h; omega) j]
  exact ⟨fun ⟨i, hi, hr⟩ => by obtain rfl := of_decide_eq_true hi; exact hr, fun h => ⟨a, decide_eq_true rfl, h⟩⟩
theorem up_refl {g : List (List Int)} (hg : Good g) (a : Nat) : up g a a = true := (up_iff hg a a).2 (.refl _)
theorem up_row {g : List (List Int)} (hg : Good g) {a p : Nat} (h : (p : Int) ∈ rowOf g a) : up g a p = true := (up_iff hg a p).2 (.step h (.refl _))
theorem up_le {g : List (List Int)} (hg : Good g) {a j : Nat} (h : up g a j = true) : j ≤ a := ((up_iff hg a j).1 h).le hg
theorem up_trans {g : List (List Int)} (hg : Good g) {a b c : Nat} (h : up g a b = true) (k : up g b c = true) : up g a c = true := (up_iff hg a c).2 (((up_iff hg a b).1 h).trans ((up_iff hg b c).1 k))
/-- a set with all that its commits reach -/
def Down (g : List (List Int)) (S : Nat → Bool) : Prop := ∀ i j, S i = true → up g i j = true → S j = true
theorem best_iff {g : List (List Int)} {S : Nat → Bool} {n j : Nat} : bestT g S n j = true ↔ S j = true ∧ ∀ y, y < n → S y = true → ¬ (j : Int) ∈ rowOf g y := by
  unfold bestT
  simp only [Bool.and_eq_true, Bool.not_eq_true', List.any_eq_false, List.mem_range, decide_eq_true_eq]
  exact ⟨fun ⟨h1, h2⟩ => ⟨h1, fun y hy hs hm => h2 y hy ⟨hs, hm⟩⟩, fun ⟨h1, h2⟩ => ⟨h1, fun y hy h => h2 y hy h.1 h.2⟩⟩
/-- no best one reaches another -/
theorem best_apart {g : List (List Int)} (hg : Good g) {S : Nat → Bool} (hS : Down g S) {x y : Nat} (hx : bestT g S g.length x = true) (hy : bestT g S g.length y = true) (h : up g x y = true) : x = y := by
  rcases ((up_iff hg x y).1 h).last with e | ⟨z, h1, h2⟩
  · exact e
  · exact absurd h2 ((best_iff.1 hy).2 z (row_good hg h2).2.2 (hS x z (best_iff.1 hx).1 ((up_iff hg x z).2 h1)))
section
variable {P : Program} {tI : TypeId} [TOne P tI]
theorem Split.all : ∀ {L : List Assn}, Split L L []
  | [] => .nil
  | _ :: _ => .cons .here Split.all
theorem Split.skip {A : Assn} {L K R : List Assn} (h : Split L K R) : Split (A :: L) K (A :: R) := by
  induction h with
  | nil => exact .nil
  | cons h _ ih => exact .cons (.there h) ih
theorem Ld.weak {P : Program} {A : Assn} {L : List Assn} {t : TypeId} {ad : Addr} {v : Value} (h : Ld P L t ad v) : Ld P (A :: L) t ad v := fun E w hh => h ⟨E.w, E.X ++ [A]⟩ w (H.hide (L := L) (R := [A]) (hh.ent (Ent.perm (List.perm_append_comm (l₁ := [A])))))
/-- a slice of integers may be read -/
def Ints (P : Program) (tI : TypeId) (L : List Assn) (v : Value) (xs : List Int) : Prop := ∃ A cap, v = .slice A xs.length cap ∧ xs.length ≤ 9223372036854775807 ∧ (0 < xs.length → ∃ b off, A = some ⟨b, off, none⟩ ∧ ∀ (j : Nat) (x : Int), xs[j]? = some x → Ld P L tI ⟨b, off + j, none⟩ (.int .i64 x))
omit [TOne P tI] in
theorem Ints.weak {A : Assn} {L : List Assn} {v : Value} {xs : List Int} (h : Ints P tI L v xs) : Ints P tI (A :: L) v xs := by
  obtain ⟨B, cap, h1, h2, h3⟩ := h
  refine ⟨B, cap, h1, h2, fun h => ?_⟩
  obtain ⟨b, off, e, k⟩ := h3 h
  exact ⟨b, off, e, fun j x hx => (k j x hx).weak⟩
theorem Ints.row {μ : PH} {v : Value} {xs : List Int} {L : List Assn} [InR L μ] (h : Row μ v 1 xs.length (xs.flatMap (icsk .i64))) : Ints P tI L v xs := by
  obtain ⟨A, cap, hv⟩ := h.sl
  refine ⟨A, cap, hv, h.small, fun h0 => ?_⟩
  obtain ⟨b, off, cap', hv', c1, c2, hr⟩ := h.pos h0
  subst hv
  injection hv' with e1 _ _
  exact ⟨b, off, e1, fun j x hx => by
    have := (hr.elem (icsk_len .i64) hx).cell
    rw [Nat.mul_one] at this
    exact ld_ro this⟩
theorem ints_blk {b : Nat} {cs : List Int} {n : Nat} (hn : n = cs.length) (hs : cs.length ≤ 9223372036854775807) {L : List Assn} [InB b L tI (cs.flatMap (icsk .i64))] : Ints P tI L (.slice (some ⟨b, 0, none⟩) n n) cs := by
  subst hn
  refine ⟨_, _, rfl, hs, fun _ => ⟨b, 0, rfl, fun j x hx => ld_one (ty := tI) (cs := cs.flatMap (icsk .i64)) ?_⟩⟩
  have := flat_get (icsk_len .i64) cs [] j x hx 0 (.int .i64 x) rfl
  rw [List.append_nil, Nat.mul_one] at this
  rw [Nat.zero_add]; exact this
omit [TOne P tI] in
theorem ints_nil {L : List Assn} : Ints P tI L (.slice none 0 0) [] := ⟨none, 0, rfl, by decide, fun h => by simp at h⟩
def Shape (v : Value) (l : Nat) : Prop := (v = .slice none 0 0 ∧ l = 0) ∨ ∃ b cap, v = .slice (some ⟨b, 0, none⟩) l cap ∧ l ≤ cap ∧ cap ≤ maxLen
theorem own_shape {e n : Nat} {v : Value} {l : Nat} {xs : List Value} {L L' : List Assn} (ht : Take (own e n v l xs) L L') {m : PH} (h : Sat L m) : Shape v l := by
  have h := Sat.perm ht.perm _ h
  rcases own_open h with ⟨rfl, rfl, _⟩ | ⟨b, cap, ex, rfl, h1, h2, _⟩
  · exact .inl ⟨rfl, rfl⟩
  · exact .inr ⟨b, cap, rfl, h1, h2⟩
theorem H.take {A : Assn} {E : Ctx} {w : World} {L L' : List Assn} (h : H E w L) (t : Take A L L') : H E w (A :: L') := h.ent (Ent.perm t.perm)
theorem ld_own {L L' : List Assn} {b cap l : Nat} {xs : List Value} {e : TypeId} (t : Take (own e 1 (.slice (some ⟨b, 0, none⟩) l cap) l xs) L L') {ty : TypeId} [TOne P ty] {j : Nat} {v : Value} (hv : xs[j]? = some v) : Ld P L ty ⟨b, j, none⟩ v := by
  intro E w hh
  obtain ⟨k1, k2, k3, k4, k5⟩ := hh.take t
  have k6 : Sat (own e 1 (.slice (some ⟨b, 0, none⟩) l cap) l xs :: (E.X ++ L')) (fun b => w.heap[b]?) := Sat.perm (perm_out (.refl _)) _ k5
  rcases own_open k6 with ⟨a1, a2, a3⟩ | ⟨b', cap', ex, a1, a2, a3, a4, a5, a6⟩
  · cases a1
  · injection a1 with e1 e2 e3
    injection e1 with e1
    injection e1 with e1
    subst e1
    exact ld_one (L := blk b e (xs ++ ex) :: L') (ty := e) (cs := xs ++ ex) (by rw [List.getElem?_append_left (List.getElem?_eq_some_iff.1 hv).1]; exact hv) E w ⟨k1, k2, k3, k4, Sat.perm (perm_out (.refl _)).symm _ a6⟩
theorem ints_own {L L' : List Assn} {v : Value} {xs : List Int} (hs : Shape v xs.length) (t : Take (own tI 1 v xs.length (xs.flatMap (icsk .i64))) L L') : Ints P tI L v xs := by
  rcases hs with ⟨rfl, h0⟩ | ⟨b, cap, rfl, h1, h2⟩
  · obtain rfl := List.eq_nil_of_length_eq_zero h0
    exact ints_nil
  · simp only [maxLen] at h2
    refine ⟨_, _, rfl, by omega, fun _ => ⟨b, 0, rfl, fun j x hx => ?_⟩⟩
    rw [Nat.zero_add]
    refine ld_own t ?_
    have := flat_get (icsk_len .i64) xs [] j x hx 0 (.int .i64 x) rfl
    rwa [List.append_nil, Nat.mul_one] at this
end
section
variable {P : Program} {tG : TypeId}
theorem flat_take {β : Type} {f : β → List Value} (hf : ∀ e, (f e).length = 1) : ∀ (es : List β) (k : Nat), (es.flatMap f).take k = (es.take k).flatMap f
  | [], k => by simp
  | e :: es, 0 => by simp
  | e :: es, k + 1 => by
    rw [List.flatMap_cons, List.take_succ_cons, List.flatMap_cons, ← flat_take hf es k]
    have := hf e
    rw [List.take_append, this, Nat.add_sub_cancel, List.take_of_length_le (by omega)]
theorem graph_take {e by_ : Nat} [TSl P tG e 1 by_] {μ : PH} {v : Value} {G : List (Value × List Int)} (hG : Graph μ v G) (k : Nat) (hk : k ≤ G.length) :
    ∃ v', Graph μ v' (G.take k) ∧ ∀ (env : Env) (x y : Operand) (ki : IntKind) (hi : Int), evalE env x = some v → evalE env y = some (.int ki hi) → hi = (k : Int) → Pu P env (.slice tG x none (some y) none) v' := by
  obtain ⟨v', hr, hp⟩ := Row.hi (P := P) (t := tG) hG.1 k hk
  refine ⟨v', ⟨?_, fun x hx => hG.2 x (List.mem_of_mem_take hx)⟩, hp⟩
  rw [Nat.mul_one, flat_take gcs_len] at hr
  rwa [List.length_take, Nat.min_eq_left hk]
theorem icsk_one (xs : List Int) : (xs.flatMap (icsk .i64)).all Value.oneCell' = true := by
  rw [List.all_flatMap]; simp [icsk, Value.oneCell']
end
theorem row_of_blk {μ : PH} {b t n l : Nat} {cs : List Value} (h : μ b = some (.cells cs.toArray t (0, 0))) (hl : cs.length = l * n) (hm : l ≤ maxLen) : Row μ (.slice (some ⟨b, 0, none⟩) l l) n l cs :=
  ⟨hl, _, _, rfl, Nat.le_refl _, hm, fun h => (by cases h), fun _ => ⟨b, 0, rfl, fun j u hj => ⟨cs.toArray, t, (0, 0), h, by rw [Nat.zero_add]; simpa using hj⟩⟩⟩
theorem Row.at_ {μ : PH} {v : Value} {xs : List Int} (h : Row μ v 1 xs.length (xs.flatMap (icsk .i64))) {i : Nat} {x : Int} (hi : xs[i]? = some x) : ∃ b off cap, v = .slice (some ⟨b, off, none⟩) xs.length cap ∧ CellAt μ b (off + i * 1) (.int .i64 x) := by
  have hl := (List.getElem?_eq_some_iff.1 hi).1
  obtain ⟨b, off, cap, hv, _, _, hr⟩ := h.pos (by omega)
  exact ⟨b, off, cap, hv, (hr.elem (icsk_len .i64) hi).cell⟩
/-- a row of numbers -/
def ncs (n : Nat) (c : Nat → Int) : List Value := (List.range n).map fun k => .int .i64 (c k)
theorem ncs_len (n : Nat) (c : Nat → Int) : (ncs n c).length = n := by simp [ncs]
theorem ncs_get {n k : Nat} (c : Nat → Int) (h : k < n) : (ncs n c)[k]? = some (.int .i64 (c k)) := by simp [ncs, h]
theorem ncs_zero (n : Nat) : List.replicate n (Value.int .i64 0) = ncs n (fun _ => 0) := by
  apply List.ext_getElem?
  intro j
  simp [ncs, List.getElem?_replicate]
  split <;> simp_all
theorem ncs_set {n x : Nat} {c d : Nat → Int} {v : Int} (h : ∀ k, d k = if k = x then v else c k) : (ncs n c).set x (.int .i64 v) = ncs n d := by
  apply List.ext_getElem?
  intro j
  by_cases hj : j < n
  · rw [ncs_get d hj, h]
    by_cases e : j = x
    · subst e; rw [List.getElem?_set_self (by rw [ncs_len]; exact hj), if_pos rfl]
    · rw [List.getElem?_set_ne (fun h => e h.symm), ncs_get c hj, if_neg e]
  · rw [List.getElem?_eq_none (by rw [List.length_set, ncs_len]; omega), List.getElem?_eq_none (by rw [ncs_len]; omega)]
theorem own_empty {e n b : Nat} {L : List Assn} : Ent (blk b e [] :: L) (own e n (.slice (some ⟨b, 0, none⟩) 0 0) 0 [] :: L) :=
  own_close (e := e) (n := n) (b := b) (l := 0) (cap := 0) (xs := []) (ex := []) (by simp) (by simp) (Nat.le_refl _) (Nat.zero_le _) (L := L)
end SX
namespace SX
open Go

def cnt (n : Int) : Int := if 1023 < n then 1024 else max n 1
def hiG (l : List Int) : Int := l.foldl (fun h p => max h (cnt p)) 0
/-- one above the parents -/
def nxt (l : List Int) : Int := if 1023 ≤ hiG l then hiG l else hiG l + 1
def inR (n : Nat) (p : Int) : Bool := decide (0 ≤ p) && decide (p < n)
def okRow (n : Nat) (l : List Int) : Bool := l.all (inR n) && decide l.Nodup
def valsG (all l : List Int) : List Int := l.map fun p => all.getD p.toNat 0
def moreG : List Int → List (List Int) → Option (List Int)
  | all, [] => some all
  | all, r :: g => if okRow all.length r = true then moreG (all ++ [nxt (valsG all r)]) g else none

theorem cnt_range (n : Int) : 1 ≤ cnt n ∧ cnt n ≤ 1024 := by unfold cnt; split <;> omega
theorem hiG_append (l : List Int) (p : Int) : hiG (l ++ [p]) = max (hiG l) (cnt p) := by unfold hiG; rw [List.foldl_append]; rfl
theorem hiG_range : ∀ l : List Int, 0 ≤ hiG l ∧ hiG l ≤ 1024 := fun l => by
  have key : ∀ (l : List Int) (h : Int), 0 ≤ h → h ≤ 1024 → 0 ≤ l.foldl (fun h p => max h (cnt p)) h ∧ l.foldl (fun h p => max h (cnt p)) h ≤ 1024 := fun l => by
    induction l with
    | nil => exact fun h h1 h2 => ⟨h1, h2⟩
    | cons p l ih => exact fun h h1 h2 => ih (max h (cnt p)) (by have := cnt_range p; omega) (by have := cnt_range p; omega)
  exact key l 0 (by omega) (by omega)
theorem valsG_append (all l : List Int) (p : Int) : valsG all (l ++ [p]) = valsG all l ++ [all.getD p.toNat 0] := by unfold valsG; rw [List.map_append]; rfl
theorem moreG_append : ∀ (g1 g2 : List (List Int)) (all : List Int), moreG all (g1 ++ g2) = (moreG all g1).bind fun a => moreG a g2
  | [], _, _ => rfl
  | r :: g1, g2, all => by
    rw [List.cons_append, moreG, moreG]
    split
    · exact moreG_append g1 g2 _
    · rfl
theorem moreG_len : ∀ {g : List (List Int)} {all out : List Int}, moreG all g = some out → out.length = all.length + g.length ∧ out.take all.length = all
  | [], all, out, h => by
    obtain rfl : all = out := by simpa [moreG] using h
    simp
  | r :: g, all, out, h => by
    rw [moreG] at h
    split at h
    · obtain ⟨h1, h2⟩ := moreG_len h
      rw [List.length_append, List.length_singleton] at h1 h2
      refine ⟨by rw [h1, List.length_cons]; omega, ?_⟩
      have : (out.take (all.length + 1)).take all.length = (all ++ [nxt (valsG all r)]).take all.length := by rw [h2]
      rw [List.take_take, Nat.min_eq_left (by omega), List.take_left'] at this
      · exact this
      · rfl
    · cases h
theorem moreG_at {g : List (List Int)} {all : List Int} {i : Nat} {r : List Int} {a : List Int} (h : moreG all (g.take i) = some a) (hi : g[i]? = some r) : moreG all (g.take (i + 1)) = if okRow a.length r = true then some (a ++ [nxt (valsG a r)]) else none := by
  rw [List.take_add_one, hi]
  show moreG all (g.take i ++ [r]) = _
  rw [moreG_append, h]
  show moreG a [r] = _
  rw [moreG]
  split <;> rfl
theorem moreG_none {g : List (List Int)} {all : List Int} {i : Nat} (h : moreG all (g.take i) = none) : moreG all g = none := by
  have := moreG_append (g.take i) (g.drop i) all
  rw [List.take_append_drop, h] at this
  exact this

/-! what a row's check says -/
theorem rowErr_ok {c : Nat} : ∀ {l s : List Int}, rowErr c s l = 0 ↔ (∀ p ∈ l, 0 ≤ p ∧ p < c) ∧ l.Nodup ∧ ∀ p ∈ l, p ∉ s
  | [], s => by simp [rowErr]
  | q :: l, s => by
    unfold rowErr
    by_cases h1 : q < 0
    · rw [if_pos h1]
      exact ⟨fun h => (by cases h), fun ⟨h, _⟩ => by have := h q (List.mem_cons_self ..); omega⟩
    · rw [if_neg h1]
      by_cases h2 : (c : Int) ≤ q
      · rw [if_pos h2]
        exact ⟨fun h => (by cases h), fun ⟨h, _⟩ => by have := h q (List.mem_cons_self ..); omega⟩
      · rw [if_neg h2]
        by_cases h3 : q ∈ s
        · rw [if_pos h3]
          exact ⟨fun h => (by cases h), fun ⟨_, _, h⟩ => absurd h3 (h q (List.mem_cons_self ..))⟩
        · rw [if_neg h3, rowErr_ok, List.nodup_cons]
          constructor
          · rintro ⟨h4, h5, h6⟩
            refine ⟨fun p hp => ?_, ⟨fun hq => ?_, h5⟩, fun p hp => ?_⟩
            · rcases List.mem_cons.1 hp with rfl | hp
              · omega
              · exact h4 p hp
            · exact h6 q hq (by simp)
            · rcases List.mem_cons.1 hp with rfl | hp
              · exact h3
              · exact fun hs => h6 p hp (by simp [hs])
          · rintro ⟨h4, ⟨h5, h6⟩, h7⟩
            refine ⟨fun p hp => h4 p (List.mem_cons_of_mem _ hp), h6, fun p hp hs => ?_⟩
            rcases List.mem_append.1 hs with hs | hs
            · exact h7 p (List.mem_cons_of_mem _ hp) hs
            · obtain rfl := List.mem_singleton.1 hs
              exact h5 hp
theorem okRow_iff {n : Nat} {l : List Int} : okRow n l = true ↔ (∀ p ∈ l, 0 ≤ p ∧ p < n) ∧ l.Nodup := by
  unfold okRow inR
  simp only [Bool.and_eq_true, List.all_eq_true, decide_eq_true_eq]
theorem okRow_err {n : Nat} {l : List Int} : okRow n l = true ↔ rowErr n [] l = 0 := by
  rw [okRow_iff, rowErr_ok]
  exact ⟨fun ⟨a, b⟩ => ⟨a, b, fun _ _ h => by cases h⟩, fun ⟨a, b, _⟩ => ⟨a, b⟩⟩
theorem moreG_chk : ∀ {g : List (List Int)} {all : List Int}, (moreG all g).isSome = true ↔ chkFrom all.length g = 0
  | [], all => by simp [moreG, chkFrom]
  | r :: g, all => by
    rw [moreG, chkFrom]
    by_cases h : okRow all.length r = true
    · rw [if_pos h, if_pos (okRow_err.1 h), moreG_chk]
      simp
    · rw [if_neg h, if_neg (fun e => h (okRow_err.2 e))]
      exact ⟨fun e => (by cases e), fun e => absurd (okRow_err.2 e) h⟩

/-! sorted lists -/
/-! the numbers of a whole graph -/
theorem valsG_take {gs : List Int} {i : Nat} {r : List Int} (h : ∀ p ∈ r, 0 ≤ p ∧ p < i) : valsG (gs.take i) r = valsG gs r := by
  unfold valsG
  apply List.map_congr_left
  intro p hp
  have := h p hp
  rw [List.getD_eq_getElem?_getD, List.getD_eq_getElem?_getD, List.getElem?_take_of_lt (by omega)]
theorem gens_at {g : List (List Int)} {gs : List Int} (h : moreG [] g = some gs) {i : Nat} {r : List Int} (hi : g[i]? = some r) : gs[i]? = some (nxt (valsG gs r)) ∧ okRow i r = true := by
  have hl := (List.getElem?_eq_some_iff.1 hi).1
  have h1 := moreG_append (g.take i) (g.drop i) []
  rw [List.take_append_drop, h] at h1
  cases ha : moreG [] (g.take i) with
  | none => rw [ha] at h1; cases h1
  | some a =>
    rw [ha] at h1
    have hal := (moreG_len ha).1
    rw [List.length_nil, List.length_take, Nat.min_eq_left (by omega), Nat.zero_add] at hal
    have hd : g.drop i = r :: g.drop (i + 1) := by
      rw [List.drop_eq_getElem_cons hl, (List.getElem?_eq_some_iff.1 hi).2]
    rw [hd] at h1
    replace h1 : some gs = moreG a (r :: g.drop (i + 1)) := h1
    rw [moreG] at h1
    by_cases hok : okRow a.length r = true
    · rw [if_pos hok] at h1
      have h2 := moreG_len h1.symm
      rw [List.length_append, List.length_singleton, hal] at h2
      have hta : gs.take i = a := by
        have h3 : (gs.take (i + 1)).take i = (a ++ [nxt (valsG a r)]).take i := by rw [h2.2]
        rw [List.take_take, Nat.min_eq_left (by omega), List.take_left' hal] at h3
        exact h3
      rw [hal] at hok
      refine ⟨?_, hok⟩
      have h4 : (gs.take (i + 1))[i]? = some (nxt (valsG a r)) := by
        rw [h2.2, List.getElem?_append_right (by omega), hal, Nat.sub_self]; rfl
      rw [List.getElem?_take_of_lt (by omega)] at h4
      rw [h4, ← hta, valsG_take (okRow_iff.1 hok).1]
    · rw [if_neg hok] at h1; cases h1
theorem gens_len {g : List (List Int)} {gs : List Int} (h : moreG [] g = some gs) : gs.length = g.length := by have := (moreG_len h).1; rwa [List.length_nil, Nat.zero_add] at this
theorem gens_good {g : List (List Int)} {gs : List Int} (h : moreG [] g = some gs) : Good g := fun _ _ hl p hp => (okRow_iff.1 (gens_at h hl).2).1 p hp
/-- the numbers, of which the first k are known -/
def cutG (k : Nat) (gs : List Int) : List Int := (List.range gs.length).map fun i => if i < k then gs.getD i 0 else 1024
theorem cutG_len (k : Nat) (gs : List Int) : (cutG k gs).length = gs.length := by simp [cutG]
end SX
namespace SX
open Go

/-- into its place in a falling list -/
def insD (x : Nat) : List Nat → List Nat
  | [] => [x]
  | y :: l => if y < x then x :: y :: l else y :: insD x l
def Falls (l : List Nat) : Prop := l.Pairwise (fun a b => b < a)
theorem mem_insD {x k : Nat} : ∀ {l : List Nat}, k ∈ insD x l ↔ k = x ∨ k ∈ l
  | [] => by simp [insD]
  | y :: l => by
    unfold insD
    split
    · simp
    · rw [List.mem_cons, mem_insD, List.mem_cons]
      constructor
      · rintro (h | h | h)
        · exact .inr (.inl h)
        · exact .inl h
        · exact .inr (.inr h)
      · rintro (h | h | h)
        · exact .inr (.inl h)
        · exact .inl h
        · exact .inr (.inr h)
theorem insD_falls {x : Nat} : ∀ {l : List Nat}, Falls l → x ∉ l → Falls (insD x l)
  | [], _, _ => by simp [insD, Falls]
  | y :: l, h, hx => by
    obtain ⟨h1, h2⟩ := List.pairwise_cons.1 h
    unfold insD
    split
    · rename_i hy
      exact List.pairwise_cons.2 ⟨fun z hz => by
        rcases List.mem_cons.1 hz with rfl | hz
        · exact hy
        · have := h1 z hz; omega, h⟩
    · rename_i hy
      refine List.pairwise_cons.2 ⟨fun z hz => ?_, insD_falls h2 (fun hm => hx (List.mem_cons_of_mem _ hm))⟩
      rcases mem_insD.1 hz with rfl | hz
      · have : y ≠ z := fun e => hx (by rw [e]; exact List.mem_cons_self ..)
        omega
      · exact h1 z hz
/-- a walker: what was seen, what is to come -/
abbrev Wk := (Nat → Bool) × List Nat
def addW (n : Nat) (s : Wk) (c : Int) : Wk := if (decide (0 ≤ c) && (decide (c < n) && !s.1 c.toNat)) = true then (fun j => s.1 j || decide (j = c.toNat), insD c.toNat s.2) else s
def addAll (n : Nat) (s : Wk) (l : List Int) : Wk := l.foldl (addW n) s
theorem addAll_succ {n : Nat} {s : Wk} {l : List Int} {i : Nat} {c : Int} (h : l[i]? = some c) : addAll n s (l.take (i + 1)) = addW n (addAll n s (l.take i)) c := by
  unfold addAll
  rw [List.take_add_one, h, List.foldl_append]; rfl
/-- below m just the queue was seen -/
structure WkI (n m : Nat) (s : Wk) : Prop where
  falls : Falls s.2
  lt : ∀ q ∈ s.2, q < m
  seen : ∀ k, k < m → (s.1 k = true ↔ k ∈ s.2)
theorem WkI.add {n m : Nat} {s : Wk} {c : Int} (h : WkI n m s) (hc : 0 ≤ c ∧ c < m) (hm : m ≤ n) :
    WkI n m (addW n s c) ∧ (∀ k, k ∈ (addW n s c).2 ↔ k ∈ s.2 ∨ (k : Int) = c) ∧ (∀ k, (addW n s c).1 k = true ↔ s.1 k = true ∨ (k : Int) = c) := by
  obtain ⟨j, rfl⟩ : ∃ j : Nat, c = j := ⟨c.toNat, by omega⟩
  have hj : j < m := by omega
  unfold addW
  rw [Int.toNat_natCast, decide_eq_true hc.1, decide_eq_true (show (j : Int) < n by omega), Bool.true_and, Bool.true_and]
  by_cases hs : s.1 j = true
  · rw [hs]
    have hq := (h.seen j hj).1 hs
    refine ⟨h, fun k => ⟨.inl, ?_⟩, fun k => ⟨.inl, ?_⟩⟩
    · rintro (h | h)
      · exact h
      · obtain rfl : k = j := by omega
        exact hq
    · rintro (h | h)
      · exact h
      · obtain rfl : k = j := by omega
        exact hs
  · have hs' : s.1 j = false := by simpa using hs
    rw [hs', if_pos (show (!false) = true from rfl)]
    have hq : j ∉ s.2 := fun hm => hs ((h.seen j hj).2 hm)
    refine ⟨⟨insD_falls h.falls hq, fun q hq => ?_, fun k hk => ?_⟩, fun k => ?_, fun k => ?_⟩
    · rcases mem_insD.1 hq with rfl | hq
      · exact hj
      · exact h.lt q hq
    · show (s.1 k || decide (k = j)) = true ↔ k ∈ insD j s.2
      rw [mem_insD, Bool.or_eq_true, decide_eq_true_eq, h.seen k hk]
      exact Or.comm
    · show k ∈ insD j s.2 ↔ _
      rw [mem_insD, Or.comm]
      exact or_congr Iff.rfl (by omega)
    · show (s.1 k || decide (k = j)) = true ↔ _
      rw [Bool.or_eq_true, decide_eq_true_eq]
      exact or_congr Iff.rfl (by omega)
theorem WkI.addAll {n m : Nat} : ∀ {l : List Int} {s : Wk}, WkI n m s → (∀ p ∈ l, 0 ≤ p ∧ p < m) → m ≤ n →
    WkI n m (addAll n s l) ∧ (∀ k, k ∈ (addAll n s l).2 ↔ k ∈ s.2 ∨ (k : Int) ∈ l) ∧ (∀ k, (addAll n s l).1 k = true ↔ s.1 k = true ∨ (k : Int) ∈ l)
  | [], s, h, _, _ => ⟨h, fun k => by simp [SX.addAll], fun k => by simp [SX.addAll]⟩
  | c :: l, s, h, hl, hm => by
    obtain ⟨h1, h2, h3⟩ := h.add (hl c (List.mem_cons_self ..)) hm
    obtain ⟨k1, k2, k3⟩ := WkI.addAll h1 (fun p hp => hl p (List.mem_cons_of_mem _ hp)) hm
    have e : SX.addAll n s (c :: l) = SX.addAll n (addW n s c) l := rfl
    rw [e]
    refine ⟨k1, fun k => ?_, fun k => ?_⟩
    · rw [k2, h2, List.mem_cons, or_assoc]
    · rw [k3, h3, List.mem_cons, or_assoc]
/-- the next one comes out -/
theorem WkI.pop {n m c : Nat} {S : Nat → Bool} {Q : List Nat} (h : WkI n m (S, c :: Q)) : WkI n c (S, Q) := by
  obtain ⟨h1, h2⟩ := List.pairwise_cons.1 h.falls
  refine ⟨h2, fun q hq => h1 q hq, fun k hk => ?_⟩
  have hc := h.lt c (List.mem_cons_self ..)
  refine (h.seen k (by omega)).trans ?_
  show k ∈ c :: Q ↔ k ∈ Q
  rw [List.mem_cons]
  exact ⟨fun h => h.resolve_left (by omega), .inr⟩
theorem WkI.start (n : Nat) : WkI n n (fun _ => false, []) := ⟨.nil, fun _ h => (by cases h), fun _ _ => ⟨fun h => (by cases h), fun h => (by cases h)⟩⟩

/-! what is reached -/
def seedS (l : List Int) : Nat → Bool := fun k => decide ((k : Int) ∈ l)
/-- all that some reach -/
def anyUp (g : List (List Int)) (n : Nat) (l : List Int) : Nat → Bool := upF g n (seedS l)
theorem anyUp_iff {g : List (List Int)} (hg : Good g) {l : List Int} (hl : ∀ p ∈ l, p < g.length) (j : Nat) : anyUp g g.length l j = true ↔ ∃ i : Nat, (i : Int) ∈ l ∧ Reach g i j := by
  unfold anyUp
  rw [upF_iff hg g.length _ (fun i hi hs => by have := hl _ (of_decide_eq_true hs); omega) j]
  exact ⟨fun ⟨i, h1, h2⟩ => ⟨i, of_decide_eq_true h1, h2⟩, fun ⟨i, h1, h2⟩ => ⟨i, decide_eq_true h1, h2⟩⟩
end SX
namespace SX
open Go
variable {P : Program} {Q : Post} {N : Nat} {env : Env} {L : List Assn}

theorem YSp.ent {l : Nat} {args : List Value} {pre pre' : List Assn} {post post' : Value → List Assn → Prop} (h : YSp P l args pre post) (h1 : Ent pre' pre) (h2 : ∀ v L, post v L → ∃ L', Ent L L' ∧ post' v L') : YSp P l args pre' post' := fun E w hw => by
  obtain ⟨f, t, a, b, r1, r2⟩ := h E w (hw.ent h1)
  exact ⟨f, t, a, b, r1, fun ro => (r2 ro).mono fun e w' ⟨v, L', e1, p, k⟩ => let ⟨L2, e2, p2⟩ := h2 v L' p; ⟨v, L2, e1, p2, k.ent e2⟩⟩

/-- an iterator's contract: of its own A it shows Sh at a yield, and Bk comes back; K is what it leaves -/
def IterG {α : Type} (P : Program) (f : FuncId) (ca : List Value) (enc : α → List Value) (ok : List α → α → Prop) (fin : List α → Prop) (A : List Assn) (Sh Bk : List α → α → Assn) (K : List α → Assn) : Prop :=
  ∀ (l : Nat) (I : List α → Assn) (X R : Assn), Ent [R] [I []] →
    (∀ pre x, ok pre x → YSp P l (enc x) [I pre, Sh pre x] (fun v L' => (v = .bool true ∧ L' = [I (pre ++ [x]), Bk pre x]) ∨ (v = .bool false ∧ L' = [X]))) →
    Spec P f (yv l :: ca) (A ++ [R]) (fun _ L' => (∃ ys, fin ys ∧ L' = [I ys, K ys]) ∨ L' = [X])

theorem star2 {A B : Assn} : Ent [star [A, B]] [A, B] := star_ent (L := [])
theorem star_in {A B C : Assn} : Ent [star [A, B], C] [star [A, star [B, C]]] :=
  (star_ent (K := [A, B]) (L := [C])).trans ((Ent.cons star_close1).trans star_close1)
theorem star_out {A B C : Assn} : Ent [star [A, star [B, C]]] [star [A, B], C] :=
  (star_ent (K := [A, star [B, C]]) (L := [])).trans ((Ent.cons (star_ent (K := [B, C]) (L := []))).trans (star_close (K := [A, B]) (L := [C])))

theorem swp_rangeG {α : Type} {g : Operand} {ps : List Tmp} {assign body : Code} {f : FuncId} [hbf : Body P f] {ca : List Value} {enc : α → List Value} {ok : List α → α → Prop} {fin : List α → Prop} {A B : List Assn} {Sh Bk : List α → α → Assn} {K : List α → Assn}
    (it : IterG P f ca enc ok fin A Sh Bk K) (C : List α → Assn) (Cr : Assn) (Cx : Nat → Assn)
    (hg : evalE env g = some (.func (.func f) #[] ca.toArray)) (hps : ps.all (Nat.blt · N) = true) (hlen : ∀ x, (enc x).length = ps.length)
    (hL : Ent L (A ++ B)) (h0 : Ent B [C []])
    (round : ∀ l pre x, ok pre x → swp P (some l) assign (SThen (fun env' L' => swp P (some l) body (RndQ (star [C (pre ++ [x]), Bk pre x]) Cr Cx) N env' L') (fun _ _ _ => False)) N (bindE ps (enc x) env) [star [C pre, Sh pre x]])
    (kn : ∀ ys, fin ys → Q .normal env [C ys, K ys]) (kr : swp P none .ret Q N env [Cr]) (kx : ∀ i, swp P none (.exit i) Q N env [Cx i]) :
    swp P none (.rangeFunc g ps.toArray assign body) Q N env L := by
  intro E D a w hd hf hh
  refine wpIn_rangeFunc fun fn _ => ?_
  obtain ⟨rec, hr⟩ : ∃ rec : LoopState → Option Code → Loop, rec = fun st pe => { state := st, pending := pe, fn, tmps := a.tmps, params := ps.toArray, assign, body, defers := w.heap.size } := ⟨_, rfl⟩
  have hrec : RecOf rec N env ps assign body := ⟨fn, a.tmps, w.heap.size, ⟨hf.1, hf.2⟩, hr⟩
  have hW1 := (hh.alloc (.deferred (some []))).alloc (.loop (rec .ready none))
  rw [World.size_alloc] at hW1
  have hE := hf.ev _ _ hg
  refine ⟨w.heap.size + 1, [mark w.heap.size], (w.alloc (.deferred (some []))).alloc (.loop (rec .ready none)), { target := .fn (.func f) ca.toArray, args := #[yv (w.heap.size + 1)] }, (w.alloc (.deferred (some []))).alloc (.loop (rec .ready none)), f, #[yv (w.heap.size + 1)] ++ ca.toArray, (w.alloc (.deferred (some []))).alloc (.loop (rec .ready none)),
    by rw [hr]; exact run_enterLoop_outer _ _ _ _ _, ?_, fun _ _ => trivial, ?_, fun hd => (by cases hd), ?_⟩
  · simp only [resolve, hE]
    simp [go_sem, yv]
  · simp [invoke, go_sem, run_callFunc]
  · have hs := it (w.heap.size + 1) (fun pre => star [lp rec (w.heap.size + 1) .ready none, C pre]) (Left rec (w.heap.size + 1) Cr Cx) (star (lp rec (w.heap.size + 1) .ready none :: B))
      ((star_ent (L := [])).trans (Ent.trans (L2 := lp rec (w.heap.size + 1) .ready none :: [C []]) (by rw [List.append_nil]; exact Ent.cons h0) star_close1))
      (fun pre x hok => (ysp_round hrec (hlen x) hps (round _ pre x hok)).ent star_in (fun v L' hp => by
        rcases hp with ⟨rfl, rfl⟩ | ⟨rfl, rfl⟩
        · exact ⟨_, star_out, .inl ⟨rfl, rfl⟩⟩
        · exact ⟨_, Ent.refl _, .inr ⟨rfl, rfl⟩⟩))
    have hE2 : H (E.add (w.heap.size :: D)) ((w.alloc (.deferred (some []))).alloc (.loop (rec .ready none))) (A ++ [star (lp rec (w.heap.size + 1) .ready none :: B)]) := by
      have b1 : H (E.add (w.heap.size :: D)) ((w.alloc (.deferred (some []))).alloc (.loop (rec .ready none))) (lp rec (w.heap.size + 1) .ready none :: L) := by
        refine ⟨hW1.1, hW1.2.1, hW1.2.2.1, hW1.2.2.2.1, Sat.perm ?_ _ hW1.2.2.2.2⟩
        show ((dfr D ++ E.X) ++ (_ :: one _ _ :: L)).Perm ((one _ _ :: (dfr D ++ E.X)) ++ (_ :: L))
        exact (List.Perm.append_left _ (.swap _ _ _)).trans List.perm_middle
      refine b1.ent ((Ent.cons hL).trans ?_)
      refine Ent.trans ?_ ((star_close (K := lp rec (w.heap.size + 1) .ready none :: B) (L := A)).trans (Ent.perm (List.perm_append_comm (l₁ := [_]))))
      exact Ent.perm (List.Perm.cons _ List.perm_append_comm)
    have hc := hs _ _ hE2
    have ha : (yv (w.heap.size + 1) :: ca).toArray = #[yv (w.heap.size + 1)] ++ ca.toArray := by simp
    rw [ha] at hc
    refine fw_calls (hc.mono fun e w3 ⟨v, L', he, hp, h3⟩ => ?_)
    subst he
    have hd2 : Dfs P ({ a with defers := [mark w.heap.size] ++ a.defers } : Act).defers (w.heap.size :: D) := .mark hd _
    have fin2 : ∀ {st : LoopState} {pe : Option Code} {M : List Assn}, st ≠ .busy → H (E.add (w.heap.size :: D)) w3 (lp rec (w.heap.size + 1) st pe :: M) →
        ∃ w4, (Instr.endLoop (w.heap.size + 1)).run P w3 = .ok pe w4 ∧ H (E.add (w.heap.size :: D)) w4 M := by
      intro st pe M hst h4
      rw [hr] at h4
      exact ⟨_, run_endLoop (h4.one_get .here) hst, (h4.loop).ent Ent.drop⟩
    rcases hp with ⟨ys, hy, rfl⟩ | rfl
    · obtain ⟨w4, r4, h4⟩ := fin2 (by decide) (h3.ent (star_ent (L := [K ys])))
      exact ⟨none, w4, r4, _, env, _, hd2, ⟨hf.1, hf.2⟩, h4, kn ys hy⟩
    · have h5 : H (E.add (w.heap.size :: D)) w3 [lp rec (w.heap.size + 1) .done (some .ret), Cr] ∨ ∃ i, H (E.add (w.heap.size :: D)) w3 [lp rec (w.heap.size + 1) .done (some (.exit i)), Cx i] := by
        obtain ⟨q1, q2, q3, q4, q5⟩ := h3
        obtain ⟨m1, m2, z1, z2, z3, z4, z5⟩ := Sat.perm (List.perm_append_comm) _ q5
        rcases z1 with z1 | ⟨i, z1⟩
        · exact .inl ⟨q1, q2, q3, q4, Sat.perm (List.perm_append_comm) _ (star_open ⟨m1, m2, z1, z2, z3, z4, z5⟩)⟩
        · exact .inr ⟨i, q1, q2, q3, q4, Sat.perm (List.perm_append_comm) _ (star_open ⟨m1, m2, z1, z2, z3, z4, z5⟩)⟩
      rcases h5 with h5 | ⟨i, h5⟩
      · obtain ⟨w4, r4, h4⟩ := fin2 (by decide) h5
        exact ⟨some .ret, w4, r4, kr E _ _ w4 hd2 ⟨hf.1, hf.2⟩ h4⟩
      · obtain ⟨w4, r4, h4⟩ := fin2 (by decide) h5
        exact ⟨some (.exit i), w4, r4, kx i E _ _ w4 hd2 ⟨hf.1, hf.2⟩ h4⟩
end SX
namespace SX
open Go
section
variable {P : Program} {env : Env} {μ : PH} {L : List Assn} {rn : Option Nat} {Q : Post} {N : Nat}
end
section
variable {P : Program} {tG : Nat}
end
end SX
namespace SX
open Go
end SX
namespace SX
def seenN (n : Nat) (S : Nat → Bool) : Nat := ((List.range n).filter S).length
theorem seenN_le (n : Nat) (S : Nat → Bool) : seenN n S ≤ n := by
  have := List.length_filter_le S (List.range n)
  rwa [List.length_range] at this
theorem seenN_put {S : Nat → Bool} {c : Nat} (hs : S c = false) : ∀ {n : Nat}, c < n → seenN n (fun j => S j || decide (j = c)) = seenN n S + 1
  | 0, h => by omega
  | n + 1, h => by
    have e : ∀ T : Nat → Bool, seenN (n + 1) T = seenN n T + if T n = true then 1 else 0 := fun T => by
      unfold seenN
      rw [List.range_succ, List.filter_append, List.length_append]
      cases hT : T n <;> simp [List.filter, hT]
    rw [e, e]
    by_cases hc : c = n
    · subst hc
      have e2 : seenN c (fun j => S j || decide (j = c)) = seenN c S := by
        unfold seenN
        congr 1
        apply List.filter_congr
        intro j hj
        rw [decide_eq_false (show ¬ j = c by have := List.mem_range.1 hj; omega), Bool.or_false]
      rw [e2, hs]; simp
    · rw [seenN_put hs (by omega), show (S n || decide (n = c)) = S n by rw [decide_eq_false (fun e => hc e.symm), Bool.or_false]]
      omega
theorem falls_len : ∀ {l : List Nat} {n : Nat}, Falls l → (∀ k ∈ l, k < n) → l.length ≤ n
  | [], _, _, _ => Nat.zero_le _
  | y :: l, n, h, hn => by
    obtain ⟨h1, h2⟩ := List.pairwise_cons.1 h
    have := falls_len h2 h1
    have := hn y (List.mem_cons_self ..)
    rw [List.length_cons]; omega
/-- a walker that is in order -/
structure WkOk (n : Nat) (s : Wk) : Prop where
  falls : Falls s.2
  lt : ∀ k ∈ s.2, k < n
  sub : ∀ k ∈ s.2, s.1 k = true
def putS (n : Nat) (S : Nat → Bool) (k : Int) : Nat → Bool := fun j => S j || (decide (0 ≤ k ∧ k < n) && decide (j = k.toNat))
def newW (n : Nat) (S : Nat → Bool) (k : Int) : Bool := decide (0 ≤ k) && (decide (k < n) && !S k.toNat)
theorem addW_new {n : Nat} {s : Wk} {c : Int} (h : newW n s.1 c = true) (hs : WkOk n s) : ∃ k : Nat, c = k ∧ k < n ∧ k ∉ s.2 ∧ (addW n s c).1 = putS n s.1 c ∧ (addW n s c).2 = insD k s.2 ∧ seenN n (putS n s.1 c) = seenN n s.1 + 1 ∧ WkOk n (addW n s c) := by
  have h' := h
  unfold newW at h
  simp only [Bool.and_eq_true, decide_eq_true_eq, Bool.not_eq_true'] at h
  obtain ⟨h1, h2, h3⟩ := h
  obtain ⟨k, rfl⟩ : ∃ k : Nat, c = k := ⟨c.toNat, by omega⟩
  rw [Int.toNat_natCast] at h3
  have hk : k < n := by omega
  have hq : k ∉ s.2 := fun hm => by rw [hs.sub k hm] at h3; cases h3
  have e : addW n s k = (fun j => s.1 j || decide (j = k), insD k s.2) := by
    unfold newW at h'; unfold addW; rw [if_pos h']; rfl
  have e2 : putS n s.1 (k : Int) = fun j => s.1 j || decide (j = k) := by
    funext j; unfold putS; rw [Int.toNat_natCast, decide_eq_true (show 0 ≤ (k : Int) ∧ (k : Int) < n from ⟨h1, h2⟩), Bool.true_and]
  refine ⟨k, rfl, hk, hq, by rw [e, e2], by rw [e], by rw [e2]; exact seenN_put h3 hk, ?_⟩
  rw [e]
  refine ⟨insD_falls hs.falls hq, fun j hj => ?_, fun j hj => ?_⟩
  · rcases mem_insD.1 hj with rfl | hj
    · exact hk
    · exact hs.lt j hj
  · show (s.1 j || decide (j = k)) = true
    rcases mem_insD.1 hj with rfl | hj
    · simp
    · rw [hs.sub j hj]; rfl
theorem addW_old {n : Nat} {s : Wk} {c : Int} (h : newW n s.1 c = false) : addW n s c = s ∧ putS n s.1 c = s.1 := by
  have h' := h
  unfold newW at h
  refine ⟨by unfold newW at h'; unfold addW; rw [if_neg (by rw [h']; exact Bool.false_ne_true)], ?_⟩
  funext j
  unfold putS
  by_cases hr : 0 ≤ c ∧ c < n
  · rw [decide_eq_true hr.1, decide_eq_true hr.2] at h
    have h3 : s.1 c.toNat = true := by simpa using h
    rw [decide_eq_true hr, Bool.true_and]
    by_cases e : j = c.toNat
    · rw [e, h3]; rfl
    · rw [decide_eq_false e, Bool.or_false]
  · rw [decide_eq_false hr, Bool.false_and, Bool.or_false]
end SX
namespace SX
def wkRun (row : Nat → List Int) (n : Nat) : Nat → Wk → List Nat
  | 0, _ => []
  | f + 1, s => match s.2 with
    | [] => []
    | c :: Q => c :: wkRun row n f (addAll n (s.1, Q) (row c))
theorem wkRun_pop {row : Nat → List Int} {n f c : Nat} {S : Nat → Bool} {Q : List Nat} : wkRun row n (f + 1) (S, c :: Q) = c :: wkRun row n f (addAll n (S, Q) (row c)) := rfl
theorem wkRun_nil {row : Nat → List Int} {n : Nat} {S : Nat → Bool} : ∀ f, wkRun row n f (S, []) = []
  | 0 => rfl
  | _ + 1 => rfl
theorem wkRun_spec {g : List (List Int)} (hg : Good g) : ∀ (f m : Nat) (s : Wk), WkI g.length m s → m ≤ f → m ≤ g.length →
    Falls (wkRun (rowOf g) g.length f s) ∧ (∀ j ∈ wkRun (rowOf g) g.length f s, j < m) ∧ ∀ j, j ∈ wkRun (rowOf g) g.length f s ↔ ∃ q ∈ s.2, Reach g q j
  | 0, m, s, h, hf, _ => by
    have hq : s.2 = [] := List.eq_nil_iff_forall_not_mem.2 fun q hq => by have := h.lt q hq; omega
    exact ⟨.nil, fun _ h => (by cases h), fun j => by rw [hq]; simp [wkRun]⟩
  | f + 1, m, (S, []), h, hf, _ => ⟨.nil, fun _ h => (by cases h), fun j => by simp [wkRun]⟩
  | f + 1, m, (S, c :: Q), h, hf, hm => by
    have hc : c < m := h.lt c (List.mem_cons_self ..)
    have hrow : ∀ p ∈ rowOf g c, 0 ≤ p ∧ p < c := fun p hp => ⟨(row_good hg hp).1, (row_good hg hp).2.1⟩
    obtain ⟨h1, h2, _⟩ := h.pop.addAll hrow (by omega)
    obtain ⟨k1, k2, k3⟩ := wkRun_spec hg f c _ h1 (by omega) (by omega)
    rw [wkRun_pop]
    refine ⟨List.pairwise_cons.2 ⟨k2, k1⟩, fun j hj => ?_, fun j => ?_⟩
    · rcases List.mem_cons.1 hj with rfl | hj
      · exact hc
      · have := k2 j hj; omega
    · rw [List.mem_cons, k3]
      constructor
      · rintro (rfl | ⟨q, hq, hr⟩)
        · exact ⟨j, List.mem_cons_self .., .refl _⟩
        · rcases (h2 q).1 hq with hq | hq
          · exact ⟨q, List.mem_cons_of_mem _ hq, hr⟩
          · exact ⟨c, List.mem_cons_self .., .step hq hr⟩
      · rintro ⟨q, hq, hr⟩
        rcases List.mem_cons.1 hq with rfl | hq
        · cases hr with
          | refl => exact .inl rfl
          | step hp hr => exact .inr ⟨_, (h2 _).2 (.inr hp), hr⟩
        · exact .inr ⟨q, (h2 q).2 (.inl hq), hr⟩
def inRng (n : Nat) (l : List Int) : List Int := l.filter fun p => decide (0 ≤ p) && decide (p < n)
theorem inRng_mem {n : Nat} {l : List Int} {p : Int} : p ∈ inRng n l ↔ p ∈ l ∧ 0 ≤ p ∧ p < n := by unfold inRng; rw [List.mem_filter]; simp
theorem addAll_rng {n : Nat} : ∀ {l : List Int} {s : Wk}, addAll n s l = addAll n s (inRng n l)
  | [], _ => rfl
  | c :: l, s => by
    unfold inRng
    rw [List.filter_cons]
    split
    · exact addAll_rng (l := l) (s := addW n s c)
    · rename_i h
      have e : addW n s c = s := by
        unfold addW
        rw [if_neg]
        intro h2
        apply h
        simp only [Bool.and_eq_true] at h2 ⊢
        exact ⟨h2.1, h2.2.1⟩
      show addAll n (addW n s c) l = _
      rw [e]
      exact addAll_rng (l := l) (s := s)
/-- all that is reached from some, falling -/
theorem wk_start {n : Nat} (l : List Int) : WkI n n (addAll n (fun _ => false, []) l) ∧ ∀ k, k ∈ (addAll n (fun _ => false, []) l).2 ↔ (k : Int) ∈ inRng n l := by
  rw [addAll_rng]
  obtain ⟨h1, h2, _⟩ := (WkI.start n).addAll (l := inRng n l) (fun p hp => (inRng_mem.1 hp).2) (Nat.le_refl _)
  exact ⟨h1, fun k => by rw [h2]; simp⟩
def downL (g : List (List Int)) (l : List Int) : List Nat := wkRun (rowOf g) g.length g.length (addAll g.length (fun _ => false, []) l)
theorem downL_spec {g : List (List Int)} (hg : Good g) (l : List Int) : Falls (downL g l) ∧ (∀ j ∈ downL g l, j < g.length) ∧ ∀ j, j ∈ downL g l ↔ ∃ q : Nat, (q : Int) ∈ inRng g.length l ∧ Reach g q j := by
  obtain ⟨h1, h2⟩ := wk_start (n := g.length) l
  obtain ⟨k1, k2, k3⟩ := wkRun_spec hg g.length g.length _ h1 (Nat.le_refl _) (Nat.le_refl _)
  exact ⟨k1, k2, fun j => by rw [downL, k3]; exact ⟨fun ⟨q, a, b⟩ => ⟨q, (h2 q).1 a, b⟩, fun ⟨q, a, b⟩ => ⟨q, (h2 q).2 a, b⟩⟩⟩
/-- falling lists of the same members are the same -/
theorem falls_ext : ∀ {l l' : List Nat}, Falls l → Falls l' → (∀ j, j ∈ l ↔ j ∈ l') → l = l'
  | [], [], _, _, _ => rfl
  | [], b :: l', _, _, h => absurd ((h b).2 (List.mem_cons_self ..)) (by simp)
  | a :: l, [], _, _, h => absurd ((h a).1 (List.mem_cons_self ..)) (by simp)
  | a :: l, b :: l', h1, h2, h => by
    obtain ⟨a1, a2⟩ := List.pairwise_cons.1 h1
    obtain ⟨b1, b2⟩ := List.pairwise_cons.1 h2
    have hab : a = b := by
      have x := (h a).1 (List.mem_cons_self ..)
      have y := (h b).2 (List.mem_cons_self ..)
      rcases List.mem_cons.1 x with rfl | x
      · rfl
      rcases List.mem_cons.1 y with rfl | y
      · rfl
      have := b1 a x
      have := a1 b y
      omega
    subst hab
    rw [falls_ext a2 b2 fun j => ?_]
    constructor
    · intro hj
      rcases List.mem_cons.1 ((h j).1 (List.mem_cons_of_mem _ hj)) with rfl | hj'
      · have := a1 j hj; omega
      · exact hj'
    · intro hj
      rcases List.mem_cons.1 ((h j).2 (List.mem_cons_of_mem _ hj)) with rfl | hj'
      · have := b1 j hj; omega
      · exact hj'
end SX
namespace SX
open Go
class TIface (P : Program) (t : TypeId) : Prop where
  und : ∃ ms, P.underlying t = some (.interface ms)
section
variable {P : Program} {env : Env}
theorem eqGuard_if {t d : TypeId} {v u : Value} : ∀ op X Y w, (eqGuard op t X Y (.iface d v) u).run P w = .ok () w := fun op X Y w => by
  cases op <;> rfl
theorem pu_if_eq_nil {t u d : TypeId} {v : Value} [h : TIface P t] {x y : Operand} (hx : evalE env x = some (.iface d v)) (hy : evalE env y = some .nilIface) : Pu P env (.binOp .eql t x y u) (.bool false) := by
  obtain ⟨e, he⟩ := h.und
  exact pu_eq_of hx hy eqGuard_if rfl (fun d w => by simp [Op.equalIn, run_underlying he])
end
end SX
namespace SX
theorem seedS_put {n : Nat} {l : List Int} {p : Int} (hp : 0 ≤ p ∧ p < n) : putS n (seedS l) p = seedS (l ++ [p]) := by
  obtain ⟨k, rfl⟩ : ∃ k : Nat, p = k := ⟨p.toNat, by omega⟩
  funext j
  unfold putS seedS
  rw [decide_eq_true hp, Bool.true_and, Int.toNat_natCast, Bool.eq_iff_iff]
  simp [List.mem_append]
  exact or_congr Iff.rfl (by omega)
end SX
namespace SX
end SX
namespace SX

/-- a paint: 0 none, 1 left, 2 right, 3 both, 7 stale (both, and by way of a base) -/
def isV (v : Nat) : Prop := v = 0 ∨ v = 1 ∨ v = 2 ∨ v = 3 ∨ v = 7
theorem isV.or {a b : Nat} (ha : isV a) (hb : isV b) : isV (a ||| b) := by
  rcases ha with rfl | rfl | rfl | rfl | rfl <;> rcases hb with rfl | rfl | rfl | rfl | rfl <;> (unfold isV; decide)
theorem isV.lt {a : Nat} (h : isV a) : a < 8 := by rcases h with rfl | rfl | rfl | rfl | rfl <;> decide
/-- what goes on to the parents -/
def pOut (v : Nat) : Nat := if v = 3 then 7 else v
theorem isV.out {a : Nat} (h : isV a) : isV (pOut a) := by rcases h with rfl | rfl | rfl | rfl | rfl <;> (unfold isV pOut; decide)
theorem pOut_ne {a : Nat} (h : a ≠ 0) : pOut a ≠ 0 := by unfold pOut; split <;> omega
def stepP (g : List (List Int)) (c : Nat) (P : Nat → Nat) : Nat → Nat := fun j => if (j : Int) ∈ rowOf g c then P j ||| pOut (P c) else P j
def pF (g : List (List Int)) : Nat → (Nat → Nat) → (Nat → Nat)
  | 0, P => P
  | c + 1, P => pF g c (stepP g c P)
def seedP (l r : List Int) : Nat → Nat := fun j => (if (j : Int) ∈ l then 1 else 0) ||| (if (j : Int) ∈ r then 2 else 0)
theorem seedP_V (l r : List Int) (j : Nat) : isV (seedP l r j) := by unfold seedP isV; split <;> split <;> decide
theorem stepP_V {g : List (List Int)} {c : Nat} {P : Nat → Nat} (h : ∀ j, isV (P j)) (j : Nat) : isV (stepP g c P j) := by
  unfold stepP
  split
  · exact (h j).or (h c).out
  · exact h j
theorem stepP_zero {g : List (List Int)} {c : Nat} {P : Nat → Nat} (h : P c = 0) : stepP g c P = P := by
  funext j
  unfold stepP
  rw [h]
  split
  · show P j ||| 0 = P j
    exact Nat.or_zero _
  · rfl
theorem stepP_ge {g : List (List Int)} (hg : Good g) {c : Nat} {P : Nat → Nat} {j : Nat} (h : c ≤ j) : stepP g c P j = P j := by
  unfold stepP
  rw [if_neg]
  intro hj
  have := row_good hg hj
  omega
theorem pF_ge {g : List (List Int)} (hg : Good g) : ∀ {m : Nat} {P : Nat → Nat} {j : Nat}, m ≤ j → pF g m P j = P j
  | 0, _, _, _ => rfl
  | m + 1, P, j, h => by
    show pF g m (stepP g m P) j = _
    rw [pF_ge hg (by omega), stepP_ge hg (by omega)]
theorem pF_V {g : List (List Int)} : ∀ {m : Nat} {P : Nat → Nat}, (∀ j, isV (P j)) → ∀ j, isV (pF g m P j)
  | 0, _, h => h
  | m + 1, P, h => by
    show ∀ j, isV (pF g m (stepP g m P) j)
    exact pF_V (stepP_V h)
theorem pF_skip {g : List (List Int)} {P : Nat → Nat} {c : Nat} : ∀ {m : Nat}, c ≤ m → (∀ i, c ≤ i → i < m → P i = 0) → pF g m P = pF g c P
  | 0, h, _ => by obtain rfl : c = 0 := by omega
                  rfl
  | m + 1, h, hz => by
    by_cases e : c = m + 1
    · rw [e]
    · show pF g m (stepP g m P) = _
      rw [stepP_zero (hz m (by omega) (by omega))]
      exact pF_skip (by omega) fun i h1 h2 => hz i h1 (by omega)
theorem pF_pop {g : List (List Int)} {P : Nat → Nat} {m c : Nat} (hc : c < m) (hz : ∀ i, c < i → i < m → P i = 0) : pF g m P = pF g c (stepP g c P) := by
  rw [pF_skip (c := c + 1) (by omega) (fun i h1 h2 => hz i (by omega) h2)]; rfl
/-- where all that is to come is stale it stays so -/
theorem pF_stale {g : List (List Int)} : ∀ {m : Nat} {P : Nat → Nat}, (∀ j, isV (P j)) → (∀ k, k < m → P k = 0 ∨ P k = 7) → ∀ k, k < m → pF g m P k = 0 ∨ pF g m P k = 7
  | 0, _, _, _, k, h => by omega
  | m + 1, P, hV, hP, k, hk => by
    show pF g m (stepP g m P) k = 0 ∨ pF g m (stepP g m P) k = 7
    have h1 : ∀ j, (P j = 0 ∨ P j = 7) → stepP g m P j = 0 ∨ stepP g m P j = 7 := fun j hj => by
      unfold stepP
      split
      · rcases hP m (by omega) with h | h <;> rcases hj with e | e <;> rw [h, e] <;> decide
      · exact hj
    have h2 : ∀ (m' : Nat) (Q : Nat → Nat), (∀ j, j < m' → Q j = 0 ∨ Q j = 7) → ∀ j, (Q j = 0 ∨ Q j = 7) → pF g m' Q j = 0 ∨ pF g m' Q j = 7 := fun m' => by
      induction m' with
      | zero => exact fun Q _ j hj => hj
      | succ m' ih =>
        intro Q hQ j hj
        have h3 : ∀ j, (Q j = 0 ∨ Q j = 7) → stepP g m' Q j = 0 ∨ stepP g m' Q j = 7 := fun j hj => by
          unfold stepP
          split
          · rcases hQ m' (by omega) with h | h <;> rcases hj with e | e <;> rw [h, e] <;> decide
          · exact hj
        exact ih (stepP g m' Q) (fun i hi => h3 i (hQ i (by omega))) j (h3 j hj)
    exact h2 m (stepP g m P) (fun j hj => h1 j (hP j (by omega))) k (h1 k (hP k hk))

/-! the three bits -/
def isL (v : Nat) : Bool := v == 1 || v == 3 || v == 7
def isR (v : Nat) : Bool := v == 2 || v == 3 || v == 7
theorem bit_or {a b : Nat} (ha : isV a) (hb : isV b) : isL (a ||| b) = (isL a || isL b) ∧ isR (a ||| b) = (isR a || isR b) ∧ (a ||| b == 7) = (a == 7 || b == 7) := by
  rcases ha with rfl | rfl | rfl | rfl | rfl <;> rcases hb with rfl | rfl | rfl | rfl | rfl <;> decide
theorem bit_out {a : Nat} (ha : isV a) : isL (pOut a) = isL a ∧ isR (pOut a) = isR a ∧ (pOut a == 7) = (isL a && isR a) := by
  rcases ha with rfl | rfl | rfl | rfl | rfl <;> decide
theorem bit_three {a : Nat} (ha : isV a) : (a = 3) ↔ (isL a && isR a) = true ∧ (a == 7) = false := by
  rcases ha with rfl | rfl | rfl | rfl | rfl <;> decide
theorem pF_L {g : List (List Int)} : ∀ {m : Nat} {P : Nat → Nat}, (∀ j, isV (P j)) → (fun j => isL (pF g m P j)) = upF g m (fun j => isL (P j))
  | 0, _, _ => rfl
  | m + 1, P, h => by
    show (fun j => isL (pF g m (stepP g m P) j)) = upF g m (stepUp g m fun j => isL (P j))
    rw [pF_L (stepP_V h)]
    congr 1
    funext j
    unfold stepP stepUp
    split
    · rename_i hj
      rw [(bit_or (h j) (h m).out).1, (bit_out (h m)).1, decide_eq_true hj, Bool.and_true]
    · rename_i hj
      rw [decide_eq_false hj, Bool.and_false, Bool.or_false]
theorem pF_R {g : List (List Int)} : ∀ {m : Nat} {P : Nat → Nat}, (∀ j, isV (P j)) → (fun j => isR (pF g m P j)) = upF g m (fun j => isR (P j))
  | 0, _, _ => rfl
  | m + 1, P, h => by
    show (fun j => isR (pF g m (stepP g m P) j)) = upF g m (stepUp g m fun j => isR (P j))
    rw [pF_R (stepP_V h)]
    congr 1
    funext j
    unfold stepP stepUp
    split
    · rename_i hj
      rw [(bit_or (h j) (h m).out).2.1, (bit_out (h m)).2.1, decide_eq_true hj, Bool.and_true]
    · rename_i hj
      rw [decide_eq_false hj, Bool.and_false, Bool.or_false]
theorem pF_T {g : List (List Int)} (hg : Good g) : ∀ {m : Nat} {P : Nat → Nat}, (∀ j, isV (P j)) → ∀ j, (pF g m P j == 7) = true ↔ (P j == 7) = true ∨ ∃ c, c < m ∧ (j : Int) ∈ rowOf g c ∧ (isL (pF g m P c) && isR (pF g m P c)) = true
  | 0, _, _, j => ⟨.inl, fun h => h.resolve_right (by rintro ⟨c, h, _⟩; omega)⟩
  | m + 1, P, h, j => by
    show (pF g m (stepP g m P) j == 7) = true ↔ _
    rw [pF_T hg (stepP_V h) j]
    have e0 : ∀ c, pF g (m + 1) P c = pF g m (stepP g m P) c := fun _ => rfl
    have em : pF g m (stepP g m P) m = P m := by rw [pF_ge hg (Nat.le_refl _), stepP_ge hg (Nat.le_refl _)]
    have e1 : (stepP g m P j == 7) = true ↔ (P j == 7) = true ∨ ((j : Int) ∈ rowOf g m ∧ (isL (P m) && isR (P m)) = true) := by
      unfold stepP
      split
      · rename_i hj
        rw [(bit_or (h j) (h m).out).2.2, (bit_out (h m)).2.2, Bool.or_eq_true]
        exact ⟨fun h => h.imp id fun h => ⟨hj, h⟩, fun h => h.imp id fun h => h.2⟩
      · rename_i hj
        exact ⟨.inl, fun h => h.resolve_right fun h => hj h.1⟩
    rw [e1]
    constructor
    · rintro ((h1 | ⟨h1, h2⟩) | ⟨c, hc, h1, h2⟩)
      · exact .inl h1
      · exact .inr ⟨m, by omega, h1, by rw [e0, em]; exact h2⟩
      · exact .inr ⟨c, by omega, h1, by rw [e0]; exact h2⟩
    · rintro (h1 | ⟨c, hc, h1, h2⟩)
      · exact .inl (.inl h1)
      · by_cases e : c = m
        · subst e
          rw [e0, em] at h2
          exact .inl (.inr ⟨h1, h2⟩)
        · exact .inr ⟨c, by omega, h1, by rw [e0] at h2; exact h2⟩
/-- what is reached from both sides -/
def bothS (g : List (List Int)) (l r : List Int) : Nat → Bool := fun j => anyUp g g.length l j && anyUp g g.length r j
theorem seed_L (l r : List Int) : (fun j => isL (seedP l r j)) = seedS l := funext fun j => by
  unfold seedP seedS
  by_cases h1 : (j : Int) ∈ l <;> by_cases h2 : (j : Int) ∈ r <;> simp [h1, h2, isL]
theorem seed_R (l r : List Int) : (fun j => isR (seedP l r j)) = seedS r := funext fun j => by
  unfold seedP seedS
  by_cases h1 : (j : Int) ∈ l <;> by_cases h2 : (j : Int) ∈ r <;> simp [h1, h2, isR]
theorem seed_T (l r : List Int) (j : Nat) : (seedP l r j == 7) = false := by
  unfold seedP
  by_cases h1 : (j : Int) ∈ l <;> by_cases h2 : (j : Int) ∈ r <;> simp [h1, h2]
theorem paint_best {g : List (List Int)} (hg : Good g) (l r : List Int) (j : Nat) : pF g g.length (seedP l r) j = 3 ↔ bestT g (bothS g l r) g.length j = true := by
  have hV := seedP_V l r
  have eb : ∀ c, (isL (pF g g.length (seedP l r) c) && isR (pF g g.length (seedP l r) c)) = bothS g l r c := fun c => by
    have e1 := congrFun (pF_L (g := g) (m := g.length) hV) c
    have e2 := congrFun (pF_R (g := g) (m := g.length) hV) c
    rw [seed_L] at e1
    rw [seed_R] at e2
    unfold bothS anyUp
    rw [← e1, ← e2]
  rw [bit_three (pF_V hV j), eb, best_iff]
  refine and_congr Iff.rfl ?_
  rw [← Bool.not_eq_true, pF_T hg hV, seed_T]
  constructor
  · intro h y hy h1 h2
    exact h (.inr ⟨y, hy, h2, by rw [eb]; exact h1⟩)
  · rintro h (h1 | ⟨c, hc, h1, h2⟩)
    · cases h1
    · rw [eb] at h2
      exact h c hc h2 h1

/-! the walk -/
abbrev PS := (Nat → Nat) × List Nat
def addP (s : PS) (c v : Nat) : PS := (fun j => if j = c then s.1 j ||| v else s.1 j, if s.1 c = 0 then insD c s.2 else s.2)
/-- how many in the queue are not stale -/
def frP (s : PS) : Nat := (s.2.filter fun k => decide (s.1 k < 4)).length
structure PI (n m : Nat) (s : PS) : Prop where
  falls : Falls s.2
  lt : ∀ q ∈ s.2, q < m
  seen : ∀ k, k < m → (s.1 k ≠ 0 ↔ k ∈ s.2)
  val : ∀ k, isV (s.1 k)
  top : ∀ k, n ≤ k → s.1 k = 0
theorem PI.add {n m : Nat} {s : PS} {c v : Nat} (h : PI n m s) (hc : c < m) (hm : m ≤ n) (hv : isV v) (h0 : v ≠ 0) : PI n m (addP s c v) := by
  have hne : s.1 c ||| v ≠ 0 := by
    have := h.val c
    rcases this with e | e | e | e | e <;> rcases hv with rfl | rfl | rfl | rfl | rfl <;> rw [e] <;> first | decide | exact absurd rfl h0
  refine ⟨?_, fun q hq => ?_, fun k hk => ?_, fun k => ?_, fun k hk => ?_⟩
  · show Falls (if s.1 c = 0 then insD c s.2 else s.2)
    split
    · rename_i h1
      exact insD_falls h.falls fun hq => (h.seen c hc).2 hq h1
    · exact h.falls
  · replace hq : q ∈ (if s.1 c = 0 then insD c s.2 else s.2) := hq
    split at hq
    · rcases mem_insD.1 hq with rfl | hq
      · exact hc
      · exact h.lt q hq
    · exact h.lt q hq
  · show (if k = c then s.1 k ||| v else s.1 k) ≠ 0 ↔ k ∈ (if s.1 c = 0 then insD c s.2 else s.2)
    by_cases e : k = c
    · subst e
      rw [if_pos rfl]
      refine ⟨fun _ => ?_, fun _ => hne⟩
      split
      · exact mem_insD.2 (.inl rfl)
      · rename_i h1; exact (h.seen k hk).1 h1
    · rw [if_neg e, h.seen k hk]
      split
      · rw [mem_insD]; exact ⟨.inr, fun h => h.resolve_left e⟩
      · rfl
  · show isV (if k = c then s.1 k ||| v else s.1 k)
    split
    · exact (h.val k).or hv
    · exact h.val k
  · show (if k = c then s.1 k ||| v else s.1 k) = 0
    rw [if_neg (by omega)]; exact h.top k hk
theorem filt_insD (p : Nat → Bool) (c : Nat) : ∀ l : List Nat, ((insD c l).filter p).length = (l.filter p).length + if p c = true then 1 else 0
  | [] => by unfold insD; rw [List.filter_cons]; split <;> simp
  | y :: l => by
    unfold insD
    split
    · rw [List.filter_cons (x := c)]
      split <;> simp
    · rw [List.filter_cons, List.filter_cons]
      have := filt_insD p c l
      split
      · rw [List.length_cons, this, List.length_cons]; omega
      · exact this
theorem filt_change {l : List Nat} (h : Falls l) {c : Nat} {p q : Nat → Bool} (hpq : ∀ k, k ≠ c → p k = q k) (hc : c ∈ l) (hp : p c = false) (hq : q c = true) : (l.filter q).length = (l.filter p).length + 1 := by
  induction l with
  | nil => cases hc
  | cons y l ih =>
    obtain ⟨h1, h2⟩ := List.pairwise_cons.1 h
    rw [List.filter_cons, List.filter_cons]
    by_cases e : y = c
    · subst e
      rw [if_pos hq, if_neg (by rw [hp]; exact Bool.false_ne_true), List.length_cons, List.filter_congr fun k hk => (hpq k (fun e => by have := h1 k hk; omega)).symm]
    · rw [hpq y e]
      have hc' : c ∈ l := (List.mem_cons.1 hc).resolve_left (fun h => e h.symm)
      have := ih h2 hc'
      split
      · rw [List.length_cons, List.length_cons, this]
      · exact this
theorem filt_same {l : List Nat} {c : Nat} {p q : Nat → Bool} (hpq : ∀ k, k ≠ c → p k = q k) (h : p c = q c) : (l.filter p).length = (l.filter q).length := by
  refine congrArg List.length (List.filter_congr fun k _ => ?_)
  by_cases e : k = c
  · rw [e]; exact h
  · exact hpq k e
/-- was it there and not stale; is it now -/
def pWas (s : PS) (c : Nat) : Bool := decide (s.1 c ≠ 0) && decide (s.1 c < 4)
def pIs (s : PS) (c v : Nat) : Bool := decide (s.1 c ||| v < 4)
theorem frP_add {n m : Nat} {s : PS} {c v : Nat} (h : PI n m s) (hc : c < m) (_hv : isV v) :
    (pIs s c v = true → pWas s c = false → frP (addP s c v) = frP s + 1) ∧ (pIs s c v = false → pWas s c = true → frP s = frP (addP s c v) + 1) ∧ (pIs s c v = pWas s c → frP (addP s c v) = frP s) := by
  have hP : ∀ k, k ≠ c → decide (s.1 k < 4) = decide ((addP s c v).1 k < 4) := fun k hk => by
    show _ = decide ((if k = c then s.1 k ||| v else s.1 k) < 4)
    rw [if_neg hk]
  have hPc : (addP s c v).1 c = s.1 c ||| v := if_pos rfl
  have hpc : decide ((addP s c v).1 c < 4) = pIs s c v := by rw [hPc]; rfl
  by_cases h0 : s.1 c = 0
  · have hq : (addP s c v).2 = insD c s.2 := if_pos h0
    have hw : pWas s c = false := by unfold pWas; rw [h0]; rfl
    have hcq : c ∉ s.2 := fun hm => (h.seen c hc).2 hm h0
    have e1 : frP (addP s c v) = frP s + if pIs s c v = true then 1 else 0 := by
      unfold frP
      rw [hq, filt_insD, hpc]
      congr 1
      rw [List.filter_congr fun k hk => (hP k (fun e => hcq (e ▸ hk))).symm]
    rw [hw]
    refine ⟨fun h1 _ => (by rw [e1, if_pos h1]), fun _ h2 => (by cases h2), fun h1 => (by rw [e1, if_neg (by rw [h1]; exact Bool.false_ne_true)]; rfl)⟩
  · have hq : (addP s c v).2 = s.2 := if_neg h0
    have hcq : c ∈ s.2 := (h.seen c hc).1 h0
    have hw : pWas s c = decide (s.1 c < 4) := by unfold pWas; rw [decide_eq_true h0, Bool.true_and]
    have h7 : pIs s c v = true → pWas s c = true := fun h1 => by
      rw [hw]
      unfold pIs at h1
      have h1 := of_decide_eq_true h1
      have hle : s.1 c ≤ s.1 c ||| v := Nat.left_le_or
      exact decide_eq_true (by omega)
    refine ⟨fun h1 h2 => (by rw [h7 h1] at h2; cases h2), fun h1 h2 => ?_, fun h1 => ?_⟩
    · unfold frP
      rw [hq]
      exact filt_change h.falls (p := fun k => decide ((addP s c v).1 k < 4)) (q := fun k => decide (s.1 k < 4)) (fun k hk => (hP k hk).symm) hcq (by rw [hpc]; exact h1) (by rw [← hw]; exact h2)
    · unfold frP
      rw [hq]
      exact filt_same (c := c) (fun k hk => (hP k hk).symm) (by rw [hpc, h1, hw])
def addRow (v : Nat) (s : PS) (l : List Int) : PS := l.foldl (fun s p => addP s p.toNat v) s
theorem addRow_succ {v : Nat} {s : PS} {l : List Int} {i : Nat} {c : Int} (h : l[i]? = some c) : addRow v s (l.take (i + 1)) = addP (addRow v s (l.take i)) c.toNat v := by
  unfold addRow
  rw [List.take_add_one, h, List.foldl_append]; rfl
theorem PI.addRow {n m v : Nat} (hm : m ≤ n) (hv : isV v) (h0 : v ≠ 0) : ∀ {l : List Int} {s : PS}, PI n m s → (∀ p ∈ l, 0 ≤ p ∧ p < m) → PI n m (addRow v s l) ∧ ∀ j, (SX.addRow v s l).1 j = if (j : Int) ∈ l then s.1 j ||| v else s.1 j
  | [], s, h, _ => ⟨h, fun j => by simp [SX.addRow]⟩
  | c :: l, s, h, hl => by
    have hc := hl c (List.mem_cons_self ..)
    obtain ⟨k, rfl⟩ : ∃ k : Nat, c = k := ⟨c.toNat, by omega⟩
    have h1 := h.add (c := k) (v := v) (by omega) hm hv h0
    obtain ⟨k1, k2⟩ := PI.addRow hm hv h0 h1 (fun p hp => hl p (List.mem_cons_of_mem _ hp))
    have e : SX.addRow v s ((k : Int) :: l) = SX.addRow v (addP s k v) l := rfl
    rw [e]
    refine ⟨k1, fun j => ?_⟩
    rw [k2]
    show (if (j : Int) ∈ l then (if j = k then s.1 j ||| v else s.1 j) ||| v else if j = k then s.1 j ||| v else s.1 j) = _
    by_cases e1 : j = k
    · subst e1
      rw [if_pos rfl, if_pos (List.mem_cons_self ..), Nat.or_assoc, Nat.or_self, ite_self]
    · rw [if_neg e1]
      have : ((j : Int) ∈ (k : Int) :: l) ↔ (j : Int) ∈ l := by rw [List.mem_cons]; exact ⟨fun h => h.resolve_left (by omega), .inr⟩
      simp only [this]
theorem PI.start (n : Nat) : PI n n (fun _ => 0, []) := ⟨.nil, fun _ h => (by cases h), fun k _ => ⟨fun h => absurd rfl h, fun h => (by cases h)⟩, fun _ => .inl rfl, fun _ _ => rfl⟩
theorem PI.pop {n m c : Nat} {P : Nat → Nat} {Q : List Nat} (h : PI n m (P, c :: Q)) : PI n c (P, Q) := by
  obtain ⟨h1, h2⟩ := List.pairwise_cons.1 h.falls
  refine ⟨h2, fun q hq => h1 q hq, fun k hk => ?_, h.val, h.top⟩
  have hc := h.lt c (List.mem_cons_self ..)
  refine (h.seen k (by omega)).trans ?_
  show k ∈ c :: Q ↔ k ∈ Q
  rw [List.mem_cons]
  exact ⟨fun h => h.resolve_left (by omega), .inr⟩
/-- the walk as a whole: at the head of a round -/
structure PW (g : List (List Int)) (l r : List Int) (m : Nat) (s : PS) (F : Nat → Bool) : Prop where
  pi : PI g.length m s
  le : m ≤ g.length
  fin : pF g g.length (seedP l r) = pF g m s.1
  found : ∀ k, F k = (decide (m ≤ k) && decide (s.1 k = 3))
/-- a round: c comes out -/
theorem PW.step {g : List (List Int)} (hg : Good g) {l r : List Int} {m c : Nat} {P : Nat → Nat} {Q : List Nat} {F : Nat → Bool} (h : PW g l r m (P, c :: Q) F) :
    PI g.length c (P, Q) ∧ P c ≠ 0 ∧ c < m ∧ PW g l r c (addRow (pOut (P c)) (P, Q) (rowOf g c)) (fun k => F k || (decide (P c = 3) && decide (k = c))) := by
  have hcm : c < m := h.pi.lt c (List.mem_cons_self ..)
  have hPc : P c ≠ 0 := (h.pi.seen c hcm).2 (List.mem_cons_self ..)
  have h1 := h.pi.pop
  have hrow : ∀ p ∈ rowOf g c, 0 ≤ p ∧ p < c := fun p hp => ⟨(row_good hg hp).1, (row_good hg hp).2.1⟩
  have hle := h.le
  obtain ⟨k1, k2⟩ := PI.addRow (v := pOut (P c)) (by omega) (h.pi.val c).out (pOut_ne hPc) h1 hrow
  have hfun : (addRow (pOut (P c)) (P, Q) (rowOf g c)).1 = stepP g c P := funext fun j => k2 j
  have hz : ∀ i, c < i → i < m → P i = 0 := fun i h2 h3 => by
    by_cases e : P i = 0
    · exact e
    · have := (h.pi.seen i h3).1 e
      rcases List.mem_cons.1 this with rfl | hi
      · omega
      · have := (List.pairwise_cons.1 h.pi.falls).1 i hi; omega
  refine ⟨h1, hPc, hcm, k1, by omega, ?_, fun k => ?_⟩
  · rw [hfun, h.fin]; exact pF_pop hcm hz
  · rw [hfun, h.found]
    show (decide (m ≤ k) && decide (P k = 3) || (decide (P c = 3) && decide (k = c))) = (decide (c ≤ k) && decide (stepP g c P k = 3))
    by_cases e : c ≤ k
    · rw [stepP_ge hg e, decide_eq_true e, Bool.true_and]
      by_cases e1 : k = c
      · subst e1
        rw [decide_eq_false (show ¬ m ≤ k by omega), Bool.false_and, Bool.false_or, decide_eq_true (rfl : k = k), Bool.and_true]
      · rw [decide_eq_false e1, Bool.and_false, Bool.or_false]
        by_cases e2 : m ≤ k
        · rw [decide_eq_true e2, Bool.true_and]
        · rw [hz k (by omega) (by omega)]; simp
    · rw [decide_eq_false e, decide_eq_false (show ¬ m ≤ k by omega), decide_eq_false (show ¬ k = c by omega)]; simp
/-- it ends where none is fresh -/
theorem PW.done {g : List (List Int)} (hg : Good g) {l r : List Int} {m : Nat} {s : PS} {F : Nat → Bool} (h : PW g l r m s F) (h0 : frP s = 0) : ∀ k, F k = bestT g (bothS g l r) g.length k := by
  intro k
  have hall : ∀ q ∈ s.2, ¬ s.1 q < 4 := fun q hq hlt => by
    have : s.2.filter (fun k => decide (s.1 k < 4)) = [] := List.eq_nil_of_length_eq_zero h0
    have hm : q ∈ s.2.filter fun k => decide (s.1 k < 4) := List.mem_filter.2 ⟨hq, decide_eq_true hlt⟩
    rw [this] at hm; cases hm
  have hst : ∀ k, k < m → s.1 k = 0 ∨ s.1 k = 7 := fun k hk => by
    by_cases e : s.1 k = 0
    · exact .inl e
    · have h1 := hall k ((h.pi.seen k hk).1 e)
      rcases h.pi.val k with h2 | h2 | h2 | h2 | h2
      · exact .inl h2
      · omega
      · omega
      · omega
      · exact .inr h2
  rw [Bool.eq_iff_iff, ← paint_best hg, h.fin, h.found]
  by_cases e : m ≤ k
  · rw [decide_eq_true e, Bool.true_and, pF_ge hg e, decide_eq_true_eq]
  · rw [decide_eq_false e, Bool.false_and]
    have := pF_stale (g := g) h.pi.val hst k (by omega)
    constructor
    · intro h; cases h
    · intro h2; rcases this with h1 | h1 <;> rw [h1] at h2 <;> cases h2
/-- as long as one is fresh the queue isn't empty -/
theorem frP_pos {s : PS} (h : 0 < frP s) : ∃ c Q, s.2 = c :: Q := by
  cases hs : s.2 with
  | nil => unfold frP at h; rw [hs] at h; simp at h
  | cons c Q => exact ⟨c, Q, rfl⟩
theorem frP_pop {P : Nat → Nat} {c : Nat} {Q : List Nat} : frP (P, c :: Q) = frP (P, Q) + if P c < 4 then 1 else 0 := by
  unfold frP
  show (List.filter _ (c :: Q)).length = _
  rw [List.filter_cons]
  by_cases h : P c < 4
  · rw [if_pos (decide_eq_true h), if_pos h]; rfl
  · rw [if_neg (by rw [decide_eq_false h]; exact Bool.false_ne_true), if_neg h]; rfl
theorem frP_le {n m : Nat} {s : PS} (h : PI n m s) : frP s ≤ m := by
  have h1 := falls_len h.falls h.lt
  have h2 : frP s ≤ s.2.length := List.length_filter_le ..
  omega
/-- the two lists are laid in -/
theorem seed_add {n : Nat} {l r : List Int} (hl : ∀ p ∈ l, 0 ≤ p ∧ p < n) (hr : ∀ p ∈ r, 0 ≤ p ∧ p < n) : (addRow 2 (addRow 1 (fun _ => 0, []) l) r).1 = seedP l r ∧ PI n n (addRow 2 (addRow 1 (fun _ => 0, []) l) r) := by
  obtain ⟨h1, h2⟩ := PI.addRow (v := 1) (Nat.le_refl n) (by unfold isV; decide) (by decide) (PI.start n) hl
  obtain ⟨h3, h4⟩ := PI.addRow (v := 2) (Nat.le_refl n) (by unfold isV; decide) (by decide) h1 hr
  refine ⟨funext fun j => ?_, h3⟩
  rw [h4, h2]
  unfold seedP
  by_cases e1 : (j : Int) ∈ l <;> by_cases e2 : (j : Int) ∈ r <;> simp [e1, e2]
theorem PW.start {g : List (List Int)} {l r : List Int} (hl : ∀ p ∈ l, 0 ≤ p ∧ p < g.length) (hr : ∀ p ∈ r, 0 ≤ p ∧ p < g.length) : PW g l r g.length (addRow 2 (addRow 1 (fun _ => 0, []) l) r) (fun _ => false) := by
  obtain ⟨h1, h2⟩ := seed_add hl hr
  refine ⟨h2, Nat.le_refl _, by rw [h1], fun k => ?_⟩
  by_cases e : g.length ≤ k
  · rw [h2.top k e]; simp
  · rw [decide_eq_false e]; rfl
end SX
namespace SX
open Go

section
variable {P : Program} {env : Env} {L : List Assn}
end
end SX
namespace SX
open Go

def viaB (P : Program) (t : TypeId) (name : String) (ft off : Nat) (fn : Option (FuncId × Bool)) : Bool :=
  match P.info? t with
  | some inf => match inf.methods.find? (·.name == name) with
    | some m => decide (m.func = fn) && match m.path.toList with
      | [st] => st.deref && match P.underlying st.struct with
        | some (.struct fs) => match fs[st.index]? with
          | some f => f.type == ft && (f.offset == off && ((P.info? f.type).map (·.size != 0)).getD false)
          | none => false
        | _ => false
      | _ => false
    | none => false
  | none => false
/-- the method is promoted from the field at off, of type ft -/
class TVia (P : Program) (t : TypeId) (name : String) (ft off : outParam Nat) (fn : outParam (Option (FuncId × Bool))) : Prop where
  okB : viaB P t name ft off fn = true
theorem TVia.ok {P : Program} {t : TypeId} {name : String} {ft off : Nat} {fn : Option (FuncId × Bool)} (h : TVia P t name ft off fn) : ∃ inf m st fs f j, P.info? t = some inf ∧ inf.methods.find? (·.name == name) = some m ∧ m.func = fn ∧ m.path.toList = [st] ∧ st.deref = true ∧ P.underlying st.struct = some (.struct fs) ∧ fs[st.index]? = some f ∧ f.type = ft ∧ f.offset = off ∧ P.info? f.type = some j ∧ j.size ≠ 0 := by
  have h := h.okB
  unfold viaB at h
  split at h
  · rename_i inf hi
    split at h
    · rename_i m hm
      simp only [Bool.and_eq_true, decide_eq_true_eq] at h
      obtain ⟨h1, h⟩ := h
      split at h
      · rename_i st hp
        simp only [Bool.and_eq_true] at h
        obtain ⟨h2, h⟩ := h
        split at h
        · rename_i fs hu
          split at h
          · rename_i f hf
            simp only [Bool.and_eq_true, beq_iff_eq] at h
            obtain ⟨h3, h4, h5⟩ := h
            cases hj : P.info? f.type with
            | none => simp [hj] at h5
            | some j => simp [hj] at h5; exact ⟨inf, m, st, fs, f, j, hi, hm, h1, hp, h2, hu, hf, h3, h4, hj, h5⟩
          · cases h
        · cases h
      · cases h
    · cases h
  · cases h
section
variable {P : Program}
theorem run_follow1 {t : TypeId} {name : String} {ft off : Nat} {fn : Option (FuncId × Bool)} [h : TVia P t name ft off fn] (b : Nat) (w : World) :
    ∃ inf m, P.info? t = some inf ∧ inf.methods.find? (·.name == name) = some m ∧ m.func = fn ∧ m.path.isEmpty = false ∧ (follow m.path.toList t (.val (.pointer (some ⟨b, 0, none⟩)))).run P w = .ok (ft, .var ⟨b, off, none⟩) w := by
  obtain ⟨inf, m, st, fs, f, j, h1, h2, h3, h4, h5, h6, h7, h8, h9, h10, h11⟩ := h.ok
  refine ⟨inf, m, h1, h2, h3, ?_, ?_⟩
  · cases hm : m.path.isEmpty with
    | false => rfl
    | true =>
      have : m.path = #[] := by simpa using hm
      rw [this] at h4; simp at h4
  · rw [h4]
    rw [h8] at h10
    simp [follow, run_underlying h6, h7, h5, Place.get, asAddr, fieldPlace, Go.sizeOf, typeInfo, h10, h11, addr_add, h8, h9]
/-- an interface in the field -/
theorem run_method_via {t : TypeId} {name : String} {ft off : Nat} [h : TVia P t name ft off none] {b : Nat} {w : World} {t' : TypeId} {v' : Value} (hl : (loadVar ft ⟨b, off, none⟩).run P w = .ok (.iface t' v') w) (k : Nat) :
    (method (k + 1) t (.pointer (some ⟨b, 0, none⟩)) name).run P w = (method k t' v' name).run P w := by
  obtain ⟨inf, m, h1, h2, h3, _, h5⟩ := run_follow1 (P := P) (t := t) (name := name) b w
  conv => lhs; unfold method
  simp [typeInfo, h1, h2, h5, h3, Place.get, hl]
/-- a call that goes by the embedded interface -/
theorem InvS.via {t : TypeId} {name : String} {ft off : Nat} [h : TVia P t name ft off none] {b d : Nat} {t' : TypeId} {v' : Value} {args : List Value} {pre R : List Assn} {post : Value → List Assn → Prop} (hl : Ld P (pre ++ R) ft ⟨b, off, none⟩ (.iface t' v')) (hi : InvS P d t' v' name args pre post) :
    InvS P (d + 1) t (.pointer (some ⟨b, 0, none⟩)) name args (pre ++ R) (fun v L => ∃ L', post v L' ∧ L = L' ++ R) := fun E w hw => by
  obtain ⟨f, rv, h1, h2, h3⟩ := hi _ w hw.hide
  refine ⟨f, rv, fun k hk => ?_, h2, h3.mono fun e w' ⟨u, L', he, hp, h'⟩ => ⟨u, L' ++ R, he, ⟨L', hp, rfl⟩, h'.show_⟩⟩
  obtain ⟨k, rfl⟩ : ∃ j, k = j + 1 := ⟨k - 1, by omega⟩
  rw [run_method_via (hl E w hw)]
  exact h1 k (by omega)
theorem InvS.exA {α : Type} {F : α → List Assn} {d : Nat} {t : TypeId} {v : Value} {name : String} {args : List Value} {R : List Assn} {post : Value → List Assn → Prop} (h : ∀ x, InvS P d t v name args (F x ++ R) post) : InvS P d t v name args (exA F :: R) post := fun E w hw => by
  obtain ⟨k1, k2, k3, k4, k5⟩ := hw
  have k6 : Sat (SX.exA F :: (E.X ++ R)) (fun b => w.heap[b]?) := Sat.perm (perm_out (.refl _)) _ k5
  obtain ⟨x, hx⟩ := exA_open k6
  refine h x E w ⟨k1, k2, k3, k4, Sat.perm ?_ _ hx⟩
  rw [← List.append_assoc, ← List.append_assoc]
  exact List.Perm.append_right _ List.perm_append_comm
theorem H.ex {α : Type} {F : α → List Assn} {L : List Assn} {E : Ctx} {w : World} (hh : H E w (exA F :: L)) : ∃ x, H E w (F x ++ L) := by
  obtain ⟨k1, k2, k3, k4, k5⟩ := hh
  have k6 : Sat (exA F :: (E.X ++ L)) (fun b => w.heap[b]?) := Sat.perm (perm_out (.refl _)) _ k5
  obtain ⟨x, hx⟩ := exA_open k6
  exact ⟨x, k1, k2, k3, k4, Sat.perm (by rw [← List.append_assoc, ← List.append_assoc]; exact List.Perm.append_right _ List.perm_append_comm) _ hx⟩
/-- what is hidden in what a call leaves is shown -/
theorem Spec.postEx {f : FuncId} {args : List Value} {pre : List Assn} {post post' : Value → List Assn → Prop} (h : Spec P f args pre post)
    (hh : ∀ v L, post v L → ∃ (α : Type) (F : α → List Assn) (R : List Assn), Ent L (exA F :: R) ∧ ∀ x, post' v (F x ++ R)) : Spec P f args pre post' := fun E w hw =>
  (h E w hw).mono fun e w' ⟨v, L', he, hp, hk⟩ => by
    obtain ⟨α, F, R, h1, h2⟩ := hh v L' hp
    obtain ⟨x, hx⟩ := (hk.ent h1).ex
    exact ⟨v, F x ++ R, he, h2 x, hx⟩
theorem rd_mlook2E {κ : Type} [DecidableEq κ] {env : Env} {L : List Assn} {t kt et b c : Nat} {kv : κ → Value} {l : Ents κ} {z : Value} [hm : TMap P t kt et] [hk : TKey P kt kv] [hz : TZv P et z] {m x : Operand} [hb : InM b L kv l c] (a : κ) {o : Option Value} (h : mlook l a = o) (hx : evalE env m = some (.map (some b))) (hy : evalE env x = some (kv a)) : Rd P env L (.lookup t m x true) (.tuple #[o.getD z, .bool o.isSome]) := by
  subst h; exact rd_mlook2 a hx hy
end
end SX
namespace SX
open Go
theorem d_share {P : Program} {rn : Option Nat} {ops : Array Oper} {Q : Post} {N : Nat} {rds : List Nat} {fuel : Nat} {listed : Array Bool} {env : Env} {Lr L L0 : List Assn} {μ : PH} {b t : Nat} {cs : List Value} (hL : Split L0 [blk b t cs, ro μ] L)
    (h : ∀ μ', Le μ μ' → μ' b = some (.cells cs.toArray t (0, 0)) → swd P rn ops Q N rds fuel listed false env Lr (ro μ' :: L)) : swd P rn ops Q N rds fuel listed false env Lr L0 := fun E D a w hD hf hh hc => by
  have hh' : H (E.add D) w L0 := hh
  obtain ⟨μ', h1, h2, h3⟩ := (hh'.ent hL.ent).share
  exact h μ' h1 h2 E D a w hD hf h3 hc
end SX
namespace SX
open Go Go.ChangeShapes
section
variable {H : Type} {enc : TypeId × Value → H}
end
section
variable {H : Type} {P : Program}
theorem weights_at : ∀ {ts : List TypeId} {ds : List (DataW H)} {i : Nat} {t : TypeId} {d : DataW H}, ts[i]? = some t → ds[i]? = some d → (DataW.weightsEach P ts ds).all (· ≤ reachBytes) = true → (d.weights P t).all (· ≤ reachBytes) = true
  | t0 :: ts, d0 :: ds, 0, t, d, ht, hd, h => by
    obtain rfl := Option.some.inj ht
    obtain rfl := Option.some.inj hd
    rw [DataW.weightsEach, List.all_append, Bool.and_eq_true] at h
    exact h.1
  | t0 :: ts, d0 :: ds, i + 1, t, d, ht, hd, h => by
    rw [DataW.weightsEach, List.all_append, Bool.and_eq_true] at h
    exact weights_at (i := i) (by simpa using ht) (by simpa using hd) h.2
theorem weights_in {e : TypeId} : ∀ {ds : List (DataW H)} {d : DataW H}, d ∈ ds → (DataW.weightsAll P e ds).all (· ≤ reachBytes) = true → (d.weights P e).all (· ≤ reachBytes) = true
  | x :: ds, d, hd, h => by
    rw [DataW.weightsAll, List.all_append, Bool.and_eq_true] at h
    rcases List.mem_cons.1 hd with rfl | hd
    · exact h.1
    · exact weights_in hd h.2
/-- a slice: its length, and what is in it -/
theorem slice_sized {t e : TypeId} (ht : P.underlying t = some (.slice e)) (hb : 8 ≤ P.bytesOf e) {Ds sp : List (DataW H)} (h : ((DataW.slice Ds sp : DataW H).weights P t).all (· ≤ reachBytes) = true) : Ds.length ≤ 17592186043904 ∧ (DataW.weightsAll P e Ds).all (· ≤ reachBytes) = true := by
  rw [DataW.weights, ht] at h
  dsimp only at h
  rw [List.all_cons, List.all_append, Bool.and_eq_true, Bool.and_eq_true] at h
  have h1 : (Ds.length + sp.length) * P.bytesOf e ≤ reachBytes := of_decide_eq_true h.1
  have h2 : (Ds.length + sp.length) * 8 ≤ (Ds.length + sp.length) * P.bytesOf e := Nat.mul_le_mul_left _ hb
  have h3 : reachBytes = 140737488351232 := rfl
  exact ⟨by omega, h.2.1⟩
theorem ints_sized {t e : TypeId} (ht : P.underlying t = some (.slice e)) (hb : 8 ≤ P.bytesOf e) {xs : List Int} {d : DataW H} (h : (d.weights P t).all (· ≤ reachBytes) = true)
    (hd : (d = .nil ∧ xs = []) ∨ ∃ (Ds sp : List (DataW H)), d = .slice Ds sp ∧ Ds.length = xs.length) : xs.length ≤ 17592186043904 := by
  rcases hd with ⟨_, rfl⟩ | ⟨Ds, sp, rfl, hl⟩
  · exact Nat.zero_le _
  · rw [← hl]; exact (slice_sized ht hb h).1
theorem graph_sized {t q e : TypeId} (ht : P.underlying t = some (.slice q)) (hb : 8 ≤ P.bytesOf q) (hq : P.underlying q = some (.slice e)) (he : 8 ≤ P.bytesOf e) {xs : List (Value × List Int)} {d : DataW H} (h : (d.weights P t).all (· ≤ reachBytes) = true)
    (hd : (d = .nil ∧ xs = []) ∨ ∃ (Ds sp : List (DataW H)), d = .slice Ds sp ∧ Ds.length = xs.length ∧ ∀ (i : Nat) (a : Value × List Int) (D : DataW H), xs[i]? = some a → Ds[i]? = some D → (D = .nil ∧ a.2 = []) ∨ ∃ (Ds sp : List (DataW H)), D = .slice Ds sp ∧ Ds.length = a.2.length) :
    xs.length ≤ 17592186043904 ∧ ∀ x ∈ xs, x.2.length ≤ 17592186043904 := by
  rcases hd with ⟨_, rfl⟩ | ⟨Ds, sp, rfl, hl, hr⟩
  · exact ⟨Nat.zero_le _, fun x hx => by cases hx⟩
  · obtain ⟨h1, h2⟩ := slice_sized ht hb h
    refine ⟨by rw [← hl]; exact h1, fun x hx => ?_⟩
    obtain ⟨i, hi⟩ := List.getElem?_of_mem hx
    obtain ⟨D, hD⟩ : ∃ D, Ds[i]? = some D := ⟨_, List.getElem?_eq_getElem (by rw [hl]; exact (List.getElem?_eq_some_iff.1 hi).1)⟩
    exact ints_sized hq he (weights_in (List.mem_of_getElem? hD) h2) (hr i x D hi hD)
end
end SX
namespace SX
open Go Go.Proofs
instance : Body Tryd.prog 2 := ⟨_, Tryd.func2, rfl, by decide⟩
instance : Body Tryd.prog 3 := ⟨_, Tryd.func3, rfl, by decide⟩
instance : Body Tryd.prog 4 := ⟨_, Tryd.func4, rfl, by decide⟩
instance : Body Tryd.prog 5 := ⟨_, Tryd.func5, rfl, by decide⟩
instance : Body Tryd.prog 6 := ⟨_, Tryd.func6, rfl, by decide⟩
instance : Body Tryd.prog 7 := ⟨_, Tryd.func7, rfl, by decide⟩
instance : Body Tryd.prog 8 := ⟨_, Tryd.func8, rfl, by decide⟩
instance : Body Tryd.prog 9 := ⟨_, Tryd.func9, rfl, by decide⟩
instance : Body Tryd.prog 10 := ⟨_, Tryd.func10, rfl, by decide⟩
instance : Body Tryd.prog 11 := ⟨_, Tryd.func11, rfl, by decide⟩
instance : Body Tryd.prog 12 := ⟨_, Tryd.func12, rfl, by decide⟩
instance : Body Tryd.prog 13 := ⟨_, Tryd.func13, rfl, by decide⟩
instance : Body Tryd.prog 14 := ⟨_, Tryd.func14, rfl, by decide⟩
instance : Body Tryd.prog 15 := ⟨_, Tryd.func15, rfl, by decide⟩
instance : Body Tryd.prog 16 := ⟨_, Tryd.func16, rfl, by decide⟩
instance : Body Tryd.prog 17 := ⟨_, Tryd.func17, rfl, by decide⟩
instance : Body Tryd.prog 18 := ⟨_, Tryd.func18, rfl, by decide⟩
instance : Body Tryd.prog 19 := ⟨_, Tryd.func19, rfl, by decide⟩
instance : Body Tryd.prog 20 := ⟨_, Tryd.func20, rfl, by decide⟩
instance : Body Tryd.prog 21 := ⟨_, Tryd.func21, rfl, by decide⟩
instance : Body Tryd.prog 22 := ⟨_, Tryd.func22, rfl, by decide⟩
instance : Body Tryd.prog 23 := ⟨_, Tryd.func23, rfl, by decide⟩
instance : Body Tryd.prog 24 := ⟨_, Tryd.func24, rfl, by decide⟩
instance : Body Tryd.prog 25 := ⟨_, Tryd.func25, rfl, by decide⟩
instance : Body Tryd.prog 26 := ⟨_, Tryd.func26, rfl, by decide⟩
instance : Body Tryd.prog 27 := ⟨_, Tryd.func27, rfl, by decide⟩
instance : Body Tryd.prog 28 := ⟨_, Tryd.func28, rfl, by decide⟩
instance : Body Tryd.prog 29 := ⟨_, Tryd.func29, rfl, by decide⟩
instance : Body Tryd.prog 30 := ⟨_, Tryd.func30, rfl, by decide⟩
instance : Body Tryd.prog 31 := ⟨_, Tryd.func31, rfl, by decide⟩
instance : Body Tryd.prog 32 := ⟨_, Tryd.func32, rfl, by decide⟩
instance : Body Tryd.prog 33 := ⟨_, Tryd.func33, rfl, by decide⟩
instance : Body Tryd.prog 34 := ⟨_, Tryd.func34, rfl, by decide⟩
instance : Body Tryd.prog 35 := ⟨_, Tryd.func35, rfl, by decide⟩
instance : Body Tryd.prog 36 := ⟨_, Tryd.func36, rfl, by decide⟩
instance : Body Tryd.prog 37 := ⟨_, Tryd.func37, rfl, by decide⟩
instance : Body Tryd.prog 38 := ⟨_, Tryd.func38, rfl, by decide⟩
instance : Body Tryd.prog 39 := ⟨_, Tryd.func39, rfl, by decide⟩
instance : Body Tryd.prog 40 := ⟨_, Tryd.func40, rfl, by decide⟩
instance : Body Tryd.prog 41 := ⟨_, Tryd.func41, rfl, by decide⟩
instance : Body Tryd.prog 42 := ⟨_, Tryd.func42, rfl, by decide⟩
instance : Body Tryd.prog 43 := ⟨_, Tryd.func43, rfl, by decide⟩
instance : Body Tryd.prog 44 := ⟨_, Tryd.func44, rfl, by decide⟩
instance : Body Tryd.prog 45 := ⟨_, Tryd.func45, rfl, by decide⟩
instance : Body Tryd.prog 46 := ⟨_, Tryd.func46, rfl, by decide⟩
instance : Body Tryd.prog 47 := ⟨_, Tryd.func47, rfl, by decide⟩
instance : Body Tryd.prog 48 := ⟨_, Tryd.func48, rfl, by decide⟩
instance : Body Tryd.prog 49 := ⟨_, Tryd.func49, rfl, by decide⟩
instance : Body Tryd.prog 50 := ⟨_, Tryd.func50, rfl, by decide⟩
instance : Body Tryd.prog 51 := ⟨_, Tryd.func51, rfl, by decide⟩
instance : Body Tryd.prog 52 := ⟨_, Tryd.func52, rfl, by decide⟩
instance : Body Tryd.prog 53 := ⟨_, Tryd.func53, rfl, by decide⟩
instance : Body Tryd.prog 54 := ⟨_, Tryd.func54, rfl, by decide⟩
instance : Body Tryd.prog 55 := ⟨_, Tryd.func55, rfl, by decide⟩
instance : Body Tryd.prog 56 := ⟨_, Tryd.func56, rfl, by decide⟩
instance : Body Tryd.prog 57 := ⟨_, Tryd.func57, rfl, by decide⟩
instance : Body Tryd.prog 58 := ⟨_, Tryd.func58, rfl, by decide⟩
instance : Body Tryd.prog 59 := ⟨_, Tryd.func59, rfl, by decide⟩
instance : Body Tryd.prog 60 := ⟨_, Tryd.func60, rfl, by decide⟩
instance : Body Tryd.prog 61 := ⟨_, Tryd.func61, rfl, by decide⟩
instance : Body Tryd.prog 62 := ⟨_, Tryd.func62, rfl, by decide⟩
instance : Body Tryd.prog 63 := ⟨_, Tryd.func63, rfl, by decide⟩
instance : Body Tryd.prog 64 := ⟨_, Tryd.func64, rfl, by decide⟩
instance : Body Tryd.prog 65 := ⟨_, Tryd.func65, rfl, by decide⟩
instance : Body Tryd.prog 66 := ⟨_, Tryd.func66, rfl, by decide⟩
instance : Body Tryd.prog 67 := ⟨_, Tryd.func67, rfl, by decide⟩
instance : Body Tryd.prog 68 := ⟨_, Tryd.func68, rfl, by decide⟩
instance : Body Tryd.prog 69 := ⟨_, Tryd.func69, rfl, by decide⟩
instance : Body Tryd.prog 70 := ⟨_, Tryd.func70, rfl, by decide⟩
instance : Body Tryd.prog 71 := ⟨_, Tryd.func71, rfl, by decide⟩
instance : Body Tryd.prog 72 := ⟨_, Tryd.func72, rfl, by decide⟩
instance : Body Tryd.prog 73 := ⟨_, Tryd.func73, rfl, by decide⟩
instance : Body Tryd.prog 74 := ⟨_, Tryd.func74, rfl, by decide⟩
instance : Body Tryd.prog 75 := ⟨_, Tryd.func75, rfl, by decide⟩
instance : Body Tryd.prog 76 := ⟨_, Tryd.func76, rfl, by decide⟩
instance : Body Tryd.prog 77 := ⟨_, Tryd.func77, rfl, by decide⟩
instance : Body Tryd.prog 78 := ⟨_, Tryd.func78, rfl, by decide⟩
instance : Body Tryd.prog 79 := ⟨_, Tryd.func79, rfl, by decide⟩
instance : Body Tryd.prog 80 := ⟨_, Tryd.func80, rfl, by decide⟩
instance : Body Tryd.prog 81 := ⟨_, Tryd.func81, rfl, by decide⟩
instance : Body Tryd.prog 82 := ⟨_, Tryd.func82, rfl, by decide⟩
instance : Body Tryd.prog 83 := ⟨_, Tryd.func83, rfl, by decide⟩
instance : Body Tryd.prog 84 := ⟨_, Tryd.func84, rfl, by decide⟩
instance : Body Tryd.prog 85 := ⟨_, Tryd.func85, rfl, by decide⟩
instance : Body Tryd.prog 86 := ⟨_, Tryd.func86, rfl, by decide⟩
instance : Body Tryd.prog 87 := ⟨_, Tryd.func87, rfl, by decide⟩
instance : Body Tryd.prog 88 := ⟨_, Tryd.func88, rfl, by decide⟩
instance : Body Tryd.prog 89 := ⟨_, Tryd.func89, rfl, by decide⟩
instance : Body Tryd.prog 90 := ⟨_, Tryd.func90, rfl, by decide⟩
instance : Body Tryd.prog 91 := ⟨_, Tryd.func91, rfl, by decide⟩
instance : Body Tryd.prog 92 := ⟨_, Tryd.func92, rfl, by decide⟩
instance : Body Tryd.prog 93 := ⟨_, Tryd.func93, rfl, by decide⟩
instance : Body Tryd.prog 94 := ⟨_, Tryd.func94, rfl, by decide⟩
instance : Body Tryd.prog 95 := ⟨_, Tryd.func95, rfl, by decide⟩
instance : Body Tryd.prog 96 := ⟨_, Tryd.func96, rfl, by decide⟩
instance : Body Tryd.prog 97 := ⟨_, Tryd.func97, rfl, by decide⟩
instance : Body Tryd.prog 98 := ⟨_, Tryd.func98, rfl, by decide⟩
instance : Body Tryd.prog 114 := ⟨_, Tryd.func114, rfl, by decide⟩
instance : Body Tryd.prog 115 := ⟨_, Tryd.func115, rfl, by decide⟩
instance : Body Tryd.prog 117 := ⟨_, Tryd.func117, rfl, by decide⟩
instance : Body Tryd.prog 119 := ⟨_, Tryd.func119, rfl, by decide⟩
instance : Body Tryd.prog 124 := ⟨_, Tryd.func124, rfl, by decide⟩
instance : Meth Tryd.prog 25 "Commits" 114 := ⟨by intro k v w; kernel_rfl⟩
instance : Meth Tryd.prog 25 "Gen" 19 := ⟨by intro k v w; kernel_rfl⟩
instance : Meth Tryd.prog 25 "Parents" 115 := ⟨by intro k v w; kernel_rfl⟩
instance : Meth Tryd.prog 67 "Before" 117 := ⟨by intro k v w; kernel_rfl⟩
instance : Meth Tryd.prog 86 "Parents" 65 := ⟨by intro k v w; kernel_rfl⟩
instance : Meth Tryd.prog 97 "Before" 119 := ⟨by intro k v w; kernel_rfl⟩
instance : TOne Tryd.prog 3 := ⟨by kernel_rfl, by kernel_rfl⟩
instance : TZero Tryd.prog 3 [(.int .i64 0)] := ⟨by kernel_rfl⟩
instance : TInt Tryd.prog 3 .i64 := ⟨Tryd.underlying3⟩
instance : TConc Tryd.prog 3 := ⟨_, Tryd.underlying3, rfl⟩
instance : TOne Tryd.prog 4 := ⟨by kernel_rfl, by kernel_rfl⟩
instance : TZero Tryd.prog 4 [(.bool false)] := ⟨by kernel_rfl⟩
instance : TBool Tryd.prog 4 := ⟨Tryd.underlying4⟩
instance : TConc Tryd.prog 4 := ⟨_, Tryd.underlying4, rfl⟩
instance : TOne Tryd.prog 5 := ⟨by kernel_rfl, by kernel_rfl⟩
instance : TZero Tryd.prog 5 [(.int .u8 0)] := ⟨by kernel_rfl⟩
instance : TInt Tryd.prog 5 .u8 := ⟨Tryd.underlying5⟩
instance : TConc Tryd.prog 5 := ⟨_, Tryd.underlying5, rfl⟩
instance : TOne Tryd.prog 22 := ⟨by kernel_rfl, by kernel_rfl⟩
instance : TZero Tryd.prog 22 [(.slice none 0 0)] := ⟨by kernel_rfl⟩
instance : TSl Tryd.prog 22 31 1 24 := ⟨Tryd.underlying22, by kernel_rfl⟩
instance : TConc Tryd.prog 22 := ⟨_, Tryd.underlying22, rfl⟩
instance : TAgg Tryd.prog 23 2 := ⟨by kernel_rfl, by kernel_rfl⟩
instance : TZero Tryd.prog 23 [(.int .i64 0), (.int .i64 0)] := ⟨by kernel_rfl⟩
instance : TArr Tryd.prog 23 2 3 1 := ⟨Tryd.underlying23, by kernel_rfl⟩
instance : TConc Tryd.prog 23 := ⟨_, Tryd.underlying23, rfl⟩
instance : TOne Tryd.prog 25 := ⟨by kernel_rfl, by kernel_rfl⟩
instance : TZero Tryd.prog 25 [(.pointer none)] := ⟨by kernel_rfl⟩
instance : TPtr Tryd.prog 25 := ⟨_, Tryd.underlying25⟩
instance : TConc Tryd.prog 25 := ⟨_, Tryd.underlying25, rfl⟩
instance : TOne Tryd.prog 27 := ⟨by kernel_rfl, by kernel_rfl⟩
instance : TZero Tryd.prog 27 [(.int .i64 0)] := ⟨by kernel_rfl⟩
instance : TInt Tryd.prog 27 .i64 := ⟨Tryd.underlying27⟩
instance : TConc Tryd.prog 27 := ⟨_, Tryd.underlying27, rfl⟩
instance : TOne Tryd.prog 31 := ⟨by kernel_rfl, by kernel_rfl⟩
instance : TZero Tryd.prog 31 [(.slice none 0 0)] := ⟨by kernel_rfl⟩
instance : TSl Tryd.prog 31 3 1 8 := ⟨Tryd.underlying31, by kernel_rfl⟩
instance : TConc Tryd.prog 31 := ⟨_, Tryd.underlying31, rfl⟩
instance : TAgg Tryd.prog 33 3 := ⟨by kernel_rfl, by kernel_rfl⟩
instance : TZero Tryd.prog 33 [(.slice none 0 0), (.slice none 0 0), (.slice none 0 0)] := ⟨by kernel_rfl⟩
instance : TBld Tryd.prog 33 [(.slice none 0 0), (.slice none 0 0), (.slice none 0 0)] [(0, 1), (1, 1), (2, 1)] := ⟨by kernel_rfl, by kernel_rfl⟩
instance : TFld Tryd.prog 33 0 0 := ⟨by kernel_rfl⟩
instance : TPart Tryd.prog 33 0 0 1 false := ⟨by kernel_rfl⟩
instance : TFld Tryd.prog 33 1 1 := ⟨by kernel_rfl⟩
instance : TPart Tryd.prog 33 1 1 1 false := ⟨by kernel_rfl⟩
instance : TFld Tryd.prog 33 2 2 := ⟨by kernel_rfl⟩
instance : TPart Tryd.prog 33 2 2 1 false := ⟨by kernel_rfl⟩
instance : TConc Tryd.prog 33 := ⟨_, Tryd.underlying33, rfl⟩
instance : TOne Tryd.prog 40 := ⟨by kernel_rfl, by kernel_rfl⟩
instance : TZero Tryd.prog 40 [.nilFunc] := ⟨by kernel_rfl⟩
instance : TFn Tryd.prog 40 := ⟨_, _, _, Tryd.underlying40⟩
instance : TConc Tryd.prog 40 := ⟨_, Tryd.underlying40, rfl⟩
instance : TAgg Tryd.prog 43 2 := ⟨by kernel_rfl, by kernel_rfl⟩
instance : TZero Tryd.prog 43 [(.slice none 0 0), (.slice none 0 0)] := ⟨by kernel_rfl⟩
instance : TArr Tryd.prog 43 2 31 1 := ⟨Tryd.underlying43, by kernel_rfl⟩
instance : TConc Tryd.prog 43 := ⟨_, Tryd.underlying43, rfl⟩
instance : TOne Tryd.prog 45 := ⟨by kernel_rfl, by kernel_rfl⟩
instance : TZero Tryd.prog 45 [.nilFunc] := ⟨by kernel_rfl⟩
instance : TFn Tryd.prog 45 := ⟨_, _, _, Tryd.underlying45⟩
instance : TConc Tryd.prog 45 := ⟨_, Tryd.underlying45, rfl⟩
instance : TOne Tryd.prog 51 := ⟨by kernel_rfl, by kernel_rfl⟩
instance : TZero Tryd.prog 51 [(.slice none 0 0)] := ⟨by kernel_rfl⟩
instance : TSl Tryd.prog 51 4 1 1 := ⟨Tryd.underlying51, by kernel_rfl⟩
instance : TConc Tryd.prog 51 := ⟨_, Tryd.underlying51, rfl⟩
instance : TOne Tryd.prog 58 := ⟨by kernel_rfl, by kernel_rfl⟩
instance : TZero Tryd.prog 58 [(.slice none 0 0)] := ⟨by kernel_rfl⟩
instance : TSl Tryd.prog 58 45 1 8 := ⟨Tryd.underlying58, by kernel_rfl⟩
instance : TConc Tryd.prog 58 := ⟨_, Tryd.underlying58, rfl⟩
instance : TOne Tryd.prog 63 := ⟨by kernel_rfl, by kernel_rfl⟩
instance : TZero Tryd.prog 63 [.nilIface] := ⟨by kernel_rfl⟩
instance : TOne Tryd.prog 65 := ⟨by kernel_rfl, by kernel_rfl⟩
instance : TZero Tryd.prog 65 [(.pointer none)] := ⟨by kernel_rfl⟩
instance : TPtr Tryd.prog 65 := ⟨_, Tryd.underlying65⟩
instance : TConc Tryd.prog 65 := ⟨_, Tryd.underlying65, rfl⟩
instance : TOne Tryd.prog 67 := ⟨by kernel_rfl, by kernel_rfl⟩
instance : TZero Tryd.prog 67 [(.int .i64 0)] := ⟨by kernel_rfl⟩
instance : TInt Tryd.prog 67 .i64 := ⟨Tryd.underlying67⟩
instance : TConc Tryd.prog 67 := ⟨_, Tryd.underlying67, rfl⟩
instance : TOne Tryd.prog 69 := ⟨by kernel_rfl, by kernel_rfl⟩
instance : TZero Tryd.prog 69 [(.pointer none)] := ⟨by kernel_rfl⟩
instance : TPtr Tryd.prog 69 := ⟨_, Tryd.underlying69⟩
instance : TConc Tryd.prog 69 := ⟨_, Tryd.underlying69, rfl⟩
instance : TOne Tryd.prog 70 := ⟨by kernel_rfl, by kernel_rfl⟩
instance : TZero Tryd.prog 70 [(.pointer none)] := ⟨by kernel_rfl⟩
instance : TPtr Tryd.prog 70 := ⟨_, Tryd.underlying70⟩
instance : TConc Tryd.prog 70 := ⟨_, Tryd.underlying70, rfl⟩
instance : TAgg Tryd.prog 72 3 := ⟨by kernel_rfl, by kernel_rfl⟩
instance : TZero Tryd.prog 72 [.nilIface, (.pointer none), (.pointer none)] := ⟨by kernel_rfl⟩
instance : TBld Tryd.prog 72 [.nilIface, (.pointer none), (.pointer none)] [(0, 1), (1, 1), (2, 1)] := ⟨by kernel_rfl, by kernel_rfl⟩
instance : TFld Tryd.prog 72 0 0 := ⟨by kernel_rfl⟩
instance : TPart Tryd.prog 72 0 0 1 false := ⟨by kernel_rfl⟩
instance : TFld Tryd.prog 72 1 1 := ⟨by kernel_rfl⟩
instance : TPart Tryd.prog 72 1 1 1 false := ⟨by kernel_rfl⟩
instance : TFld Tryd.prog 72 2 2 := ⟨by kernel_rfl⟩
instance : TPart Tryd.prog 72 2 2 1 false := ⟨by kernel_rfl⟩
instance : TConc Tryd.prog 72 := ⟨_, Tryd.underlying72, rfl⟩
instance : TOne Tryd.prog 79 := ⟨by kernel_rfl, by kernel_rfl⟩
instance : TZero Tryd.prog 79 [.nilFunc] := ⟨by kernel_rfl⟩
instance : TFn Tryd.prog 79 := ⟨_, _, _, Tryd.underlying79⟩
instance : TConc Tryd.prog 79 := ⟨_, Tryd.underlying79, rfl⟩
instance : TOne Tryd.prog 86 := ⟨by kernel_rfl, by kernel_rfl⟩
instance : TZero Tryd.prog 86 [(.pointer none)] := ⟨by kernel_rfl⟩
instance : TPtr Tryd.prog 86 := ⟨_, Tryd.underlying86⟩
instance : TConc Tryd.prog 86 := ⟨_, Tryd.underlying86, rfl⟩
instance : TOne Tryd.prog 87 := ⟨by kernel_rfl, by kernel_rfl⟩
instance : TZero Tryd.prog 87 [(.map none)] := ⟨by kernel_rfl⟩
instance : TMap Tryd.prog 87 3 31 := ⟨Tryd.underlying87⟩
instance : TZv Tryd.prog 31 (.slice none 0 0) := ⟨by kernel_rfl⟩
instance : TConc Tryd.prog 87 := ⟨_, Tryd.underlying87, rfl⟩
instance : TAgg Tryd.prog 89 2 := ⟨by kernel_rfl, by kernel_rfl⟩
instance : TZero Tryd.prog 89 [.nilIface, (.map none)] := ⟨by kernel_rfl⟩
instance : TBld Tryd.prog 89 [.nilIface, (.map none)] [(0, 1), (1, 1)] := ⟨by kernel_rfl, by kernel_rfl⟩
instance : TFld Tryd.prog 89 0 0 := ⟨by kernel_rfl⟩
instance : TPart Tryd.prog 89 0 0 1 false := ⟨by kernel_rfl⟩
instance : TFld Tryd.prog 89 1 1 := ⟨by kernel_rfl⟩
instance : TPart Tryd.prog 89 1 1 1 false := ⟨by kernel_rfl⟩
instance : TConc Tryd.prog 89 := ⟨_, Tryd.underlying89, rfl⟩
instance : TOne Tryd.prog 93 := ⟨by kernel_rfl, by kernel_rfl⟩
instance : TZero Tryd.prog 93 [(.pointer none)] := ⟨by kernel_rfl⟩
instance : TPtr Tryd.prog 93 := ⟨_, Tryd.underlying93⟩
instance : TConc Tryd.prog 93 := ⟨_, Tryd.underlying93, rfl⟩
instance : TOne Tryd.prog 94 := ⟨by kernel_rfl, by kernel_rfl⟩
instance : TZero Tryd.prog 94 [(.map none)] := ⟨by kernel_rfl⟩
instance : TMap Tryd.prog 94 3 3 := ⟨Tryd.underlying94⟩
instance : TZv Tryd.prog 3 (.int .i64 0) := ⟨by kernel_rfl⟩
instance : TConc Tryd.prog 94 := ⟨_, Tryd.underlying94, rfl⟩
instance : TOne Tryd.prog 95 := ⟨by kernel_rfl, by kernel_rfl⟩
instance : TZero Tryd.prog 95 [(.pointer none)] := ⟨by kernel_rfl⟩
instance : TPtr Tryd.prog 95 := ⟨_, Tryd.underlying95⟩
instance : TConc Tryd.prog 95 := ⟨_, Tryd.underlying95, rfl⟩
instance : TOne Tryd.prog 97 := ⟨by kernel_rfl, by kernel_rfl⟩
instance : TZero Tryd.prog 97 [(.int .i64 0)] := ⟨by kernel_rfl⟩
instance : TInt Tryd.prog 97 .i64 := ⟨Tryd.underlying97⟩
instance : TConc Tryd.prog 97 := ⟨_, Tryd.underlying97, rfl⟩
instance : TAgg Tryd.prog 99 5 := ⟨by kernel_rfl, by kernel_rfl⟩
instance : TZero Tryd.prog 99 [.nilIface, (.int .i64 0), (.map none), (.pointer none), (.int .i64 0)] := ⟨by kernel_rfl⟩
instance : TBld Tryd.prog 99 [.nilIface, (.int .i64 0), (.map none), (.pointer none), (.int .i64 0)] [(0, 1), (1, 1), (2, 1), (3, 1), (4, 1)] := ⟨by kernel_rfl, by kernel_rfl⟩
instance : TFld Tryd.prog 99 0 0 := ⟨by kernel_rfl⟩
instance : TPart Tryd.prog 99 0 0 1 false := ⟨by kernel_rfl⟩
instance : TFld Tryd.prog 99 1 1 := ⟨by kernel_rfl⟩
instance : TPart Tryd.prog 99 1 1 1 false := ⟨by kernel_rfl⟩
instance : TFld Tryd.prog 99 2 2 := ⟨by kernel_rfl⟩
instance : TPart Tryd.prog 99 2 2 1 false := ⟨by kernel_rfl⟩
instance : TFld Tryd.prog 99 3 3 := ⟨by kernel_rfl⟩
instance : TPart Tryd.prog 99 3 3 1 false := ⟨by kernel_rfl⟩
instance : TFld Tryd.prog 99 4 4 := ⟨by kernel_rfl⟩
instance : TPart Tryd.prog 99 4 4 1 false := ⟨by kernel_rfl⟩
instance : TConc Tryd.prog 99 := ⟨_, Tryd.underlying99, rfl⟩
instance : TOne Tryd.prog 104 := ⟨by kernel_rfl, by kernel_rfl⟩
instance : TZero Tryd.prog 104 [(.slice none 0 0)] := ⟨by kernel_rfl⟩
instance : TSl Tryd.prog 104 109 2 16 := ⟨Tryd.underlying104, by kernel_rfl⟩
instance : TConc Tryd.prog 104 := ⟨_, Tryd.underlying104, rfl⟩
instance : TOne Tryd.prog 105 := ⟨by kernel_rfl, by kernel_rfl⟩
instance : TZero Tryd.prog 105 [(.int .u64 0)] := ⟨by kernel_rfl⟩
instance : TInt Tryd.prog 105 .u64 := ⟨Tryd.underlying105⟩
instance : TConc Tryd.prog 105 := ⟨_, Tryd.underlying105, rfl⟩
instance : TAgg Tryd.prog 107 2 := ⟨by kernel_rfl, by kernel_rfl⟩
instance : TZero Tryd.prog 107 [(.slice none 0 0), (.int .u64 0)] := ⟨by kernel_rfl⟩
instance : TBld Tryd.prog 107 [(.slice none 0 0), (.int .u64 0)] [(0, 1), (1, 1)] := ⟨by kernel_rfl, by kernel_rfl⟩
instance : TFld Tryd.prog 107 0 0 := ⟨by kernel_rfl⟩
instance : TPart Tryd.prog 107 0 0 1 false := ⟨by kernel_rfl⟩
instance : TFld Tryd.prog 107 1 1 := ⟨by kernel_rfl⟩
instance : TPart Tryd.prog 107 1 1 1 false := ⟨by kernel_rfl⟩
instance : TConc Tryd.prog 107 := ⟨_, Tryd.underlying107, rfl⟩
instance : TAgg Tryd.prog 109 2 := ⟨by kernel_rfl, by kernel_rfl⟩
instance : TZero Tryd.prog 109 [(.int .i64 0), (.int .u64 0)] := ⟨by kernel_rfl⟩
instance : TBld Tryd.prog 109 [(.int .i64 0), (.int .u64 0)] [(0, 1), (1, 1)] := ⟨by kernel_rfl, by kernel_rfl⟩
instance : TEq2 Tryd.prog 109 := ⟨by kernel_rfl, by kernel_rfl⟩
instance : TFld Tryd.prog 109 0 0 := ⟨by kernel_rfl⟩
instance : TPart Tryd.prog 109 0 0 1 false := ⟨by kernel_rfl⟩
instance : TFld Tryd.prog 109 1 1 := ⟨by kernel_rfl⟩
instance : TPart Tryd.prog 109 1 1 1 false := ⟨by kernel_rfl⟩
instance : TConc Tryd.prog 109 := ⟨_, Tryd.underlying109, rfl⟩
instance : TOne Tryd.prog 111 := ⟨by kernel_rfl, by kernel_rfl⟩
instance : TZero Tryd.prog 111 [(.slice none 0 0)] := ⟨by kernel_rfl⟩
instance : TSl Tryd.prog 111 105 1 8 := ⟨Tryd.underlying111, by kernel_rfl⟩
instance : TConc Tryd.prog 111 := ⟨_, Tryd.underlying111, rfl⟩
instance : TAgg Tryd.prog 113 2 := ⟨by kernel_rfl, by kernel_rfl⟩
instance : TZero Tryd.prog 113 [(.int .i64 0), (.slice none 0 0)] := ⟨by kernel_rfl⟩
instance : TBld Tryd.prog 113 [(.int .i64 0), (.slice none 0 0)] [(0, 1), (1, 1)] := ⟨by kernel_rfl, by kernel_rfl⟩
instance : TFld Tryd.prog 113 0 0 := ⟨by kernel_rfl⟩
instance : TPart Tryd.prog 113 0 0 1 false := ⟨by kernel_rfl⟩
instance : TFld Tryd.prog 113 1 1 := ⟨by kernel_rfl⟩
instance : TPart Tryd.prog 113 1 1 1 false := ⟨by kernel_rfl⟩
instance : TConc Tryd.prog 113 := ⟨_, Tryd.underlying113, rfl⟩
instance : TOne Tryd.prog 115 := ⟨by kernel_rfl, by kernel_rfl⟩
instance : TZero Tryd.prog 115 [.nilFunc] := ⟨by kernel_rfl⟩
instance : TFn Tryd.prog 115 := ⟨_, _, _, Tryd.underlying115⟩
instance : TConc Tryd.prog 115 := ⟨_, Tryd.underlying115, rfl⟩
instance : TOne Tryd.prog 118 := ⟨by kernel_rfl, by kernel_rfl⟩
instance : TZero Tryd.prog 118 [(.slice none 0 0)] := ⟨by kernel_rfl⟩
instance : TSl Tryd.prog 118 97 1 8 := ⟨Tryd.underlying118, by kernel_rfl⟩
instance : TConc Tryd.prog 118 := ⟨_, Tryd.underlying118, rfl⟩
instance : TOne Tryd.prog 119 := ⟨by kernel_rfl, by kernel_rfl⟩
instance : TZero Tryd.prog 119 [(.slice none 0 0)] := ⟨by kernel_rfl⟩
instance : TSl Tryd.prog 119 133 2 16 := ⟨Tryd.underlying119, by kernel_rfl⟩
instance : TConc Tryd.prog 119 := ⟨_, Tryd.underlying119, rfl⟩
instance : TAgg Tryd.prog 121 2 := ⟨by kernel_rfl, by kernel_rfl⟩
instance : TZero Tryd.prog 121 [(.slice none 0 0), (.int .u64 0)] := ⟨by kernel_rfl⟩
instance : TBld Tryd.prog 121 [(.slice none 0 0), (.int .u64 0)] [(0, 1), (1, 1)] := ⟨by kernel_rfl, by kernel_rfl⟩
instance : TFld Tryd.prog 121 0 0 := ⟨by kernel_rfl⟩
instance : TPart Tryd.prog 121 0 0 1 false := ⟨by kernel_rfl⟩
instance : TFld Tryd.prog 121 1 1 := ⟨by kernel_rfl⟩
instance : TPart Tryd.prog 121 1 1 1 false := ⟨by kernel_rfl⟩
instance : TConc Tryd.prog 121 := ⟨_, Tryd.underlying121, rfl⟩
instance : TOne Tryd.prog 128 := ⟨by kernel_rfl, by kernel_rfl⟩
instance : TZero Tryd.prog 128 [(.slice none 0 0)] := ⟨by kernel_rfl⟩
instance : TSl Tryd.prog 128 67 1 8 := ⟨Tryd.underlying128, by kernel_rfl⟩
instance : TConc Tryd.prog 128 := ⟨_, Tryd.underlying128, rfl⟩
instance : TAgg Tryd.prog 133 2 := ⟨by kernel_rfl, by kernel_rfl⟩
instance : TZero Tryd.prog 133 [(.int .i64 0), (.int .u64 0)] := ⟨by kernel_rfl⟩
instance : TBld Tryd.prog 133 [(.int .i64 0), (.int .u64 0)] [(0, 1), (1, 1)] := ⟨by kernel_rfl, by kernel_rfl⟩
instance : TEq2 Tryd.prog 133 := ⟨by kernel_rfl, by kernel_rfl⟩
instance : TFld Tryd.prog 133 0 0 := ⟨by kernel_rfl⟩
instance : TPart Tryd.prog 133 0 0 1 false := ⟨by kernel_rfl⟩
instance : TFld Tryd.prog 133 1 1 := ⟨by kernel_rfl⟩
instance : TPart Tryd.prog 133 1 1 1 false := ⟨by kernel_rfl⟩
instance : TConc Tryd.prog 133 := ⟨_, Tryd.underlying133, rfl⟩
instance : TAgg Tryd.prog 136 64 := ⟨by kernel_rfl, by kernel_rfl⟩
instance : TZero Tryd.prog 136 [(.int .u8 0), (.int .u8 0), (.int .u8 0), (.int .u8 0), (.int .u8 0), (.int .u8 0), (.int .u8 0), (.int .u8 0), (.int .u8 0), (.int .u8 0), (.int .u8 0), (.int .u8 0), (.int .u8 0), (.int .u8 0), (.int .u8 0), (.int .u8 0), (.int .u8 0), (.int .u8 0), (.int .u8 0), (.int .u8 0), (.int .u8 0), (.int .u8 0), (.int .u8 0), (.int .u8 0), (.int .u8 0), (.int .u8 0), (.int .u8 0), (.int .u8 0), (.int .u8 0), (.int .u8 0), (.int .u8 0), (.int .u8 0), (.int .u8 0), (.int .u8 0), (.int .u8 0), (.int .u8 0), (.int .u8 0), (.int .u8 0), (.int .u8 0), (.int .u8 0), (.int .u8 0), (.int .u8 0), (.int .u8 0), (.int .u8 0), (.int .u8 0), (.int .u8 0), (.int .u8 0), (.int .u8 0), (.int .u8 0), (.int .u8 0), (.int .u8 0), (.int .u8 0), (.int .u8 0), (.int .u8 0), (.int .u8 0), (.int .u8 0), (.int .u8 0), (.int .u8 0), (.int .u8 0), (.int .u8 0), (.int .u8 0), (.int .u8 0), (.int .u8 0), (.int .u8 0)] := ⟨by kernel_rfl⟩
instance : TArr Tryd.prog 136 64 5 1 := ⟨Tryd.underlying136, by kernel_rfl⟩
instance : TConc Tryd.prog 136 := ⟨_, Tryd.underlying136, rfl⟩
end SX
namespace SX
open Go Go.Proofs

/-- the table of the de Bruijn numbers lies there -/
def tabV : List Value := Lib.deBruijn64tab.map fun n => Value.int .u8 (n : Nat)
theorem tab_get {μ : PH} {g : Nat} (h : RowAt μ g 0 tabV) {j k : Nat} (hj : j < 64) (hk : Lib.deBruijn64tab.getD j 0 = k) : CellAt μ g j (.int .u8 (k : Nat)) := by
  have hlen : Lib.deBruijn64tab.length = 64 := rfl
  have := h j (.int .u8 (k : Nat)) (by
    unfold tabV
    rw [List.getElem?_map, List.getElem?_eq_getElem (by omega)]
    simp only [Option.map_some]
    rw [← hk, List.getD_eq_getElem?_getD, List.getElem?_eq_getElem (by omega)]; rfl)
  rwa [Nat.zero_add] at this

theorem tz_spec (μ : PH) (w : BitVec 64) (hT : RowAt μ 0 0 tabV) (hw : w ≠ 0#64) : Spec Tryd.prog 93 [wv w] [ro μ] (fun v L => v = .int .i64 (ctz w : Nat) ∧ L = [ro μ]) := by
  obtain ⟨h1, h2⟩ := ctz_idx hw
  have hc := tab_get hT h1 h2
  have hz := (ctz_spec hw).1
  have hn : ¬ ((w.toNat : Int) = 0) := fun e => hw (BitVec.eq_of_toNat_eq (by simpa using e))
  refine Spec.of 14 Tryd.func93 rfl rfl rfl ?_
  refine swp_seq ?_
  refine swp_region ?_
  refine s_pu (pu_assign rfl) ?_
  refine swl_sub _ (.cons (t := 0) rfl .nil) ?_
  refine swl_nil ?_
  refine then_n ?_
  refine swp_seq ?_
  refine swp_seq ?_
  refine swp_region ?_
  refine s_pu (pu_move rfl) ?_
  refine s_pu (pu_eql rfl rfl) ?_
  refine swl_sub _ (.cons (t := 0) rfl (.cons (t := 4) rfl .nil)) ?_
  refine swl_nil ?_
  refine then_n ?_
  refine swp_cond (b := _) rfl (fun h4 => absurd (of_decide_eq_true h4) hn) (fun h4 => ?_)
  refine swp_skip ?_
  refine then_n ?_
  refine swp_seq ?_
  refine swp_region ?_
  refine s_pu (pu_move rfl) ?_
  refine s_pu (pu_move rfl) ?_
  refine s_pu (pu_neg_w (a := w) rfl) ?_
  refine s_pu (pu_and_w (a := w) (b := -w) rfl rfl) ?_
  refine s_pu (pu_mul_w (a := w &&& -w) (b := 285870213051353865#64) rfl rfl) ?_
  refine s_pu (pu_shr_w (a := (w &&& -w) * 285870213051353865#64) 58 rfl rfl (by decide)) ?_
  refine s_pu (pu_indexAddr_arr (((w &&& -w) * 285870213051353865#64) >>> 58).toNat rfl rfl (by omega) (by omega) (by rw [Int.toNat_natCast]; omega)) ?_
  refine s_rd (rd_ro rfl hc) ?_
  first | refine s_pu (pu_conv_i64 rfl (by omega) (by omega)) ?_ | refine s_pu (pu_conv rfl) ?_
  refine s_pu (pu_assign rfl) ?_
  refine swl_sub _ (.cons (t := 2) rfl .nil) ?_
  refine swl_nil ?_
  refine then_n ?_
  refine swp_ret ?_
  exact done_ret [ro μ] (.tmp rfl .nil) ⟨rfl, rfl⟩ (by repeat (first | exact Split.nil | (apply Split.cons; (repeat (first | with_reducible exact Take.here | apply Take.there)))))
end SX
namespace SX
open Go Go.Proofs

def ucs (w : BitVec 64) : List Value := [wv w]
theorem ucs_len (w : BitVec 64) : (ucs w).length = 1 := rfl
def wcells (ws : List (BitVec 64)) : List Value := ws.flatMap ucs
theorem wcells_len (ws : List (BitVec 64)) : (wcells ws).length = ws.length := by unfold wcells; rw [flat_length ucs_len, Nat.mul_one]
theorem wcells_get {ws : List (BitVec 64)} {ex : List Value} {i : Nat} {w : BitVec 64} (h : ws[i]? = some w) : (wcells ws ++ ex)[i]? = some (wv w) := by
  have := flat_get ucs_len ws ex i w h 0 (wv w) rfl
  rwa [Nat.mul_one, Nat.add_zero] at this
theorem wcells_set {ws : List (BitVec 64)} {ex : List Value} {i : Nat} {w : BitVec 64} (h : i < ws.length) : (wcells ws ++ ex).set i (wv w) = wcells (ws.set i w) ++ ex := by
  rw [List.set_append_left _ _ (by rw [wcells_len]; exact h)]
  congr 1
  apply List.ext_getElem?
  intro j
  have key : ∀ (ws : List (BitVec 64)) (j : Nat), (wcells ws)[j]? = (ws[j]?).map wv := by
    intro ws j
    cases hj : ws[j]? with
    | none =>
      rw [List.getElem?_eq_none_iff] at hj
      simp only [Option.map_none]
      rw [List.getElem?_eq_none_iff, wcells_len]; exact hj
    | some w => have := wcells_get (ex := []) hj; rwa [List.append_nil] at this
  rw [key, List.getElem?_set, List.getElem?_set, key, wcells_len]
  split
  · simp
  · rfl
/-- is bit k there? -/
def mem (ws : List (BitVec 64)) (k : Nat) : Bool := (ws.getD (k / 64) 0#64).getLsbD (k % 64)
theorem mem_at {ws : List (BitVec 64)} {i : Nat} {w : BitVec 64} (h : ws[i]? = some w) {k : Nat} (hk : k / 64 = i) : mem ws k = w.getLsbD (k % 64) := by
  unfold mem; rw [hk, List.getD_eq_getElem?_getD, h]; rfl
theorem bit_and_one (w : BitVec 64) (r : Nat) : (decide ((((w >>> r) &&& 1#64).toNat : Int) = 0)) = !w.getLsbD r := by
  have e : ((w >>> r) &&& 1#64).toNat = (w.getLsbD r).toNat := by
    rw [BitVec.toNat_and, BitVec.toNat_ushiftRight, show (1#64 : BitVec 64).toNat = 1 from rfl, Nat.and_one_is_mod, Nat.shiftRight_eq_div_pow]
    show _ = (w.toNat.testBit r).toNat
    rw [Nat.testBit_eq_decide_div_mod_eq]
    rcases Nat.mod_two_eq_zero_or_one (w.toNat / 2 ^ r) with h | h <;> simp [h]
  rw [e]
  cases w.getLsbD r <;> simp

/-- a set of n numbers, laid open: its struct and its words -/
abbrev opn (p n : Nat) (v : Value) (ws : List (BitVec 64)) : List Assn := [blk p 113 [.int .i64 (n : Nat), v], own 105 1 v ws.length (wcells ws)]
/-- the words of a set of n -/
def Wf (n : Nat) (ws : List (BitVec 64)) (S : Nat → Bool) : Prop := ws.length = (n + 63) / 64 ∧ n ≤ 1048576 ∧ (∀ k, mem ws k = S k) ∧ ∀ k, n ≤ k → S k = false
def mset (p n : Nat) (S : Nat → Bool) : Assn := exA fun x : {x : Value × List (BitVec 64) // Wf n x.2 S} => opn p n x.1.1 x.1.2
theorem mset_close {p n : Nat} {S : Nat → Bool} {v : Value} {ws : List (BitVec 64)} {L : List Assn} (h : Wf n ws S) : Ent (blk p 113 [.int .i64 (n : Nat), v] :: own 105 1 v ws.length (wcells ws) :: L) (mset p n S :: L) :=
  ent_ex (F := fun x : {x : Value × List (BitVec 64) // Wf n x.2 S} => opn p n x.1.1 x.1.2) ⟨(v, ws), h⟩ (by repeat (first | exact Split.nil | (apply Split.cons; (repeat (first | with_reducible exact Take.here | apply Take.there)))))
theorem wown_close {b cap : Nat} {ws : List (BitVec 64)} {ex : List Value} {L : List Assn} (h1 : ws.length ≤ cap) (h2 : cap ≤ maxLen) (h4 : ex.length = (cap - ws.length) * 1) :
    Ent (blk b 105 (wcells ws ++ ex) :: L) (own 105 1 (.slice (some ⟨b, 0, none⟩) ws.length cap) ws.length (wcells ws) :: L) := own_close (by rw [wcells_len, Nat.mul_one]) h4 h1 h2

theorem size_b (p n : Nat) (v : Value) : Spec Tryd.prog 72 [.pointer (some ⟨p, 0, none⟩)] [blk p 113 [.int .i64 (n : Nat), v]] (fun r L => r = .int .i64 (n : Nat) ∧ L = [blk p 113 [.int .i64 (n : Nat), v]]) := by
  refine Spec.of 9 Tryd.func72 rfl rfl rfl ?_
  refine swp_seq ?_
  refine swp_region ?_
  refine s_pu (pu_assign rfl) ?_
  refine swl_sub _ (.cons (t := 0) rfl .nil) ?_
  refine swl_nil ?_
  refine then_n ?_
  refine swp_seq ?_
  refine swp_seq ?_
  refine swp_region ?_
  refine s_pu (pu_move rfl) ?_
  refine s_pu (pu_ptr_eq_nil rfl rfl) ?_
  refine swl_sub _ (.cons (t := 0) rfl (.cons (t := 4) rfl .nil)) ?_
  refine swl_nil ?_
  refine then_n ?_
  refine swp_cond (b := _) rfl (fun h4 => by cases h4) (fun h4 => ?_)
  refine swp_skip ?_
  refine then_n ?_
  refine swp_seq ?_
  refine swp_region ?_
  refine s_pu (pu_move rfl) ?_
  first | refine s_pu (pu_nilCheck rfl) ?_ | refine s_pu (pu_nilCheck_fn rfl) ?_ | refine s_pu (pu_nilCheck_if rfl) ?_
  first | refine s_pu (pu_fieldAddr0 rfl) ?_ | refine s_pu (pu_fieldAddr rfl) ?_
  refine s_rd (rd_load rfl rfl) ?_
  refine s_pu (pu_assign rfl) ?_
  refine swl_sub _ (.cons (t := 2) rfl .nil) ?_
  refine swl_nil ?_
  refine then_n ?_
  refine swp_ret ?_
  exact done_ret _ (.tmp rfl .nil) ⟨rfl, rfl⟩ (by repeat (first | exact Split.nil | (apply Split.cons; (repeat (first | with_reducible exact Take.here | apply Take.there)))))
theorem has_o (p n : Nat) (v : Value) (ws : List (BitVec 64)) (k : Int) (hl : ws.length = (n + 63) / 64) (hn : n ≤ 1048576) :
    Spec Tryd.prog 58 [.pointer (some ⟨p, 0, none⟩), .int .i64 k] (opn p n v ws) (fun r L => r = .bool (decide (0 ≤ k) && (decide (k < n) && mem ws k.toNat)) ∧ L = opn p n v ws) := by
  refine Spec.of 28 Tryd.func58 rfl rfl rfl ?_
  refine swp_seq ?_
  refine swp_region ?_
  refine s_pu (pu_assign rfl) ?_
  refine swl_sub _ (.cons (t := 0) rfl (.cons (t := 1) rfl .nil)) ?_
  refine swl_nil ?_
  refine then_n ?_
  refine swp_seq ?_
  refine swp_region ?_
  refine s_pu (pu_move rfl) ?_
  refine s_pu (pu_geq rfl rfl) ?_
  refine s_pu (pu_move rfl) ?_
  refine s_split 7 rfl (fun h7 => ?_) (fun h7 => ?_)
  · skip   -- 7 T
    refine s_on rfl rfl ?_
    refine s_pu (pu_move rfl) ?_
    refine s_on rfl rfl ?_
    refine s_pu (pu_move rfl) ?_
    refine s_on rfl rfl ?_
    refine s_ef (ef_fn (size_b p n v) rfl rfl (by repeat (first | exact Split.nil | (apply Split.cons; (repeat (first | with_reducible exact Take.here | apply Take.there)))))) ?_
    rintro v1 L1 ⟨rfl, rfl⟩
    refine swl_app ?_
    refine s_on rfl rfl ?_
    refine s_pu (pu_lss rfl rfl) ?_
    first | refine s_pu (pu_pick_t rfl rfl) ?_ | refine s_pu (pu_pick_f rfl rfl) ?_
    refine s_pu (pu_move rfl) ?_
    refine s_split 13 rfl (fun h13 => ?_) (fun h13 => ?_)
    · skip   -- 13 T
      have h7' := of_decide_eq_true h7
      have h13' := of_decide_eq_true h13
      obtain ⟨m, rfl⟩ : ∃ m : Nat, k = m := ⟨k.toNat, by omega⟩
      have hmi : m / 64 < ws.length := by omega
      obtain ⟨w, hw⟩ : ∃ w, ws[m / 64]? = some w := ⟨_, List.getElem?_eq_getElem hmi⟩
      refine swl_own (by repeat (first | with_reducible exact Take.here | apply Take.there)) (fun h0 l0 _ => by omega) (fun b cap ex hv h1 h2 h3 h4 => ?_)
      subst hv
      refine s_on rfl rfl ?_
      refine s_pu (pu_move rfl) ?_
      refine s_on rfl rfl ?_
      first | refine s_pu (pu_nilCheck rfl) ?_ | refine s_pu (pu_nilCheck_fn rfl) ?_ | refine s_pu (pu_nilCheck_if rfl) ?_
      refine s_on rfl rfl ?_
      first | refine s_pu (pu_fieldAddr0 rfl) ?_ | refine s_pu (pu_fieldAddr rfl) ?_
      refine s_on rfl rfl ?_
      refine s_rd (rd_load rfl rfl) ?_
      refine s_on rfl rfl ?_
      refine s_pu (pu_move rfl) ?_
      refine s_on rfl rfl ?_
      refine s_pu (pu_quo_as ((m / 64 : Nat) : Int) rfl rfl (by omega) (by omega) (by omega) (by omega)) ?_
      refine s_on rfl rfl ?_
      refine s_pu (pu_indexAddr (m / 64) rfl rfl (by omega) (by omega) (by omega)) ?_
      refine s_on rfl rfl ?_
      refine s_rd (rd_load rfl (wcells_get hw)) ?_
      refine s_on rfl rfl ?_
      refine s_pu (pu_move rfl) ?_
      refine s_on rfl rfl ?_
      refine s_pu (pu_rem_as ((m % 64 : Nat) : Int) rfl rfl (by omega) (by omega) (by omega)) ?_
      refine s_on rfl rfl ?_
      refine s_pu (pu_shr_w (a := w) (m % 64) rfl rfl (by omega)) ?_
      refine s_on rfl rfl ?_
      refine s_pu (pu_and_w (b := 1#64) rfl rfl) ?_
      refine s_on rfl rfl ?_
      refine s_pu (pu_neq rfl rfl) ?_
      first | refine s_pu (pu_pick_t rfl rfl) ?_ | refine s_pu (pu_pick_f rfl rfl) ?_
      refine s_pu (pu_assign rfl) ?_
      refine swl_sub _ (.cons (t := 4) rfl .nil) ?_
      refine swl_nil ?_
      refine then_n ?_
      refine swp_ret ?_
      exact done_retE (opn p n _ ws) (.tmp rfl .nil) ⟨by simp only [resV, h7, h13, Bool.true_and, Int.toNat_natCast]; rw [bit_and_one w _, Bool.not_not, mem_at hw rfl], rfl⟩
        ((Split.ent' (K := [blk b 105 (wcells ws ++ ex), blk p 113 [.int .i64 (n : Nat), .slice (some ⟨b, 0, none⟩) ws.length cap]]) (by repeat (first | exact Split.nil | (apply Split.cons; (repeat (first | with_reducible exact Take.here | apply Take.there)))))).trans ((wown_close h1 h2 h4).trans Ent.swap))
    · skip   -- 13 F
      refine s_off rfl rfl rfl ?_
      refine s_off rfl rfl rfl ?_
      refine s_off rfl rfl rfl ?_
      refine s_off rfl rfl rfl ?_
      refine s_off rfl rfl rfl ?_
      refine s_off rfl rfl rfl ?_
      refine s_off rfl rfl rfl ?_
      refine s_off rfl rfl rfl ?_
      refine s_off rfl rfl rfl ?_
      refine s_off rfl rfl rfl ?_
      refine s_off rfl rfl rfl ?_
      refine s_off rfl rfl rfl ?_
      refine s_off rfl rfl rfl ?_
      first | refine s_pu (pu_pick_t rfl rfl) ?_ | refine s_pu (pu_pick_f rfl rfl) ?_
      refine s_pu (pu_assign rfl) ?_
      refine swl_sub _ (.cons (t := 4) rfl .nil) ?_
      refine swl_nil ?_
      refine then_n ?_
      refine swp_ret ?_
      exact done_ret (opn p n v ws) (.tmp rfl .nil) ⟨by simp [resV, *], rfl⟩ (by repeat (first | exact Split.nil | (apply Split.cons; (repeat (first | with_reducible exact Take.here | apply Take.there)))))
  · skip   -- 7 F
    refine s_off rfl rfl rfl ?_
    refine s_off rfl rfl rfl ?_
    refine s_off rfl rfl rfl ?_
    refine s_off rfl rfl rfl ?_
    first | refine s_pu (pu_pick_t rfl rfl) ?_ | refine s_pu (pu_pick_f rfl rfl) ?_
    refine s_pu (pu_move rfl) ?_
    refine s_off rfl rfl rfl ?_
    refine s_off rfl rfl rfl ?_
    refine s_off rfl rfl rfl ?_
    refine s_off rfl rfl rfl ?_
    refine s_off rfl rfl rfl ?_
    refine s_off rfl rfl rfl ?_
    refine s_off rfl rfl rfl ?_
    refine s_off rfl rfl rfl ?_
    refine s_off rfl rfl rfl ?_
    refine s_off rfl rfl rfl ?_
    refine s_off rfl rfl rfl ?_
    refine s_off rfl rfl rfl ?_
    refine s_off rfl rfl rfl ?_
    first | refine s_pu (pu_pick_t rfl rfl) ?_ | refine s_pu (pu_pick_f rfl rfl) ?_
    refine s_pu (pu_assign rfl) ?_
    refine swl_sub _ (.cons (t := 4) rfl .nil) ?_
    refine swl_nil ?_
    refine then_n ?_
    refine swp_ret ?_
    exact done_ret (opn p n v ws) (.tmp rfl .nil) ⟨by simp [resV, *], rfl⟩ (by repeat (first | exact Split.nil | (apply Split.cons; (repeat (first | with_reducible exact Take.here | apply Take.there)))))
theorem word_o (p n : Nat) (v : Value) (ws : List (BitVec 64)) (i : Nat) (hi : i ≤ 1048576) :
    Spec Tryd.prog 94 [.pointer (some ⟨p, 0, none⟩), .int .i64 (i : Nat)] (opn p n v ws) (fun r L => r = wv (ws.getD i 0#64) ∧ L = opn p n v ws) := by
  refine Spec.of 23 Tryd.func94 rfl rfl rfl ?_
  refine swp_front (A := own 105 1 v ws.length (wcells ws)) (by repeat (first | with_reducible exact Take.here | apply Take.there)) ?_
  refine swp_fact (fun m h => own_form h) fun ⟨A, cap, hv⟩ => ?_
  subst hv
  refine swp_seq ?_
  refine swp_region ?_
  refine s_pu (pu_assign rfl) ?_
  refine swl_sub _ (.cons (t := 0) rfl (.cons (t := 1) rfl .nil)) ?_
  refine swl_nil ?_
  refine then_n ?_
  refine swp_seq ?_
  refine swp_seq ?_
  refine swp_region ?_
  refine s_pu (pu_move rfl) ?_
  refine s_pu (pu_ptr_eq_nil rfl rfl) ?_
  refine s_pu (pu_move rfl) ?_
  refine s_on rfl rfl ?_
  refine s_pu (pu_move rfl) ?_
  refine s_on rfl rfl ?_
  refine s_pu (pu_move rfl) ?_
  refine s_on rfl rfl ?_
  first | refine s_pu (pu_nilCheck rfl) ?_ | refine s_pu (pu_nilCheck_fn rfl) ?_ | refine s_pu (pu_nilCheck_if rfl) ?_
  refine s_on rfl rfl ?_
  first | refine s_pu (pu_fieldAddr0 rfl) ?_ | refine s_pu (pu_fieldAddr rfl) ?_
  refine s_on rfl rfl ?_
  refine s_rd (rd_load rfl rfl) ?_
  refine s_on rfl rfl ?_
  refine s_pu (pu_len rfl) ?_
  refine s_on rfl rfl ?_
  refine s_pu (pu_geq rfl rfl) ?_
  first | refine s_pu (pu_pick_t rfl rfl) ?_ | refine s_pu (pu_pick_f rfl rfl) ?_
  refine swl_sub _ (.cons (t := 0) rfl (.cons (t := 1) rfl (.cons (t := 15) rfl .nil))) ?_
  refine swl_nil ?_
  refine then_n ?_
  refine swp_cond (b := _) rfl (fun h15 => ?_) (fun h15 => ?_)
  · skip   -- 15 T
    have h15' := of_decide_eq_true h15
    refine swp_seq ?_
    refine swp_region ?_
    refine s_pu (pu_assign rfl) ?_
    refine swl_sub _ (.cons (t := 4) rfl .nil) ?_
    refine swl_nil ?_
    refine then_n ?_
    refine swp_ret ?_
    refine then_r ?_
    exact done_ret (opn p n _ ws) (.tmp rfl .nil) ⟨by rw [List.getD_eq_getElem?_getD, List.getElem?_eq_none (by omega)]; rfl, rfl⟩ (by repeat (first | exact Split.nil | (apply Split.cons; (repeat (first | with_reducible exact Take.here | apply Take.there)))))
  · skip   -- 15 F
    refine swp_skip ?_
    refine then_n ?_
    refine swp_seq ?_
    have h15' := of_decide_eq_false h15
    obtain ⟨w, hw⟩ : ∃ w, ws[i]? = some w := ⟨_, List.getElem?_eq_getElem (by omega)⟩
    refine swp_front (A := own 105 1 (.slice A ws.length cap) ws.length (wcells ws)) (by repeat (first | with_reducible exact Take.here | apply Take.there)) ?_
    refine swp_own (fun h0 l0 _ => by omega) (fun b cap' ex hv h1 h2 h3 h4 => ?_)
    cases hv
    refine swp_region ?_
    refine s_pu (pu_move rfl) ?_
    first | refine s_pu (pu_nilCheck rfl) ?_ | refine s_pu (pu_nilCheck_fn rfl) ?_ | refine s_pu (pu_nilCheck_if rfl) ?_
    first | refine s_pu (pu_fieldAddr0 rfl) ?_ | refine s_pu (pu_fieldAddr rfl) ?_
    refine s_rd (rd_load rfl rfl) ?_
    refine s_pu (pu_move rfl) ?_
    refine s_pu (pu_indexAddr i rfl rfl (by omega) (by omega) (by omega)) ?_
    refine s_rd (rd_load rfl (wcells_get hw)) ?_
    refine s_pu (pu_assign rfl) ?_
    refine swl_sub _ (.cons (t := 4) rfl .nil) ?_
    refine swl_nil ?_
    refine then_n ?_
    refine swp_ret ?_
    exact done_retE (opn p n _ ws) (.tmp rfl .nil) ⟨by rw [List.getD_eq_getElem?_getD, hw]; rfl, rfl⟩
      ((Split.ent' (K := [blk b 105 (wcells ws ++ ex), blk p 113 [.int .i64 (n : Nat), .slice (some ⟨b, 0, none⟩) ws.length cap]]) (by repeat (first | exact Split.nil | (apply Split.cons; (repeat (first | with_reducible exact Take.here | apply Take.there)))))).trans ((wown_close h1 h2 h4).trans Ent.swap))
def clampM (k : Int) : Nat := (min (max k 0) 1048576).toNat
theorem new_m (k : Int) : Spec Tryd.prog 55 [.int .i64 k] [] (fun r L => ∃ p, r = .pointer (some ⟨p, 0, none⟩) ∧ L = [mset p (clampM k) (fun _ => false)]) := by
  have hc : min (max k 0) 1048576 = ((clampM k : Nat) : Int) := by unfold clampM; omega
  have hle : clampM k ≤ 1048576 := by unfold clampM; omega
  generalize clampM k = n at hc hle
  refine Spec.of 13 Tryd.func55 rfl rfl rfl ?_
  refine swp_seq ?_
  refine swp_region ?_
  refine s_pu (pu_assign rfl) ?_
  refine swl_sub _ (.cons (t := 0) rfl .nil) ?_
  refine swl_nil ?_
  refine then_n ?_
  refine swp_seq ?_
  refine swp_region ?_
  refine s_pu (pu_move rfl) ?_
  refine s_pu (pu_max2 rfl rfl) ?_
  refine s_pu (pu_min2 rfl rfl) ?_
  refine s_pu (pu_assign rfl) ?_
  refine swl_sub _ (.cons (t := 0) rfl .nil) ?_
  rw [hc]
  refine swl_nil ?_
  refine then_n ?_
  refine swp_seq ?_
  refine swp_region ?_
  refine s_pu (pu_move rfl) ?_
  refine s_pu (pu_move rfl) ?_
  first | refine s_pu (pu_add_in rfl rfl (by omega) (by omega)) ?_ | refine s_pu (pu_add rfl rfl) ?_
  refine s_pu (pu_quo_as (((n + 63) / 64 : Nat) : Int) rfl rfl (by omega) (by omega) (by omega) (by omega)) ?_
  refine s_ef (ef_make1 ((n + 63) / 64) rfl rfl rfl (by omega) (by simp only [maxLen]; omega)) ?_
  rintro b
  skip
  refine s_pu (pu_bld (qs := [(0, _), (1, _)]) rfl) ?_
  refine s_ef (ef_box rfl rfl) ?_
  intro b12
  refine s_pu (pu_assign rfl) ?_
  refine swl_sub _ (.cons (t := 2) rfl .nil) ?_
  refine swl_nil ?_
  refine then_n ?_
  refine swp_ret ?_
  refine done_retE [mset b12 n (fun _ => false)] (.tmp rfl .nil) ⟨b12, rfl, rfl⟩ ?_
  have hw : wcells (List.replicate ((n + 63) / 64) 0#64) = List.replicate ((n + 63) / 64) (Value.int .u64 0) := by
    apply List.ext_getElem?
    intro j
    rcases Nat.lt_or_ge j ((n + 63) / 64) with h | h
    · have := wcells_get (ws := List.replicate ((n + 63) / 64) 0#64) (ex := []) (i := j) (w := 0#64) (by simp [h])
      rw [List.append_nil] at this
      rw [this]; simp [h]
    · rw [List.getElem?_eq_none (by rw [wcells_len, List.length_replicate]; exact h), List.getElem?_eq_none (by rw [List.length_replicate]; exact h)]
  rw [← hw]
  have hwf : Wf n (List.replicate ((n + 63) / 64) 0#64) (fun _ => false) := ⟨by simp, hle, fun k => by
    unfold mem
    rw [List.getD_eq_getElem?_getD]
    rcases Nat.lt_or_ge (k / 64) ((n + 63) / 64) with h | h
    · simp [h]
    · simp [Nat.not_lt.2 h], fun _ _ => rfl⟩
  have hcl := wown_close (b := b) (cap := (n + 63) / 64) (ws := List.replicate ((n + 63) / 64) 0#64) (ex := []) (L := [blk b12 113 [.int .i64 (n : Nat), .slice (some ⟨b, 0, none⟩) ((n + 63) / 64) ((n + 63) / 64)]]) (by simp) (by simp only [maxLen]; omega) (by simp)
  rw [List.append_nil, List.length_replicate] at hcl
  have hmc := mset_close (p := b12) (v := .slice (some ⟨b, 0, none⟩) ((n + 63) / 64) ((n + 63) / 64)) (L := []) hwf
  rw [List.length_replicate] at hmc
  exact (Split.ent' (K := [blk b 105 (wcells (List.replicate ((n + 63) / 64) 0#64)), blk b12 113 [.int .i64 (n : Nat), .slice (some ⟨b, 0, none⟩) ((n + 63) / 64) ((n + 63) / 64)]]) (by repeat (first | exact Split.nil | (apply Split.cons; (repeat (first | with_reducible exact Take.here | apply Take.there)))))).trans (hcl.trans (Ent.swap.trans hmc))
end SX
namespace SX
open Go Go.Proofs

theorem one_shl (r i : Nat) (hi : i < 64) : ((1#64 : BitVec 64) <<< r).getLsbD i = decide (i = r) := by
  rw [BitVec.getLsbD_shiftLeft]
  by_cases h : i = r
  · subst h; simp [hi]
  · by_cases h2 : i < r
    · simp [h2, h]
    · have : i - r ≠ 0 := by omega
      simp [h2, h, this]
theorem mem_set {ws : List (BitVec 64)} {i : Nat} (w : BitVec 64) (hi : i < ws.length) (j : Nat) : mem (ws.set i w) j = if j / 64 = i then w.getLsbD (j % 64) else mem ws j := by
  unfold mem
  rw [List.getD_eq_getElem?_getD, List.getElem?_set]
  split
  · rename_i h; subst h; simp
  · rename_i h; rw [if_neg (Ne.symm h), List.getD_eq_getElem?_getD]
theorem mem_put {ws : List (BitVec 64)} {m : Nat} {w : BitVec 64} (hw : ws[m / 64]? = some w) (j : Nat) : mem (ws.set (m / 64) (w ||| (1#64 <<< (m % 64)))) j = (mem ws j || decide (j = m)) := by
  have hi : m / 64 < ws.length := (List.getElem?_eq_some_iff.1 hw).1
  rw [mem_set _ hi]
  split
  · rename_i h
    rw [BitVec.getLsbD_or, one_shl _ _ (Nat.mod_lt _ (by decide)), mem_at hw h]
    congr 1
    by_cases e : j = m
    · subst e; simp
    · have : j % 64 ≠ m % 64 := by omega
      simp [e, this]
  · rename_i h
    have : j ≠ m := fun e => h (by rw [e])
    simp [this]
theorem mem_drop {ws : List (BitVec 64)} {m : Nat} {w : BitVec 64} (hw : ws[m / 64]? = some w) (j : Nat) : mem (ws.set (m / 64) (w &&& ~~~(1#64 <<< (m % 64)))) j = (mem ws j && !decide (j = m)) := by
  have hi : m / 64 < ws.length := (List.getElem?_eq_some_iff.1 hw).1
  rw [mem_set _ hi]
  split
  · rename_i h
    have hj : j % 64 < 64 := Nat.mod_lt _ (by decide)
    rw [BitVec.getLsbD_and, BitVec.getLsbD_not, one_shl _ _ hj, mem_at hw h]
    by_cases e : j = m
    · subst e; simp
    · have : j % 64 ≠ m % 64 := by omega
      simp [e, this, hj]
  · rename_i h
    have : j ≠ m := fun e => h (by rw [e])
    simp [this]

theorem put_o (p n : Nat) (v : Value) (ws : List (BitVec 64)) (k : Int) (hl : ws.length = (n + 63) / 64) (hn : n ≤ 1048576) :
    Spec Tryd.prog 57 [.pointer (some ⟨p, 0, none⟩), .int .i64 k] (opn p n v ws) (fun r L => r = .bool (decide (0 ≤ k) && (decide (k < n) && !mem ws k.toNat)) ∧ ∃ ws', ws'.length = ws.length ∧ (∀ j, mem ws' j = (mem ws j || (decide (0 ≤ k ∧ k < n) && decide (j = k.toNat)))) ∧ L = opn p n v ws') := by
  refine Spec.of 31 Tryd.func57 rfl rfl rfl ?_
  refine swp_seq ?_
  refine swp_region ?_
  refine s_pu (pu_assign rfl) ?_
  refine swl_sub _ (.cons (t := 0) rfl (.cons (t := 1) rfl .nil)) ?_
  refine swl_nil ?_
  refine then_n ?_
  refine swp_seq ?_
  refine swp_seq ?_
  refine swp_region ?_
  refine s_pu (pu_move rfl) ?_
  refine s_pu (pu_lss rfl rfl) ?_
  refine s_pu (pu_move rfl) ?_
  refine s_split 7 rfl (fun h7 => ?_) (fun h7 => ?_)
  · skip   -- 7 T
    refine s_off rfl rfl rfl ?_
    refine s_off rfl rfl rfl ?_
    refine s_off rfl rfl rfl ?_
    refine s_off rfl rfl rfl ?_
    first | refine s_pu (pu_pick_t rfl rfl) ?_ | refine s_pu (pu_pick_f rfl rfl) ?_
    refine s_pu (pu_move rfl) ?_
    refine s_off rfl rfl rfl ?_
    refine s_off rfl rfl rfl ?_
    refine s_off rfl rfl rfl ?_
    first | refine s_pu (pu_pick_t rfl rfl) ?_ | refine s_pu (pu_pick_f rfl rfl) ?_
    refine swl_sub _ (.cons (t := 0) rfl (.cons (t := 1) rfl (.cons (t := 17) rfl .nil))) ?_
    refine swl_nil ?_
    refine then_n ?_
    refine swp_cond (b := _) rfl (fun h17 => ?_) (fun h17 => by cases h17)
    refine swp_seq ?_
    refine swp_region ?_
    refine s_pu (pu_assign rfl) ?_
    refine swl_sub _ (.cons (t := 4) rfl .nil) ?_
    refine swl_nil ?_
    refine then_n ?_
    refine swp_ret ?_
    refine then_r ?_
    have h7' := of_decide_eq_true h7
    exact done_ret (opn p n v ws) (.tmp rfl .nil) ⟨by simp [resV, Int.not_le.2 h7'], ws, rfl, fun j => by simp [Int.not_le.2 h7'], rfl⟩ (by repeat (first | exact Split.nil | (apply Split.cons; (repeat (first | with_reducible exact Take.here | apply Take.there)))))
  · skip   -- 7 F
    refine s_on rfl rfl ?_
    refine s_pu (pu_move rfl) ?_
    refine s_on rfl rfl ?_
    refine s_pu (pu_move rfl) ?_
    refine s_on rfl rfl ?_
    refine s_ef (ef_fn (size_b p n v) rfl rfl (by repeat (first | exact Split.nil | (apply Split.cons; (repeat (first | with_reducible exact Take.here | apply Take.there)))))) ?_
    rintro v1 L1 ⟨rfl, rfl⟩
    refine swl_app ?_
    refine s_on rfl rfl ?_
    refine s_pu (pu_geq rfl rfl) ?_
    first | refine s_pu (pu_pick_t rfl rfl) ?_ | refine s_pu (pu_pick_f rfl rfl) ?_
    refine s_pu (pu_move rfl) ?_
    refine s_split 13 rfl (fun h13 => ?_) (fun h13 => ?_)
    · skip   -- 13 T
      refine s_off rfl rfl rfl ?_
      refine s_off rfl rfl rfl ?_
      refine s_off rfl rfl rfl ?_
      first | refine s_pu (pu_pick_t rfl rfl) ?_ | refine s_pu (pu_pick_f rfl rfl) ?_
      refine swl_sub _ (.cons (t := 0) rfl (.cons (t := 1) rfl (.cons (t := 17) rfl .nil))) ?_
      refine swl_nil ?_
      refine then_n ?_
      refine swp_cond (b := _) rfl (fun h17 => ?_) (fun h17 => by cases h17)
      refine swp_seq ?_
      refine swp_region ?_
      refine s_pu (pu_assign rfl) ?_
      refine swl_sub _ (.cons (t := 4) rfl .nil) ?_
      refine swl_nil ?_
      refine then_n ?_
      refine swp_ret ?_
      refine then_r ?_
      have h13' := of_decide_eq_true h13
      exact done_ret (opn p n v ws) (.tmp rfl .nil) ⟨by simp [resV, Int.not_lt.2 h13'], ws, rfl, fun j => by simp [Int.not_lt.2 h13'], rfl⟩ (by repeat (first | exact Split.nil | (apply Split.cons; (repeat (first | with_reducible exact Take.here | apply Take.there)))))
    · skip   -- 13 F
      refine s_on rfl rfl ?_
      refine s_pu (pu_move rfl) ?_
      refine s_on rfl rfl ?_
      refine s_pu (pu_move rfl) ?_
      refine s_on rfl rfl ?_
      refine s_ef (ef_fn (has_o p n v ws k hl hn) rfl rfl (by repeat (first | exact Split.nil | (apply Split.cons; (repeat (first | with_reducible exact Take.here | apply Take.there)))))) ?_
      rintro v1 L1 ⟨rfl, rfl⟩
      refine swl_app ?_
      first | refine s_pu (pu_pick_t rfl rfl) ?_ | refine s_pu (pu_pick_f rfl rfl) ?_
      refine swl_sub _ (.cons (t := 0) rfl (.cons (t := 1) rfl (.cons (t := 17) rfl .nil))) ?_
      refine swl_nil ?_
      refine then_n ?_
      refine swp_cond (b := _) rfl (fun h17 => ?_) (fun h17 => ?_)
      · skip   -- 17 T
        refine swp_seq ?_
        refine swp_region ?_
        refine s_pu (pu_assign rfl) ?_
        refine swl_sub _ (.cons (t := 4) rfl .nil) ?_
        refine swl_nil ?_
        refine then_n ?_
        refine swp_ret ?_
        refine then_r ?_
        have h7' := of_decide_eq_false h7
        have h13' := of_decide_eq_false h13
        have h17' : mem ws k.toNat = true := by simp only [Bool.and_eq_true] at h17; exact h17.2.2
        exact done_ret (opn p n v ws) (.tmp rfl .nil) ⟨by simp [resV, h17'], ws, rfl, fun j => by
          by_cases e : j = k.toNat
          · subst e; simp [h17']
          · simp [e], rfl⟩ (by repeat (first | exact Split.nil | (apply Split.cons; (repeat (first | with_reducible exact Take.here | apply Take.there)))))
      · skip   -- 17 F
        refine swp_skip ?_
        refine then_n ?_
        refine swp_seq ?_
        have h7' := of_decide_eq_false h7
        have h13' := of_decide_eq_false h13
        obtain ⟨m, rfl⟩ : ∃ m : Nat, k = m := ⟨k.toNat, by omega⟩
        have hmi : m / 64 < ws.length := by omega
        obtain ⟨w, hw⟩ : ∃ w, ws[m / 64]? = some w := ⟨_, List.getElem?_eq_getElem hmi⟩
        refine swp_front (A := own 105 1 v ws.length (wcells ws)) (by repeat (first | with_reducible exact Take.here | apply Take.there)) ?_
        refine swp_own (fun h0 l0 _ => by omega) (fun b cap ex hv h1 h2 h3 h4 => ?_)
        subst hv
        refine swp_draw [3, 7] _ [] (by simp only [List.append_nil]; exact Ent.refl _) (by kernel_rfl) ?_
        refine d_pu 0 rfl (pu_move rfl) (by kernel_rfl) (by kernel_rfl) (by kernel_rfl) ?_
        first | refine d_pu 1 rfl (pu_nilCheck rfl) (by kernel_rfl) (by kernel_rfl) (by kernel_rfl) ?_ | refine d_pu 1 rfl (pu_nilCheck_fn rfl) (by kernel_rfl) (by kernel_rfl) (by kernel_rfl) ?_ | refine d_pu 1 rfl (pu_nilCheck_if rfl) (by kernel_rfl) (by kernel_rfl) (by kernel_rfl) ?_
        first | refine d_pu 2 rfl (pu_fieldAddr0 rfl) (by kernel_rfl) (by kernel_rfl) (by kernel_rfl) ?_ | refine d_pu 2 rfl (pu_fieldAddr rfl) (by kernel_rfl) (by kernel_rfl) (by kernel_rfl) ?_
        refine d_rd 3 rfl (rd_load rfl rfl) rfl (by kernel_rfl) (by kernel_rfl) (by kernel_rfl) ?_
        refine d_pu 4 rfl (pu_move rfl) (by kernel_rfl) (by kernel_rfl) (by kernel_rfl) ?_
        refine d_pu 5 rfl (pu_quo_as ((m / 64 : Nat) : Int) rfl rfl (by omega) (by omega) (by omega) (by omega)) (by kernel_rfl) (by kernel_rfl) (by kernel_rfl) ?_
        refine d_pu 6 rfl (pu_indexAddr (m / 64) rfl rfl (by omega) (by omega) (by omega)) (by kernel_rfl) (by kernel_rfl) (by kernel_rfl) ?_
        refine d_rd 7 rfl (rd_load rfl (wcells_get hw)) rfl (by kernel_rfl) (by kernel_rfl) (by kernel_rfl) ?_
        refine d_pu 8 rfl (pu_move rfl) (by kernel_rfl) (by kernel_rfl) (by kernel_rfl) ?_
        refine d_pu 9 rfl (pu_rem_as ((m % 64 : Nat) : Int) rfl rfl (by omega) (by omega) (by omega)) (by kernel_rfl) (by kernel_rfl) (by kernel_rfl) ?_
        refine d_pu 10 rfl (pu_shl_w (a := 1#64) (m % 64) rfl rfl (by omega)) (by kernel_rfl) (by kernel_rfl) (by kernel_rfl) ?_
        refine d_pu 11 rfl (pu_or_w (a := w) rfl rfl) (by kernel_rfl) (by kernel_rfl) (by kernel_rfl) ?_
        refine d_pu 12 rfl (pu_indexAddr (m / 64) rfl rfl (by omega) (by omega) (by omega)) (by kernel_rfl) (by kernel_rfl) (by kernel_rfl) ?_
        first | refine d_fin0t 13 rfl (by kernel_rfl) (by kernel_rfl) (ef_storeP rfl rfl rfl (by rw [List.length_append, wcells_len]; omega)) ?_ | refine d_fin0f 13 rfl (by kernel_rfl) (by kernel_rfl) (ef_storeP rfl rfl rfl (by rw [List.length_append, wcells_len]; omega)) ?_
        refine d_sub _ .nil ?_
        first | refine d_nilt (by kernel_rfl) ?_ | refine d_nilf (by kernel_rfl) ?_
        refine then_n ?_
        refine swp_seq ?_
        refine swp_ent (Split.ent' (K := [blk b 105 ((wcells ws ++ ex).set (m / 64) (wv (w ||| (1#64 <<< (m % 64))))), blk p 113 [.int .i64 (n : Nat), .slice (some ⟨b, 0, none⟩) ws.length cap]]) (by repeat (first | exact Split.nil | (apply Split.cons; (repeat (first | with_reducible exact Take.here | apply Take.there)))))) ?_
        rw [wcells_set hmi]
        refine swp_region ?_
        refine s_pu (pu_assign rfl) ?_
        refine swl_sub _ (.cons (t := 4) rfl .nil) ?_
        refine swl_nil ?_
        refine then_n ?_
        refine swp_ret ?_
        have hm17 : mem ws m = false := by
          have h : (decide ((0 : Int) ≤ m) && (decide ((m : Int) < n) && mem ws (m : Int).toNat)) = false := h17
          rw [decide_eq_true (by omega), decide_eq_true (by omega), Bool.true_and, Bool.true_and, Int.toNat_natCast] at h; exact h
        have hls : (ws.set (m / 64) (w ||| (1#64 <<< (m % 64)))).length = ws.length := List.length_set
        refine done_retE (opn p n (.slice (some ⟨b, 0, none⟩) ws.length cap) (ws.set (m / 64) (w ||| (1#64 <<< (m % 64))))) (.tmp rfl .nil) ⟨?_, _, hls, fun j => ?_, rfl⟩ ?_
        · rw [Int.toNat_natCast, decide_eq_true (show (0 : Int) ≤ m by omega), decide_eq_true (show (m : Int) < n by omega), hm17]; rfl
        · rw [mem_put hw, Int.toNat_natCast, decide_eq_true (show (0 : Int) ≤ m ∧ (m : Int) < n by omega), Bool.true_and]
        · have hc := wown_close (b := b) (cap := cap) (ws := ws.set (m / 64) (w ||| (1#64 <<< (m % 64)))) (ex := ex) (L := [blk p 113 [.int .i64 (n : Nat), .slice (some ⟨b, 0, none⟩) ws.length cap]]) (by omega) h2 (by rw [hls]; exact h4)
          rw [hls] at hc
          show Ent _ [blk p 113 [.int .i64 (n : Nat), .slice (some ⟨b, 0, none⟩) ws.length cap], own 105 1 (.slice (some ⟨b, 0, none⟩) ws.length cap) (ws.set (m / 64) (w ||| (1#64 <<< (m % 64)))).length (wcells (ws.set (m / 64) (w ||| (1#64 <<< (m % 64)))))]
          rw [hls]
          exact hc.trans Ent.swap

theorem drop_o (p n : Nat) (v : Value) (ws : List (BitVec 64)) (k : Int) (hl : ws.length = (n + 63) / 64) (hn : n ≤ 1048576) :
    Spec Tryd.prog 66 [.pointer (some ⟨p, 0, none⟩), .int .i64 k] (opn p n v ws) (fun r L => r = .bool (decide (0 ≤ k) && (decide (k < n) && mem ws k.toNat)) ∧ ∃ ws', ws'.length = ws.length ∧ (∀ j, mem ws' j = (mem ws j && !(decide (0 ≤ k ∧ k < n) && decide (j = k.toNat)))) ∧ L = opn p n v ws') := by
  refine Spec.of 22 Tryd.func66 rfl rfl rfl ?_
  refine swp_seq ?_
  refine swp_region ?_
  refine s_pu (pu_assign rfl) ?_
  refine swl_sub _ (.cons (t := 0) rfl (.cons (t := 1) rfl .nil)) ?_
  refine swl_nil ?_
  refine then_n ?_
  refine swp_seq ?_
  refine swp_seq ?_
  refine swp_region ?_
  refine s_pu (pu_move rfl) ?_
  refine s_pu (pu_move rfl) ?_
  refine s_ef (ef_fn (has_o p n v ws k hl hn) rfl rfl (by repeat (first | exact Split.nil | (apply Split.cons; (repeat (first | with_reducible exact Take.here | apply Take.there)))))) ?_
  rintro v1 L1 ⟨rfl, rfl⟩
  refine swl_app ?_
  refine s_pu (pu_not rfl) ?_
  refine swl_sub _ (.cons (t := 0) rfl (.cons (t := 1) rfl (.cons (t := 8) rfl .nil))) ?_
  refine swl_nil ?_
  refine then_n ?_
  refine swp_cond (b := _) rfl (fun h8 => ?_) (fun h8 => ?_)
  · skip   -- 8 T
    refine swp_seq ?_
    refine swp_region ?_
    refine s_pu (pu_assign rfl) ?_
    refine swl_sub _ (.cons (t := 4) rfl .nil) ?_
    refine swl_nil ?_
    refine then_n ?_
    refine swp_ret ?_
    refine then_r ?_
    have h8' := not_t h8
    exact done_ret (opn p n v ws) (.tmp rfl .nil) ⟨by rw [h8']; rfl, ws, rfl, fun j => by
      by_cases e : j = k.toNat
      · subst e
        by_cases hk : 0 ≤ k ∧ k < n
        · rw [decide_eq_true hk.1, decide_eq_true hk.2, Bool.true_and, Bool.true_and] at h8'; simp [h8']
        · simp [hk]
      · simp [e], rfl⟩ (by repeat (first | exact Split.nil | (apply Split.cons; (repeat (first | with_reducible exact Take.here | apply Take.there)))))
  · skip   -- 8 F
    refine swp_skip ?_
    refine then_n ?_
    refine swp_seq ?_
    have h8' := not_f h8
    simp only [Bool.and_eq_true, decide_eq_true_eq] at h8'
    obtain ⟨m, rfl⟩ : ∃ m : Nat, k = m := ⟨k.toNat, by omega⟩
    have hmi : m / 64 < ws.length := by omega
    obtain ⟨w, hw⟩ : ∃ w, ws[m / 64]? = some w := ⟨_, List.getElem?_eq_getElem hmi⟩
    refine swp_front (A := own 105 1 v ws.length (wcells ws)) (by repeat (first | with_reducible exact Take.here | apply Take.there)) ?_
    refine swp_own (fun h0 l0 _ => by omega) (fun b cap ex hv h1 h2 h3 h4 => ?_)
    subst hv
    refine swp_draw [3, 7] _ [] (by simp only [List.append_nil]; exact Ent.refl _) (by kernel_rfl) ?_
    refine d_pu 0 rfl (pu_move rfl) (by kernel_rfl) (by kernel_rfl) (by kernel_rfl) ?_
    first | refine d_pu 1 rfl (pu_nilCheck rfl) (by kernel_rfl) (by kernel_rfl) (by kernel_rfl) ?_ | refine d_pu 1 rfl (pu_nilCheck_fn rfl) (by kernel_rfl) (by kernel_rfl) (by kernel_rfl) ?_ | refine d_pu 1 rfl (pu_nilCheck_if rfl) (by kernel_rfl) (by kernel_rfl) (by kernel_rfl) ?_
    first | refine d_pu 2 rfl (pu_fieldAddr0 rfl) (by kernel_rfl) (by kernel_rfl) (by kernel_rfl) ?_ | refine d_pu 2 rfl (pu_fieldAddr rfl) (by kernel_rfl) (by kernel_rfl) (by kernel_rfl) ?_
    refine d_rd 3 rfl (rd_load rfl rfl) rfl (by kernel_rfl) (by kernel_rfl) (by kernel_rfl) ?_
    refine d_pu 4 rfl (pu_move rfl) (by kernel_rfl) (by kernel_rfl) (by kernel_rfl) ?_
    refine d_pu 5 rfl (pu_quo_as ((m / 64 : Nat) : Int) rfl rfl (by omega) (by omega) (by omega) (by omega)) (by kernel_rfl) (by kernel_rfl) (by kernel_rfl) ?_
    refine d_pu 6 rfl (pu_indexAddr (m / 64) rfl rfl (by omega) (by omega) (by omega)) (by kernel_rfl) (by kernel_rfl) (by kernel_rfl) ?_
    refine d_rd 7 rfl (rd_load rfl (wcells_get hw)) rfl (by kernel_rfl) (by kernel_rfl) (by kernel_rfl) ?_
    refine d_pu 8 rfl (pu_move rfl) (by kernel_rfl) (by kernel_rfl) (by kernel_rfl) ?_
    refine d_pu 9 rfl (pu_rem_as ((m % 64 : Nat) : Int) rfl rfl (by omega) (by omega) (by omega)) (by kernel_rfl) (by kernel_rfl) (by kernel_rfl) ?_
    refine d_pu 10 rfl (pu_shl_w (a := 1#64) (m % 64) rfl rfl (by omega)) (by kernel_rfl) (by kernel_rfl) (by kernel_rfl) ?_
    refine d_pu 11 rfl (pu_andNot_w (a := w) rfl rfl) (by kernel_rfl) (by kernel_rfl) (by kernel_rfl) ?_
    refine d_pu 12 rfl (pu_indexAddr (m / 64) rfl rfl (by omega) (by omega) (by omega)) (by kernel_rfl) (by kernel_rfl) (by kernel_rfl) ?_
    first | refine d_fin0t 13 rfl (by kernel_rfl) (by kernel_rfl) (ef_storeP rfl rfl rfl (by rw [List.length_append, wcells_len]; omega)) ?_ | refine d_fin0f 13 rfl (by kernel_rfl) (by kernel_rfl) (ef_storeP rfl rfl rfl (by rw [List.length_append, wcells_len]; omega)) ?_
    refine d_sub _ .nil ?_
    first | refine d_nilt (by kernel_rfl) ?_ | refine d_nilf (by kernel_rfl) ?_
    refine then_n ?_
    refine swp_seq ?_
    refine swp_ent (Split.ent' (K := [blk b 105 ((wcells ws ++ ex).set (m / 64) (wv (w &&& ~~~(1#64 <<< (m % 64))))), blk p 113 [.int .i64 (n : Nat), .slice (some ⟨b, 0, none⟩) ws.length cap]]) (by repeat (first | exact Split.nil | (apply Split.cons; (repeat (first | with_reducible exact Take.here | apply Take.there)))))) ?_
    rw [wcells_set hmi]
    refine swp_region ?_
    refine s_pu (pu_assign rfl) ?_
    refine swl_sub _ (.cons (t := 4) rfl .nil) ?_
    refine swl_nil ?_
    refine then_n ?_
    refine swp_ret ?_
    have hls : (ws.set (m / 64) (w &&& ~~~(1#64 <<< (m % 64)))).length = ws.length := List.length_set
    refine done_retE (opn p n (.slice (some ⟨b, 0, none⟩) ws.length cap) (ws.set (m / 64) (w &&& ~~~(1#64 <<< (m % 64))))) (.tmp rfl .nil) ⟨?_, _, hls, fun j => ?_, rfl⟩ ?_
    · rw [decide_eq_true h8'.1, decide_eq_true h8'.2.1, h8'.2.2]; rfl
    · rw [mem_drop hw, Int.toNat_natCast, decide_eq_true (show (0 : Int) ≤ m ∧ (m : Int) < n from ⟨h8'.1, h8'.2.1⟩), Bool.true_and]
    · have hc := wown_close (b := b) (cap := cap) (ws := ws.set (m / 64) (w &&& ~~~(1#64 <<< (m % 64)))) (ex := ex) (L := [blk p 113 [.int .i64 (n : Nat), .slice (some ⟨b, 0, none⟩) ws.length cap]]) (by omega) h2 (by rw [hls]; exact h4)
      rw [hls] at hc
      show Ent _ [blk p 113 [.int .i64 (n : Nat), .slice (some ⟨b, 0, none⟩) ws.length cap], own 105 1 (.slice (some ⟨b, 0, none⟩) ws.length cap) (ws.set (m / 64) (w &&& ~~~(1#64 <<< (m % 64)))).length (wcells (ws.set (m / 64) (w &&& ~~~(1#64 <<< (m % 64)))))]
      rw [hls]
      exact hc.trans Ent.swap
end SX
namespace SX
open Go Go.Proofs

abbrev opr (p n : Nat) (v : Value) (ws : List (BitVec 64)) (μ : PH) : List Assn := [blk p 113 [.int .i64 (n : Nat), v], own 105 1 v ws.length (wcells ws), ro μ]
def IsNext (S : Nat → Bool) (k r : Int) : Prop := (r = -1 ∧ ∀ j : Nat, k ≤ j → S j = false) ∨ ∃ j : Nat, r = j ∧ k ≤ j ∧ S j = true ∧ ∀ i : Nat, k ≤ i → i < j → S i = false
theorem mem_ge {ws : List (BitVec 64)} {k : Nat} (h : 64 * ws.length ≤ k) : mem ws k = false := by
  unfold mem
  rw [List.getD_eq_getElem?_getD, List.getElem?_eq_none (by omega)]
  simp
theorem w_ne {w : BitVec 64} (h : (!decide ((w.toNat : Int) = 0)) = true) : w ≠ 0#64 := fun e => by subst e; simp at h
theorem w_eq {w : BitVec 64} (h : (!decide ((w.toNat : Int) = 0)) = false) : w = 0#64 := by
  have := of_decide_eq_true (not_f h)
  exact BitVec.eq_of_toNat_eq (by simpa using this)

set_option maxHeartbeats 1000000 in
theorem next_o (μ : PH) (p n : Nat) (v : Value) (ws : List (BitVec 64)) (k : Int) (hT : RowAt μ 0 0 tabV) (hl : ws.length = (n + 63) / 64) (hn : n ≤ 1048576) (hS : ∀ j, n ≤ j → mem ws j = false) :
    Spec Tryd.prog 80 [.pointer (some ⟨p, 0, none⟩), .int .i64 k] (opr p n v ws μ) (fun r L => ∃ x, r = .int .i64 x ∧ IsNext (mem ws) k x ∧ L = opr p n v ws μ) := by
  obtain ⟨m, hm⟩ : ∃ m : Nat, max k 0 = m := ⟨(max k 0).toNat, by omega⟩
  refine Spec.of 52 Tryd.func80 rfl rfl rfl ?_
  refine swp_seq ?_
  refine swp_region ?_
  refine s_pu (pu_assign rfl) ?_
  refine swl_sub _ (.cons (t := 0) rfl (.cons (t := 1) rfl .nil)) ?_
  refine swl_nil ?_
  refine then_n ?_
  refine swp_seq ?_
  refine swp_region ?_
  refine s_pu (pu_move rfl) ?_
  refine s_pu (pu_max2 rfl rfl) ?_
  refine s_pu (pu_assign rfl) ?_
  refine swl_sub _ (.cons (t := 0) rfl (.cons (t := 1) rfl .nil)) ?_
  rw [hm]
  refine swl_nil ?_
  refine then_n ?_
  refine swp_seq ?_
  refine swp_seq ?_
  refine swp_region ?_
  refine s_pu (pu_move rfl) ?_
  refine s_pu (pu_move rfl) ?_
  refine s_ef (ef_fn (size_b p n v) rfl rfl (by repeat (first | exact Split.nil | (apply Split.cons; (repeat (first | with_reducible exact Take.here | apply Take.there)))))) ?_
  rintro v1 L1 ⟨rfl, rfl⟩
  refine swl_app ?_
  refine s_pu (pu_geq rfl rfl) ?_
  refine swl_sub _ (.cons (t := 0) rfl (.cons (t := 1) rfl (.cons (t := 12) rfl .nil))) ?_
  refine swl_nil ?_
  refine then_n ?_
  refine swp_cond (b := _) rfl (fun h12 => ?_) (fun h12 => ?_)
  · skip   -- 12 T
    refine swp_seq ?_
    refine swp_region ?_
    refine s_pu (pu_assign rfl) ?_
    refine swl_sub _ (.cons (t := 4) rfl .nil) ?_
    refine swl_nil ?_
    refine then_n ?_
    refine swp_ret ?_
    refine then_r ?_
    have h12' := of_decide_eq_true h12
    exact done_ret (opr p n v ws μ) (.tmp rfl .nil) ⟨-1, rfl, .inl ⟨rfl, fun j hj => hS j (by omega)⟩, rfl⟩ (by repeat (first | exact Split.nil | (apply Split.cons; (repeat (first | with_reducible exact Take.here | apply Take.there)))))
  · skip   -- 12 F
    refine swp_skip ?_
    refine then_n ?_
    refine swp_seq ?_
    have h12' := of_decide_eq_false h12
    have hmi : m / 64 < ws.length := by omega
    obtain ⟨w0, hw0⟩ : ∃ w, ws[m / 64]? = some w := ⟨_, List.getElem?_eq_getElem hmi⟩
    refine swp_front (A := own 105 1 v ws.length (wcells ws)) (by repeat (first | with_reducible exact Take.here | apply Take.there)) ?_
    refine swp_own (fun h0 l0 _ => by omega) (fun b cap ex hv h1 h2 h3 h4 => ?_)
    subst hv
    refine swp_draw [5, 9] _ [] (by simp only [List.append_nil]; exact Ent.refl _) (by kernel_rfl) ?_
    refine d_pu 0 rfl (pu_move rfl) (by kernel_rfl) (by kernel_rfl) (by kernel_rfl) ?_
    refine d_pu 1 rfl (pu_quo_as ((m / 64 : Nat) : Int) rfl rfl (by omega) (by omega) (by omega) (by omega)) (by kernel_rfl) (by kernel_rfl) (by kernel_rfl) ?_
    refine d_pu 2 rfl (pu_move rfl) (by kernel_rfl) (by kernel_rfl) (by kernel_rfl) ?_
    first | refine d_pu 3 rfl (pu_nilCheck rfl) (by kernel_rfl) (by kernel_rfl) (by kernel_rfl) ?_ | refine d_pu 3 rfl (pu_nilCheck_fn rfl) (by kernel_rfl) (by kernel_rfl) (by kernel_rfl) ?_ | refine d_pu 3 rfl (pu_nilCheck_if rfl) (by kernel_rfl) (by kernel_rfl) (by kernel_rfl) ?_
    first | refine d_pu 4 rfl (pu_fieldAddr0 rfl) (by kernel_rfl) (by kernel_rfl) (by kernel_rfl) ?_ | refine d_pu 4 rfl (pu_fieldAddr rfl) (by kernel_rfl) (by kernel_rfl) (by kernel_rfl) ?_
    refine d_rd 5 rfl (rd_load rfl rfl) rfl (by kernel_rfl) (by kernel_rfl) (by kernel_rfl) ?_
    refine d_pu 6 rfl (pu_move rfl) (by kernel_rfl) (by kernel_rfl) (by kernel_rfl) ?_
    refine d_pu 7 rfl (pu_quo_as ((m / 64 : Nat) : Int) rfl rfl (by omega) (by omega) (by omega) (by omega)) (by kernel_rfl) (by kernel_rfl) (by kernel_rfl) ?_
    refine d_pu 8 rfl (pu_indexAddr (m / 64) rfl rfl (by omega) (by omega) (by omega)) (by kernel_rfl) (by kernel_rfl) (by kernel_rfl) ?_
    refine d_rd 9 rfl (rd_load rfl (wcells_get hw0)) rfl (by kernel_rfl) (by kernel_rfl) (by kernel_rfl) ?_
    refine d_pu 10 rfl (pu_move rfl) (by kernel_rfl) (by kernel_rfl) (by kernel_rfl) ?_
    refine d_pu 11 rfl (pu_rem_as ((m % 64 : Nat) : Int) rfl rfl (by omega) (by omega) (by omega)) (by kernel_rfl) (by kernel_rfl) (by kernel_rfl) ?_
    refine d_pu 12 rfl (pu_shr_w (a := w0) (m % 64) rfl rfl (by omega)) (by kernel_rfl) (by kernel_rfl) (by kernel_rfl) ?_
    refine d_pu 13 rfl (pu_move rfl) (by kernel_rfl) (by kernel_rfl) (by kernel_rfl) ?_
    refine d_pu 14 rfl (pu_rem_as ((m % 64 : Nat) : Int) rfl rfl (by omega) (by omega) (by omega)) (by kernel_rfl) (by kernel_rfl) (by kernel_rfl) ?_
    refine d_pu 15 rfl (pu_shl_w (a := w0 >>> (m % 64)) (m % 64) rfl rfl (by omega)) (by kernel_rfl) (by kernel_rfl) (by kernel_rfl) ?_
    refine d_pu 16 rfl (pu_assign rfl) (by kernel_rfl) (by kernel_rfl) (by kernel_rfl) ?_
    refine d_pu 17 rfl (pu_assign rfl) (by kernel_rfl) (by kernel_rfl) (by kernel_rfl) ?_
    refine d_sub _ (.cons (t := 0) rfl (.cons (t := 5) rfl (.cons (t := 6) rfl .nil))) ?_
    first | refine d_nilt (by kernel_rfl) ?_ | refine d_nilf (by kernel_rfl) ?_
    refine then_n ?_
    refine swp_block ?_
    refine swp_loop (ι := Nat × BitVec 64) (fun x env L => env = [(0, .pointer (some ⟨p, 0, none⟩)), (5, .int .i64 (x.1 : Nat)), (6, wv x.2)] ∧ L = [blk b 105 (wcells ws ++ ex), blk p 113 [.int .i64 (n : Nat), .slice (some ⟨b, 0, none⟩) ws.length cap], ro μ] ∧
      m / 64 ≤ x.1 ∧ x.1 < ws.length ∧ (∀ j, m ≤ j → j < 64 * x.1 → mem ws j = false) ∧ (∀ r, r < 64 → x.2.getLsbD r = (mem ws (64 * x.1 + r) && decide (m ≤ 64 * x.1 + r)))) (fun x => ws.length - x.1) (m / 64, (w0 >>> (m % 64)) <<< (m % 64)) ⟨rfl, rfl, Nat.le_refl _, hmi, fun j h1 h2 => by simp only at h2; omega, fun r hr => ?_⟩ ?_
    · show ((w0 >>> (m % 64)) <<< (m % 64)).getLsbD r = _
      rw [BitVec.getLsbD_shiftLeft, BitVec.getLsbD_ushiftRight, mem_at hw0 (k := 64 * (m / 64) + r) (by omega)]
      have e1 : (64 * (m / 64) + r) % 64 = r := by omega
      rw [e1]
      by_cases hrs : r < m % 64
      · have : ¬ m ≤ 64 * (m / 64) + r := by omega
        simp [hrs, this]
      · have : m ≤ 64 * (m / 64) + r := by omega
        have e2 : m % 64 + (r - m % 64) = r := by omega
        simp [hrs, this, hr, e2]
    rintro ⟨i, w⟩ env L ⟨rfl, rfl, him, hi, hlo, hbits⟩
    simp only [] at him hi hlo hbits
    dsimp only
    refine swp_seq ?_
    refine swp_block ?_
    refine swp_seq ?_
    refine swp_seq ?_
    refine swp_region ?_
    refine s_pu (pu_move rfl) ?_
    refine s_pu (pu_neq rfl rfl) ?_
    refine swl_sub _ (.cons (t := 0) rfl (.cons (t := 5) rfl (.cons (t := 6) rfl (.cons (t := 37) rfl .nil)))) ?_
    refine swl_nil ?_
    refine then_n ?_
    refine swp_cond (b := _) rfl (fun h37 => ?_) (fun h37 => ?_)
    · skip   -- 37 T
      have hw := w_ne h37
      obtain ⟨hc1, hc2, hc3⟩ := ctz_spec hw
      refine swp_seq ?_
      refine swp_region ?_
      refine s_pu (pu_move rfl) ?_
      refine s_pu (pu_mul_as ((64 * i : Nat) : Int) rfl rfl (by omega) (by omega) (by omega)) ?_
      refine s_pu (pu_move rfl) ?_
      refine s_ef (ef_fn (tz_spec μ w hT hw) rfl rfl (by repeat (first | exact Split.nil | (apply Split.cons; (repeat (first | with_reducible exact Take.here | apply Take.there)))))) ?_
      rintro v1 L1 ⟨rfl, rfl⟩
      refine swl_app ?_
      refine s_pu (pu_add_as ((64 * i + ctz w : Nat) : Int) rfl rfl (by omega) (by omega) (by omega)) ?_
      refine s_pu (pu_assign rfl) ?_
      refine swl_sub _ (.cons (t := 4) rfl .nil) ?_
      refine swl_nil ?_
      refine then_n ?_
      refine swp_ret ?_
      refine then_r ?_
      refine block_r ?_
      refine then_r ?_
      refine then_r ?_
      refine block_r ?_
      have hb := hbits _ hc1
      rw [hc2] at hb
      have hb1 := (Bool.and_eq_true_iff.1 hb.symm)
      have hb2 := of_decide_eq_true hb1.2
      refine done_retE (opr p n _ ws μ) (.tmp rfl .nil) ⟨_, rfl, .inr ⟨64 * i + ctz w, rfl, by omega, hb1.1, fun j h1 h2 => ?_⟩, rfl⟩
        ((Split.ent' (K := [blk b 105 (wcells ws ++ ex), blk p 113 [.int .i64 (n : Nat), .slice (some ⟨b, 0, none⟩) ws.length cap], ro μ]) (by repeat (first | exact Split.nil | (apply Split.cons; (repeat (first | with_reducible exact Take.here | apply Take.there)))))).trans ((wown_close h1 h2 h4).trans Ent.swap))
      rcases Nat.lt_or_ge j (64 * i) with h | h
      · exact hlo j (by omega) h
      · have hj := hbits (j - 64 * i) (by omega)
        rw [hc3 _ (by omega), show 64 * i + (j - 64 * i) = j by omega, decide_eq_true (show m ≤ j by omega), Bool.and_true] at hj
        exact hj.symm
    · skip   -- 37 F
      have hw := w_eq h37
      have hlo2 : ∀ j, m ≤ j → j < 64 * (i + 1) → mem ws j = false := fun j h1 h2 => by
        rcases Nat.lt_or_ge j (64 * i) with h | h
        · exact hlo j h1 h
        · have hj := hbits (j - 64 * i) (by omega)
          rw [hw, show 64 * i + (j - 64 * i) = j by omega, decide_eq_true h1, Bool.and_true] at hj
          rw [← hj]; simp
      refine swp_skip ?_
      refine then_n ?_
      refine swp_seq ?_
      refine swp_region ?_
      refine s_pu (pu_move rfl) ?_
      refine s_pu (pu_add_as ((i + 1 : Nat) : Int) rfl rfl (by omega) (by omega) (by omega)) ?_
      refine s_pu (pu_assign rfl) ?_
      refine swl_sub _ (.cons (t := 0) rfl (.cons (t := 5) rfl .nil)) ?_
      refine swl_nil ?_
      refine then_n ?_
      refine swp_seq ?_
      refine swp_region ?_
      refine s_pu (pu_move rfl) ?_
      refine s_pu (pu_move rfl) ?_
      first | refine s_pu (pu_nilCheck rfl) ?_ | refine s_pu (pu_nilCheck_fn rfl) ?_ | refine s_pu (pu_nilCheck_if rfl) ?_
      first | refine s_pu (pu_fieldAddr0 rfl) ?_ | refine s_pu (pu_fieldAddr rfl) ?_
      refine s_rd (rd_load rfl rfl) ?_
      refine s_pu (pu_len rfl) ?_
      refine s_pu (pu_eql rfl rfl) ?_
      refine swl_sub _ (.cons (t := 0) rfl (.cons (t := 5) rfl (.cons (t := 51) rfl .nil))) ?_
      refine swl_nil ?_
      refine then_n ?_
      refine swp_cond (b := _) rfl (fun h51 => ?_) (fun h51 => ?_)
      · skip   -- 51 T
        refine swp_seq ?_
        refine swp_region ?_
        refine s_pu (pu_assign rfl) ?_
        refine swl_sub _ (.cons (t := 4) rfl .nil) ?_
        refine swl_nil ?_
        refine then_n ?_
        refine swp_ret ?_
        refine block_r ?_
        refine then_r ?_
        refine then_r ?_
        refine block_r ?_
        have h51' := of_decide_eq_true h51
        exact done_retE (opr p n _ ws μ) (.tmp rfl .nil) ⟨_, rfl, .inl ⟨rfl, fun j hj => by
            rcases Nat.lt_or_ge j (64 * (i + 1)) with h | h
            · exact hlo2 j (by omega) h
            · exact mem_ge (by omega)⟩, rfl⟩
          ((Split.ent' (K := [blk b 105 (wcells ws ++ ex), blk p 113 [.int .i64 (n : Nat), .slice (some ⟨b, 0, none⟩) ws.length cap], ro μ]) (by repeat (first | exact Split.nil | (apply Split.cons; (repeat (first | with_reducible exact Take.here | apply Take.there)))))).trans ((wown_close h1 h2 h4).trans Ent.swap))
      · skip   -- 51 F
        have h51' := of_decide_eq_false h51
        have hi1 : i + 1 < ws.length := by omega
        obtain ⟨w1, hw1⟩ : ∃ w, ws[i + 1]? = some w := ⟨_, List.getElem?_eq_getElem hi1⟩
        refine swp_skip ?_
        refine block_n ?_
        refine then_n ?_
        refine swp_region ?_
        refine s_pu (pu_move rfl) ?_
        first | refine s_pu (pu_nilCheck rfl) ?_ | refine s_pu (pu_nilCheck_fn rfl) ?_ | refine s_pu (pu_nilCheck_if rfl) ?_
        first | refine s_pu (pu_fieldAddr0 rfl) ?_ | refine s_pu (pu_fieldAddr rfl) ?_
        refine s_rd (rd_load rfl rfl) ?_
        refine s_pu (pu_move rfl) ?_
        refine s_pu (pu_indexAddr (i + 1) rfl rfl (by omega) (by omega) (by omega)) ?_
        refine s_rd (rd_load rfl (wcells_get hw1)) ?_
        refine s_pu (pu_assign rfl) ?_
        refine swl_sub _ (.cons (t := 0) rfl (.cons (t := 5) rfl (.cons (t := 6) rfl .nil))) ?_
        refine swl_nil ?_
        refine then_n ⟨(i + 1, w1), ⟨rfl, rfl, by show m / 64 ≤ i + 1; omega, hi1, hlo2, fun r hr => ?_⟩, by show ws.length - (i + 1) < ws.length - i; omega⟩
        show w1.getLsbD r = (mem ws (64 * (i + 1) + r) && decide (m ≤ 64 * (i + 1) + r))
        rw [mem_at hw1 (k := 64 * (i + 1) + r) (by omega), show (64 * (i + 1) + r) % 64 = r by omega]
        have hmle : m ≤ 64 * (i + 1) + r := by
          rcases Nat.lt_or_ge (64 * (i + 1) + r) m with h | h
          · exact absurd h (by omega)
          · exact h
        rw [decide_eq_true hmle, Bool.and_true]
end SX
