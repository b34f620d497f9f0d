/- A law that only reads what came in: the row's last step, and how arguments read. -/
import Derived.Test.YtplekpdckcidjaaSxRo
import Derived.Carry
import Derived.OpenShut
import Derived.ProofKit
namespace SX
open Go Go.RowKit Go.WideShapes Go.ChangeShapes

section
variable {H0 : Type} {enc : TypeId × Value → H0} {P : Program}
theorem stays_all (hl : laidOutB P = true) {W W' : World} (hb : Below W.heap.size W W') {sp : Nat → Bool} : ∀ {ts : List TypeId} {vs : List Value} {ds : List (DataW H0)} {ps : List MemPlace},
    (ts.all fun t => P.readableRec t && decide (t < P.types.size)) = true → DataW.TrodAll enc P W 0 (fun _ => true) true ts vs ds ps → (∀ x ∈ ps, x.block < W.heap.size) → (∀ x ∈ ps, sp x.block = true) → DataW.TrodAll enc P W' 0 sp true ts vs ds ps
  | [], [], [], _, _, h, _, _ => h
  | t :: ts, _ :: _, _ :: _, _, hT, ⟨p, q, h1, h2, e⟩, hlt, hs => by
    simp only [List.all_cons, Bool.and_eq_true, decide_eq_true_eq] at hT
    obtain ⟨⟨r1, r2⟩, r3⟩ := hT
    refine ⟨p, q, WideElems.Trod_stays hl r1 r2 h1 (fun x hx => hb.same (hlt x (by rw [e]; exact List.mem_append_left _ hx))) (fun x hx => hs x (by rw [e]; exact List.mem_append_left _ hx)), ?_, e⟩
    exact stays_all hl hb (by simpa using r3) h2 (fun x hx => hlt x (by rw [e]; exact List.mem_append_right _ hx)) (fun x hx => hs x (by rw [e]; exact List.mem_append_right _ hx))

/-- true, and the arguments as they were -/
theorem law_post {f : Func} {s : ChangeSpec} {apart fresh handsOn again : Bool} {tb : TypeId} {W W' : World} {args : Array Value} {ds : List (DataW H0)} {before : List MemPlace}
    (hl : laidOutB P = true) (hpar : (f.params.toList.all fun t => P.readableRec t && decide (t < P.types.size)) = true) (hv : s.vars = []) (hrt : f.resultTypes = #[tb]) (htb : P.underlying tb = some .bool)
    (hW : DataW.Whole enc P f.params.toList s.vars apart W args.toList ds [] before) (hb : Below W.heap.size W W')
    (hfn : s.fn H0 (ds ++ []) = { results := [.lit (.bool true)], args := ds }) : s.post enc P f apart fresh handsOn again W args (.bool true) W' := by
  have hW' := hW
  obtain ⟨p, q, hA, hV, hpq, hfz, hnd⟩ := hW
  rw [hv] at hV
  obtain ⟨_, rfl⟩ := trodVars_none hV
  have lt : ∀ x ∈ p, x.block < W.heap.size := fun x hx => hW'.lt x (by rw [hpq]; exact List.mem_append_left _ hx)
  refine post_old (pa := p) (pv := []) hb hpq hW' (fun b sp hd => ?_) (fun sp hsp => ?_) (fun sp hsp => ?_) (ok_one hrt rfl (okWide_bool_mk htb true))
  · rw [hfn, hrt]; exact trodAll_cons_mk (shut_bool htb _) trodAll_mk0
  · rw [hfn]; exact stays_all hl hb hpar hA lt (fun x hx => hsp x (by rw [hpq]; exact List.mem_append_left _ hx))
  · rw [hfn, hv]; rfl
end

/-! ### How arguments read -/
def icsk (k : IntKind) (n : Int) : List Value := [.int k n]
theorem icsk_len (k : IntKind) (n : Int) : (icsk k n).length = 1 := rfl
theorem spot_of_cell {w : World} {a : Addr} {v : Value} (h : w.cell? a = some v) : a = ⟨a.block, a.off, none⟩ ∧ CellAt (fun b => w.heap[b]?) a.block a.off v := by
  obtain ⟨b, o, s⟩ := a
  unfold World.cell? at h
  simp only at h
  split at h
  · rename_i cs t fr hh
    cases s with
    | none => exact ⟨rfl, cs, t, fr, hh, by simpa using h⟩
    | some s => simp at h
  · cases h
section
variable {H0 : Type} {enc : TypeId × Value → H0} {P : Program} {W : World} {base : Nat}
/-- a slice of integers -/
theorem arg_ints {t e : TypeId} {k : IntKind} {v : Value} {d : DataW H0} {ps : List MemPlace} {r : Reach} {b0 : Nat} (ht : P.underlying t = some (.slice e)) (he : P.underlying e = some (.int k)) (hc : P.cellsOf e = 1)
    (hv : Value.okWide P W r b0 t v) (h : DataW.Trod enc P W 0 (fun _ => true) true t v d ps) :
    ∃ xs : List Int, Row (fun b => W.heap[b]?) v 1 xs.length (xs.flatMap (icsk k)) ∧ (∀ x ∈ xs, (Lit.int k x).wf = true) ∧ ((d = .nil ∧ xs = []) ∨ ∃ spare, d = .slice (lits k xs) spare) := by
  obtain ⟨a0, len, cap, rfl⟩ := okWide_slice ht hv
  obtain ⟨fuel, hf⟩ := h
  rcases open_ints ht he hc hf with ⟨hcs, hx⟩ | ⟨a, len', cap', zs, hcs, _, hl, hm, hz, hx, hcell, hwz⟩
  · simp only [Value.cells, List.cons.injEq, Value.slice.injEq, and_true] at hcs
    obtain ⟨rfl, rfl, rfl⟩ := hcs
    cases hx
    exact ⟨[], Row.nil _ _, by simp, .inl ⟨rfl, rfl⟩⟩
  · simp only [Value.cells, List.cons.injEq, Value.slice.injEq, and_true] at hcs
    obtain ⟨rfl, rfl, rfl⟩ := hcs
    simp only [if_true] at hz
    have hlen : (zs.take len).length = len := by rw [List.length_take]; omega
    refine ⟨zs.take len, ?_, fun x hx' => hwz x (List.mem_of_mem_take hx'), .inr ⟨lits k (zs.drop len), by cases hx; rfl⟩⟩
    rw [hlen]
    refine ⟨by rw [flat_length (icsk_len k), hlen], some a, cap, rfl, hl, hm, fun h => (by cases h), fun hpos => ?_⟩
    have h0 := hcell 0 (by omega)
    rw [show a.add 0 = a by simp [Addr.add]] at h0
    have ha := (spot_of_cell h0).1
    refine ⟨a.block, a.off, by rw [← ha], fun j u hj => ?_⟩
    have hj' : j < len := by
      have := (List.getElem?_eq_some_iff.1 hj).1
      rw [flat_length (icsk_len k), hlen] at this; omega
    obtain ⟨z, hzj⟩ : ∃ z, (zs.take len)[j]? = some z := ⟨_, List.getElem?_eq_getElem (by omega)⟩
    have hu := flat_get (icsk_len k) (zs.take len) [] j z hzj 0 (.int k z) rfl
    rw [List.append_nil, Nat.mul_one, Nat.add_zero] at hu
    rw [hu] at hj
    cases hj
    have hc2 := (spot_of_cell (hcell j (by omega))).2
    rw [addr_block, addr_off] at hc2
    have : zs.getD j 0 = z := by
      rw [List.getElem?_take, if_pos hj'] at hzj
      simp [List.getD, hzj]
    rw [this] at hc2
    exact hc2
end
end SX
