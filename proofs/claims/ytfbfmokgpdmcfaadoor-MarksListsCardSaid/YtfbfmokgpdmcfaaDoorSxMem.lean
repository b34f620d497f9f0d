/- Operations on memory. -/
import Derived.Test.YtfbfmokgpdmcfaaDoorSxOps
import Derived.Maps.AppendAt
namespace SX
open Go

theorem run_isAgg {P : Program} {t : TypeId} {x : Bool} (h : (P.underlying t).map aggD = some x) (w : World) : (isAgg t).run P w = .ok x w := by
  cases hd : P.underlying t with
  | none => simp [hd] at h
  | some d =>
    simp [hd] at h
    subst h
    unfold isAgg
    rw [Sem.run_bind, run_underlying hd w]
    cases d <;> rfl
theorem run_sizeOf {P : Program} {t : TypeId} {n : Nat} (h : (P.info? t).map (·.size) = some n) (w : World) : (Go.sizeOf t).run P w = .ok n w := by
  cases hi : P.info? t with
  | none => simp [hi] at h
  | some i => simp [hi] at h; simp [Go.sizeOf, typeInfo, hi, h]

section
variable {P : Program} {env : Env} {L : List Assn}

/-- what a variable's load gives -/
def Ld (P : Program) (L : List Assn) (t : TypeId) (ad : Addr) (v : Value) : Prop := ∀ E w, H E w L → (loadVar t ad).run P w = .ok v w
theorem rd_of_ld {t : TypeId} {x : Operand} {ad : Addr} {v : Value} (hx : evalE env x = some (.pointer (some ad))) (h : Ld P L t ad v) : Rd P env L (.load t x) v := by
  intro ρ hρ dst tt pos af g E w hh
  simp [execOp, hρ x _ hx, Instr.loadAt, Instr.sureAddr, h E w hh]
theorem ld_one {t : TypeId} [ht : TOne P t] {b i ty : Nat} {cs : List Value} {v : Value} [hb : InB b L ty cs] (hv : cs[i]? = some v) : Ld P L t ⟨b, i, none⟩ v := by
  intro E w hh
  obtain ⟨L', tk⟩ := hb.ok
  have hc := hh.cell tk i
  rw [hv] at hc
  have ha := run_isAgg ht.und w
  simp [loadVar, ha, hc]

/-- a load of one cell out of a block that is known whole -/
theorem rd_load {t : TypeId} [ht : TOne P t] {x : Operand} {b i ty : Nat} {cs : List Value} {v : Value} (hx : evalE env x = some (.pointer (some ⟨b, i, none⟩))) [hb : InB b L ty cs] (hv : cs[i]? = some v) : Rd P env L (.load t x) v := by
  exact rd_of_ld hx (ld_one hv)

theorem run_loadRow (w : World) (b i ty : Nat) (cs : List Value) (fr : Nat × Nat) (vs : List Value) (hb : w.heap[b]? = some (.cells cs.toArray ty fr)) (hvs : ∀ j v, vs[j]? = some v → cs[i + j]? = some v) : (loadCells ⟨b, i, none⟩ vs.length).run P w = .ok vs.toArray w :=
  run_loadCells_list (P := P) w ⟨b, i, none⟩ vs (fun j v hv => by
    rw [addr_add, cell_of_row w b (i + j) cs.toArray ty fr hb]
    simpa using hvs j v hv)

theorem ld_agg {t n : Nat} [ht : TAgg P t n] {b i ty : Nat} {cs vs : List Value} [hb : InB b L ty cs] (hl : vs.length = n) (hv : ∀ j v, vs[j]? = some v → cs[i + j]? = some v) : Ld P L t ⟨b, i, none⟩ (.agg vs.toArray) := by
  intro E w hh
  obtain ⟨L', tk⟩ := hb.ok
  have ha := run_isAgg ht.und w
  have hr := run_loadRow (P := P) w b i ty cs (0, 0) vs (hh.one_get tk) hv
  rw [hl] at hr
  simp [loadVar, ha, run_sizeOf ht.inf, hr]
theorem ld_whole {t n : Nat} [ht : TAgg P t n] {b ty : Nat} {cs : List Value} [hb : InB b L ty cs] (hl : cs.length = n) : Ld P L t ⟨b, 0, none⟩ (.agg cs.toArray) := ld_agg hl (fun j v h => by simpa using h)
/-- a load of an aggregate -/
theorem rd_loadA {t n : Nat} [ht : TAgg P t n] {x : Operand} {b i ty : Nat} {cs vs : List Value} (hx : evalE env x = some (.pointer (some ⟨b, i, none⟩))) [hb : InB b L ty cs] (hl : vs.length = n) (hv : ∀ j v, vs[j]? = some v → cs[i + j]? = some v) : Rd P env L (.load t x) (.agg vs.toArray) := by
  exact rd_of_ld hx (ld_agg hl hv)
/-- .. of a whole block -/
theorem rd_loadW {t n : Nat} [ht : TAgg P t n] {x : Operand} {b ty : Nat} {cs : List Value} (hx : evalE env x = some (.pointer (some ⟨b, 0, none⟩))) [hb : InB b L ty cs] (hl : cs.length = n) : Rd P env L (.load t x) (.agg cs.toArray) :=
  rd_loadA hx hl (fun j v h => by simpa using h)
/-- .. of cells of a block whose cells are written out -/
theorem rd_loadX {t n : Nat} [ht : TAgg P t n] {x : Operand} {b i ty : Nat} {cs vs : List Value} (hx : evalE env x = some (.pointer (some ⟨b, i, none⟩))) [hb : InB b L ty cs] (hv : (cs.drop i).take n = vs) (hl : vs.length = n) : Rd P env L (.load t x) (.agg vs.toArray) :=
  rd_loadA hx hl (fun j v h => by
    rw [← hv, List.getElem?_take] at h
    split at h
    · rwa [List.getElem?_drop] at h
    · cases h)

theorem run_store_in {w : World} {b i ty : Nat} {cs : List Value} {v u : Value} (hb : w.heap[b]? = some (.cells cs.toArray ty (0, 0))) (hi : cs[i]? = some u) (hv : v.oneCell' = true) : (store ⟨b, i, none⟩ v).run P w = .ok () (w.setCell ⟨b, i, none⟩ v) := by
  rw [run_store P w _ v _ hv]
  have hc : w.cell? ⟨b, i, none⟩ = some u := by rw [cell_of_row w b i _ _ _ hb]; simpa using hi
  have hf : w.frozen? ⟨b, i, none⟩ = false := by simp [World.frozen?, hb]
  simp [hc, hf]

/-- cs with v at i, worked out where cs is written out -/
class SetL (cs : List Value) (i : Nat) (v : Value) (cs' : outParam (List Value)) : Prop where
  ok : cs.set i v = cs' ∧ i < cs.length
instance SetL.zero {c v : Value} {cs : List Value} : SetL (c :: cs) 0 v (v :: cs) := ⟨rfl, by simp⟩
instance SetL.succ {c v : Value} {cs cs' : List Value} {i : Nat} [h : SetL cs i v cs'] : SetL (c :: cs) (i + 1) v (c :: cs') := ⟨by rw [List.set_cons_succ, h.ok.1], by simpa using h.ok.2⟩
/-- a store of one cell -/
theorem ef_storeP {t : TypeId} [ht : TOne P t] {x y : Operand} {b i ty : Nat} {cs : List Value} {F : List Value → List Assn} {v : Value} (hx : evalE env x = some (.pointer (some ⟨b, i, none⟩))) (hy : evalE env y = some v) (hv : v.oneCell' = true) [hb : SetB b L ty cs F] (hi : i < cs.length) : Ef P env L (.store t x y) (fun k => k undef (F (cs.set i v))) := by
  intro ro dst tt pos af g N E a w next Q k hf hh hk hn
  have hblk := hb.inB hh
  have hcs : cs[i]? = some cs[i] := List.getElem?_eq_getElem hi
  have hst := run_store_in (P := P) hblk hcs hv
  have hcl : v.cells = #[v] := by cases v <;> simp_all [Value.cells, Value.oneCell']
  have hsz := run_sizeOf ht.inf
  have hrun : (execOp a.eval ⟨dst, .store t x y, tt, pos, af, g⟩).run P w = .ok .skip (w.setCell ⟨b, i, none⟩ v) := by
    simp [execOp, hf.ev x _ hx, hf.ev y _ hy, Instr.storeAt, Instr.sureAddr, storeVar, hcl, hsz, storeCells, addr_add, hst]
  exact wpIn_skip_op hrun (hn undef _ _ hk (hh.setCell v (hb.ok _)))

theorem ef_store {t : TypeId} [ht : TOne P t] {x y : Operand} {b i ty : Nat} {cs cs' : List Value} {F : List Value → List Assn} {v : Value} (hx : evalE env x = some (.pointer (some ⟨b, i, none⟩))) (hy : evalE env y = some v) (hv : v.oneCell' = true) [hb : SetB b L ty cs F] [hs : SetL cs i v cs'] : Ef P env L (.store t x y) (fun k => k undef (F cs')) := by
  have := ef_storeP (P := P) (t := t) hx hy hv (hb := hb) hs.ok.2
  rwa [hs.ok.1] at this

/-- cells put over a list's, from i on -/
def over (cs vs : List Value) (i : Nat) : List Value := cs.take i ++ vs ++ cs.drop (i + vs.length)

/-- over, worked out where the list is written out -/
class OverL (cs vs : List Value) (i : Nat) (cs' : outParam (List Value)) : Prop where
  ok : over cs vs i = cs' ∧ i + vs.length ≤ cs.length
instance OverL.nil {cs : List Value} : OverL cs [] 0 cs := ⟨by simp [over], by simp⟩
instance OverL.zero {c v : Value} {cs vs cs' : List Value} [h : OverL cs vs 0 cs'] : OverL (c :: cs) (v :: vs) 0 (v :: cs') := ⟨by
  have := h.ok.1
  simp only [over, Nat.zero_add, List.take_zero, List.nil_append, List.length_cons, List.drop_succ_cons] at this ⊢
  rw [List.cons_append, this], by have := h.ok.2; simp at this ⊢; omega⟩
instance OverL.succ {c : Value} {cs vs cs' : List Value} {i : Nat} [h : OverL cs vs i cs'] : OverL (c :: cs) vs (i + 1) (c :: cs') := ⟨by
  have := h.ok.1
  simp only [over] at this ⊢
  rw [List.take_succ_cons, show i + 1 + vs.length = (i + vs.length) + 1 by omega, List.drop_succ_cons, List.cons_append, List.cons_append, this], by have := h.ok.2; simp at this ⊢; omega⟩
/-- a store of an aggregate -/
theorem ef_storeAP {t n : Nat} [ht : TAgg P t n] {x y : Operand} {b i ty : Nat} {cs vs : List Value} {F : List Value → List Assn} (hx : evalE env x = some (.pointer (some ⟨b, i, none⟩))) (hy : evalE env y = some (.agg vs.toArray)) (hv : vs.all Value.oneCell' = true) (hl : vs.length = n) [hb : SetB b L ty cs F] (hi : i + n ≤ cs.length) : Ef P env L (.store t x y) (fun k => k undef (F (over cs vs i))) := by
  intro ro dst tt pos af g N E a w next Q k hf hh hk hn
  have hblk := hb.inB hh
  have hst := run_storeCells_at P b i ty vs 0 cs.toArray w hblk (by simp; omega) (by simpa using hv)
  have hsz := run_sizeOf ht.inf
  simp only [Nat.add_zero] at hst
  have hrun : (execOp a.eval ⟨dst, .store t x y, tt, pos, af, g⟩).run P w = .ok .skip (w.setRow b (over cs vs i).toArray) := by
    simp [execOp, hf.ev x _ hx, hf.ev y _ hy, Instr.storeAt, Instr.sureAddr, storeVar, Value.cells, hl, hsz, hst, over]
  refine wpIn_skip_op hrun (hn undef _ _ hk (hh.upd (b := b) (o := .cells cs.toArray ty (0, 0)) (o' := .cells (over cs vs i).toArray ty (0, 0)) (hb.ok _) _ rfl rfl rfl ?_ ?_ ?_))
  · simp [World.setRow]
  · simp [World.setRow, Array.getElem?_modify, hblk]
  · intro j hj
    simp only [World.setRow, Array.getElem?_modify]
    rw [if_neg (by omega)]

theorem ef_storeAs {t n : Nat} [ht : TAgg P t n] {x y : Operand} {b i ty : Nat} {cs cs' vs : List Value} {F : List Value → List Assn} (hx : evalE env x = some (.pointer (some ⟨b, i, none⟩))) (hy : evalE env y = some (.agg vs.toArray)) [hb : SetB b L ty cs F] (he : over cs vs i = cs') (hi : i + vs.length ≤ cs.length) (hl : vs.length = n) (hv : vs.all Value.oneCell' = true) : Ef P env L (.store t x y) (fun k => k undef (F cs')) := by
  have := ef_storeAP (P := P) (t := t) hx hy hv hl (hb := hb) (by rw [← hl]; exact hi)
  rwa [he] at this
theorem ef_storeA {t n : Nat} [ht : TAgg P t n] {x y : Operand} {b i ty : Nat} {cs vs cs' : List Value} {F : List Value → List Assn} (hx : evalE env x = some (.pointer (some ⟨b, i, none⟩))) (hy : evalE env y = some (.agg vs.toArray)) (hv : vs.all Value.oneCell' = true) (hl : vs.length = n) [hb : SetB b L ty cs F] [hs : OverL cs vs i cs'] : Ef P env L (.store t x y) (fun k => k undef (F cs')) := by
  have := ef_storeAP (P := P) (t := t) hx hy hv hl (hb := hb) (by rw [← hl]; exact hs.ok.2)
  rwa [hs.ok.1] at this

theorem ef_new_of {op : Op} {o : Obj} {f : Nat → Value} (hrun : ∀ ρ, Ev ρ env → ∀ dst ty pos af g w, (execOp ρ ⟨dst, op, ty, pos, af, g⟩).run P w = .ok (.value (f w.heap.size)) (w.alloc o)) : Ef P env L op (fun k => ∀ b, k (f b) (one b o :: L)) := by
  intro ro dst tt pos af g N E a w next Q k hf hh hk hn
  exact wpIn_value (hrun _ hf.ev _ _ _ _ _ _) (hn _ _ _ (hk _) (hh.alloc o))

theorem ef_box {t : TypeId} {x : Operand} {v : Value} {cs : List Value} (hx : evalE env x = some v) (hc : v.cells = cs.toArray) : Ef P env L (.box t x) (fun k => ∀ b, k (.pointer (some ⟨b, 0, none⟩)) (blk b t cs :: L)) :=
  ef_new_of (f := fun b => .pointer (some ⟨b, 0, none⟩)) (o := .cells cs.toArray t (0, 0)) fun ρ hρ dst ty pos af g w => by
    simp [execOp, hρ x _ hx, Instr.box, newVar, newRow, hc]
theorem ef_alloc {t : TypeId} {zs : List Value} [hz : TZero P t zs] : Ef P env L (.alloc t) (fun k => ∀ b, k (.pointer (some ⟨b, 0, none⟩)) (blk b t zs :: L)) :=
  ef_new_of (f := fun b => .pointer (some ⟨b, 0, none⟩)) (o := .cells zs.toArray t (0, 0)) fun ρ hρ dst ty pos af g w => by
    obtain ⟨i, z, h1, h2, h3⟩ := hz.ok
    simp [execOp, Instr.alloc, zeroValue, typeInfo, h1, h2, newVar, newRow, h3]
/-- a struct or an array put together, the parts' run given -/
theorem pu_build {t : TypeId} {ps : Array (Nat × Operand)} {qs : List (Nat × Value)} {v : Value} (hp : ps.toList.map (fun p => (p.1, evalE env p.2)) = qs.map (fun q => (q.1, some q.2))) (hb : ∀ w, (Instr.build t qs.toArray).run P w = .ok v w) : Pu P env (.build t ps) v := fun ρ hρ _ _ _ _ _ w => by
  have key : ∀ (ps : List (Nat × Operand)) (qs : List (Nat × Value)), ps.map (fun p => (p.1, evalE env p.2)) = qs.map (fun q => (q.1, some q.2)) → ps.map (fun p => (p.1, ρ p.2)) = qs := by
    intro ps
    induction ps with
    | nil => intro qs h; cases qs <;> simp_all
    | cons p ps ih =>
      intro qs h
      cases qs with
      | nil => simp at h
      | cons q qs =>
        simp only [List.map_cons, List.cons.injEq, Prod.mk.injEq] at h
        rw [List.map_cons, ih qs h.2, hρ _ _ h.1.2, h.1.1]
  have e : (ps.map fun p => (p.1, ρ p.2)) = qs.toArray := by apply Array.ext'; rw [Array.toList_map]; simpa using key _ _ hp
  have e' : (ps.map fun (i, x) => (i, ρ x)) = qs.toArray := e
  simp only [execOp, e', Sem.run_bind, hb, Result.andThen_ok, Sem.run_pure]
theorem ef_buildSlice {t n : Nat} {ps : Array (Nat × Operand)} {qs : List (Nat × Value)} {e : TypeId} {cs : List Value} (hp : ps.toList.map (fun p => (p.1, evalE env p.2)) = qs.map (fun q => (q.1, some q.2)))
    (hb : ∀ w, (Instr.buildSlice t n qs.toArray).run P w = .ok (.slice (some ⟨w.heap.size, 0, none⟩) n n) (w.alloc (.cells cs.toArray e (0, 0)))) : Ef P env L (.buildSlice t n ps) (fun k => ∀ b, k (.slice (some ⟨b, 0, none⟩) n n) (blk b e cs :: L)) :=
  ef_new_of (f := fun b => .slice (some ⟨b, 0, none⟩) n n) (o := .cells cs.toArray e (0, 0)) fun ρ hρ dst ty pos af g w => by
    have key : ∀ (ps : List (Nat × Operand)) (qs : List (Nat × Value)), ps.map (fun p => (p.1, evalE env p.2)) = qs.map (fun q => (q.1, some q.2)) → ps.map (fun p => (p.1, ρ p.2)) = qs := by
      intro ps
      induction ps with
      | nil => intro qs h; cases qs <;> simp_all
      | cons p ps ih =>
        intro qs h
        cases qs with
        | nil => simp at h
        | cons q qs =>
          simp only [List.map_cons, List.cons.injEq, Prod.mk.injEq] at h
          rw [List.map_cons, ih qs h.2, hρ _ _ h.1.2, h.1.1]
    have e1 : (ps.map fun p => (p.1, ρ p.2)) = qs.toArray := by apply Array.ext'; rw [Array.toList_map]; simpa using key _ _ hp
    have e' : (ps.map fun (i, x) => (i, ρ x)) = qs.toArray := e1
    simp only [execOp, e', Sem.run_bind, hb, Result.andThen_ok, Sem.run_pure]
end


/-! ## Composite values -/
/-- a value's cells -/
class CellsC (v : Value) (vs : outParam (List Value)) : Prop where
  ok : v.cells = vs.toArray
instance {k : IntKind} {n : Int} : CellsC (.int k n) [.int k n] := ⟨rfl⟩
instance {b : Bool} : CellsC (.bool b) [.bool b] := ⟨rfl⟩
instance {b : ByteArray} : CellsC (.string b) [.string b] := ⟨rfl⟩
instance {a : Option Addr} : CellsC (.pointer a) [.pointer a] := ⟨rfl⟩
instance {a : Option Addr} {l c : Nat} : CellsC (.slice a l c) [.slice a l c] := ⟨rfl⟩
instance {r : Option Nat} : CellsC (.map r) [.map r] := ⟨rfl⟩
instance {f : Fn} {a b : Array Value} : CellsC (.func f a b) [.func f a b] := ⟨rfl⟩
instance : CellsC .nilFunc [.nilFunc] := ⟨rfl⟩
instance {t : TypeId} {v : Value} : CellsC (.iface t v) [.iface t v] := ⟨rfl⟩
instance : CellsC .nilIface [.nilIface] := ⟨rfl⟩
instance {vs : List Value} : CellsC (.agg vs.toArray) vs := ⟨rfl⟩
theorem cells_one {v : Value} (h : v.oneCell' = true) : CellsC v [v] := ⟨by cases v <;> simp_all [Value.cells, Value.oneCell']⟩

class PlaceC (places : List (Nat × Nat)) (i : Nat) (off n : outParam Nat) : Prop where
  ok : places[i]? = some (off, n)
instance PlaceC.zero {o n : Nat} {ps : List (Nat × Nat)} : PlaceC ((o, n) :: ps) 0 o n := ⟨rfl⟩
instance PlaceC.succ {i o n : Nat} {p : Nat × Nat} {ps : List (Nat × Nat)} [h : PlaceC ps i o n] : PlaceC (p :: ps) (i + 1) o n := ⟨by simpa using h.ok⟩

theorem foldl_over (vs : List Value) : ∀ (cs : List Value) (off : Nat), off + vs.length ≤ cs.length →
    (vs.toArray.zipIdx.foldl (fun cs (c, j) => cs.setIfInBounds (off + j) c) cs.toArray) = (over cs vs off).toArray := by
  have key : ∀ (vs : List Value) (k : Nat) (cs : List Value) (off : Nat), off + k + vs.length ≤ cs.length →
      ((vs.zipIdx k).foldl (fun (cs : Array Value) (p : Value × Nat) => cs.setIfInBounds (off + p.2) p.1) cs.toArray) = (over cs vs (off + k)).toArray := by
    intro vs
    induction vs with
    | nil => intro k cs off h; simp [over]
    | cons v vs ih =>
      intro k cs off h
      simp only [List.length_cons] at h
      rw [List.zipIdx_cons, List.foldl_cons]
      have e : (cs.toArray.setIfInBounds (off + k) v) = (cs.set (off + k) v).toArray := by simp
      rw [e, ih (k + 1) (cs.set (off + k) v) off (by simp; omega)]
      congr 1
      unfold over
      have hlt : off + k < cs.length := by omega
      rw [show off + (k + 1) = off + k + 1 by omega, List.take_succ_eq_append_getElem (by simpa using hlt)]
      rw [List.take_set_of_le (Nat.le_refl _), List.getElem_set_self, List.drop_set_of_lt (by omega)]
      simp only [List.length_cons, List.append_assoc, List.cons_append, List.nil_append]
      rw [show off + k + 1 + vs.length = off + k + (vs.length + 1) by omega]
  intro cs off h
  have := key vs 0 cs off (by simpa using h)
  simp only [Nat.add_zero] at this
  rw [← this, ← Array.foldl_toList]
  simp

/-- the parts laid over cs -/
inductive BldL (places : List (Nat × Nat)) : List Value → List (Nat × Value) → List Value → Prop
  | nil {cs : List Value} : BldL places cs [] cs
  | cons {cs cs' out vs : List Value} {i off n : Nat} {v : Value} {rest : List (Nat × Value)} (hp : PlaceC places i off n) (hv : CellsC v vs) (hn : vs.length = n) (ho : OverL cs vs off cs') (k : BldL places cs' rest out) : BldL places cs ((i, v) :: rest) out
theorem BldL.fill {places : List (Nat × Nat)} {cs out : List Value} {parts : List (Nat × Value)} (h : BldL places cs parts out) (pl : Nat → Option (Nat × Nat)) (hpl : ∀ i, pl i = places[i]?) : Instr.fill pl cs.toArray parts = some out.toArray := by
  induction h with
  | nil => rfl
  | cons hp hv hn ho _ ih =>
    have hle := ho.ok.2
    unfold Instr.fill
    rw [hpl, hp.ok]
    simp only []
    rw [hv.ok]
    rw [if_neg (by simp [hn]; omega)]
    rw [foldl_over _ _ _ hle, ho.ok.1]
    exact ih
class BldC (places : List (Nat × Nat)) (cs : List Value) (parts : List (Nat × Value)) (out : outParam (List Value)) : Prop where
  ok : BldL places cs parts out
class LenC (vs : List Value) (n : Nat) : Prop where
  ok : vs.length = n
instance LenC.nil : LenC [] 0 := ⟨rfl⟩
instance LenC.cons {v : Value} {vs : List Value} {n : Nat} [h : LenC vs n] : LenC (v :: vs) (n + 1) := ⟨by simp [h.ok]⟩
instance BldC.nil {places : List (Nat × Nat)} {cs : List Value} : BldC places cs [] cs := ⟨.nil⟩
instance BldC.cons {places : List (Nat × Nat)} {cs cs' out vs : List Value} {i off n : Nat} {v : Value} {rest : List (Nat × Value)} [hp : PlaceC places i off n] [hv : CellsC v vs] [hn : LenC vs n] [ho : OverL cs vs off cs'] [k : BldC places cs' rest out] : BldC places cs ((i, v) :: rest) out := ⟨.cons hp hv hn.ok ho k.ok⟩

/-- a struct's zero cells, and where its fields lie -/
class TBld (P : Program) (t : TypeId) (zs : outParam (List Value)) (places : outParam (List (Nat × Nat))) : Prop where
  okZ : ((P.info? t).bind (·.zero)).map Value.cells = some zs.toArray
  okF : (match P.underlying t with | some (.struct fs) => some (fs.toList.map fun f => (P.info? f.type).map fun i => (f.offset, i.size)) | _ => none) = some (places.map some)

theorem operands_of {env : Env} {ρ : Operand → Value} (hρ : Ev ρ env) : ∀ {ps : List (Nat × Operand)} {qs : List (Nat × Value)}, ps.map (fun p => (p.1, evalE env p.2)) = qs.map (fun q => (q.1, some q.2)) → ps.map (fun p => (p.1, ρ p.2)) = qs := by
  intro ps
  induction ps with
  | nil => intro qs h; cases qs <;> simp_all
  | cons p ps ih =>
    intro qs h
    cases qs with
    | nil => simp at h
    | cons q qs =>
      simp only [List.map_cons, List.cons.injEq, Prod.mk.injEq] at h
      rw [List.map_cons, ih h.2, hρ _ _ h.1.2, h.1.1]

def fieldPl (f : Field) : Sem (Nat × Nat) := do pure (f.offset, ← Go.sizeOf f.type)
theorem run_fieldPl {P : Program} {f : Field} {j : TypeInfo} (hj : P.info? f.type = some j) (w : World) : (fieldPl f).run P w = .ok (f.offset, j.size) w := by simp [fieldPl, Go.sizeOf, typeInfo, hj]
theorem pu_bld {P : Program} {env : Env} {t : TypeId} {zs out : List Value} {places : List (Nat × Nat)} [ht : TBld P t zs places] {ps : Array (Nat × Operand)} {qs : List (Nat × Value)} (hp : ps.toList.map (fun p => (p.1, evalE env p.2)) = qs.map (fun q => (q.1, some q.2))) [hb : BldC places zs qs out] : Pu P env (.build t ps) (.agg out.toArray) := fun ρ hρ _ _ _ _ _ w => by
  have e : (ps.map fun p => (p.1, ρ p.2)) = qs.toArray := by apply Array.ext'; rw [Array.toList_map]; simpa using operands_of hρ hp
  have e' : (ps.map fun (i, x) => (i, ρ x)) = qs.toArray := e
  have hz := ht.okZ
  have hf := ht.okF
  cases hi : P.info? t with
  | none => simp [hi] at hz
  | some i =>
    cases hzz : i.zero with
    | none => simp [hi, hzz] at hz
    | some z =>
      simp [hi, hzz] at hz
      cases hu : P.underlying t with
      | none => simp [hu] at hf
      | some d =>
        cases d with
        | struct fs =>
          simp only [hu, Option.some.injEq] at hf
          have hm : ∀ (l : List Field) (pl : List (Nat × Nat)), (l.map fun f => (P.info? f.type).map fun i => (f.offset, i.size)) = pl.map some →
              (l.mapM fieldPl).run P w = .ok pl w := by
            intro l
            induction l with
            | nil => intro pl h; cases pl <;> simp_all
            | cons f l ih =>
              intro pl h
              cases pl with
              | nil => simp at h
              | cons p pl =>
                simp only [List.map_cons, List.cons.injEq] at h
                cases hj : P.info? f.type with
                | none => simp [hj] at h
                | some j =>
                  simp [hj] at h
                  rw [List.mapM_cons, Sem.run_bind, run_fieldPl hj, Result.andThen_ok, Sem.run_bind, ih pl h.2, Result.andThen_ok, Sem.run_pure, h.1]
          have hmm : (fs.mapM fieldPl).run P w = .ok places.toArray w := by
            rw [Array.mapM_eq_mapM_toList, Sem.run_map, hm _ _ hf]; rfl
          have hfill := hb.ok.fill (fun i => places.toArray[i]?) (fun i => by simp)
          have hrun : (Instr.build t qs.toArray).run P w = .ok (.agg out.toArray) w := by
            unfold Instr.build
            simp only [Sem.run_bind, zeroValue, typeInfo, run_program, hi, hzz, Result.andThen_ok, Sem.run_pure, run_underlying hu, hz]
            refine Eq.trans (congrArg (fun r => Result.andThen r _) hmm) ?_
            simp only [Result.andThen_ok]
            rw [hfill]
            rfl
          simp only [execOp, e', Sem.run_bind, hrun, Result.andThen_ok, Sem.run_pure]
        | _ => simp [hu] at hf

/-- parts one behind the other -/
class CatC (i : Nat) (n : Nat) (parts : List (Nat × Value)) (out : outParam (List Value)) : Prop where
  ok : ∀ pre zs : List Value, pre.length = i * n → zs.length = parts.length * n → Instr.fill (fun j => some (j * n, n)) (pre ++ zs).toArray parts = some (pre ++ out).toArray
instance CatC.nil {i n : Nat} : CatC i n [] [] := ⟨fun pre zs _ h => by
  have : zs = [] := List.eq_nil_of_length_eq_zero (by simpa using h)
  subst this; rfl⟩
class CatL (a b : List Value) (c : outParam (List Value)) : Prop where
  ok : a ++ b = c
instance CatL.nil {b : List Value} : CatL [] b b := ⟨rfl⟩
instance CatL.cons {x : Value} {a b c : List Value} [h : CatL a b c] : CatL (x :: a) b (x :: c) := ⟨by rw [List.cons_append, h.ok]⟩
instance CatC.cons {i n : Nat} {v : Value} {vs out out' : List Value} {rest : List (Nat × Value)} [hv : CellsC v vs] [hn : LenC vs n] [hr : CatC (i + 1) n rest out] [hc : CatL vs out out'] : CatC i n ((i, v) :: rest) out' := ⟨fun pre zs hp hz => by
  have hn' := hn.ok
  simp only [List.length_cons, Nat.succ_mul] at hz
  unfold Instr.fill
  simp only []
  rw [hv.ok]
  rw [if_neg (by simp [hn', hp, hz])]
  rw [foldl_over _ _ _ (by rw [List.length_append, hp, hn', hz]; omega)]
  have e : over (pre ++ zs) vs (i * n) = (pre ++ vs) ++ zs.drop n := by
    unfold over
    rw [← hp, List.take_left, hn', List.drop_length_add_append]
  rw [e, ← hc.ok]
  have := hr.ok (pre ++ vs) (zs.drop n) (by rw [List.length_append, hp, hn', Nat.succ_mul]) (by rw [List.length_drop, hz]; omega)
  rw [this, List.append_assoc]⟩

theorem ef_bldS {P : Program} {env : Env} {L : List Assn} {t e n by_ : Nat} [ht : TSl P t e n by_] {zs out : List Value} [hz : TZero P e zs] {ps : Array (Nat × Operand)} {qs : List (Nat × Value)} {len : Nat}
    (hp : ps.toList.map (fun p => (p.1, evalE env p.2)) = qs.map (fun q => (q.1, some q.2))) (hlen : qs.length = len) (hsm : Nat.ble (len * n) 16777216 = true) [hc : CatC 0 n qs out] :
    Ef P env L (.buildSlice t len ps) (fun k => ∀ b, k (.slice (some ⟨b, 0, none⟩) len len) (blk b e out :: L)) :=
  ef_new_of (f := fun b => .slice (some ⟨b, 0, none⟩) len len) (o := .cells out.toArray e (0, 0)) fun ρ hρ dst ty pos af g w => by
    have e1 : (ps.map fun p => (p.1, ρ p.2)) = qs.toArray := by apply Array.ext'; rw [Array.toList_map]; simpa using operands_of hρ hp
    have e' : (ps.map fun (i, x) => (i, ρ x)) = qs.toArray := e1
    obtain ⟨j, hu, hj, hs, _⟩ := ht.ok
    obtain ⟨i, z, h1, h2, h3⟩ := hz.ok
    have : i = j := Option.some.inj (h1.symm.trans hj)
    subst this
    have hsm' : ¬ (len * n > 16777216) := Nat.not_lt.2 (Nat.le_of_ble_eq_true hsm)
    have hfill : ∀ Z : Array Value, Z.size = len * n → Instr.fill (fun j => some (j * n, n)) Z qs = some out.toArray := fun Z hZ => by
      have := hc.ok [] Z.toList (by simp) (by rw [Array.length_toList, hZ, hlen])
      simpa using this
    have hrun : (Instr.buildSlice t len qs.toArray).run P w = .ok (.slice (some ⟨w.heap.size, 0, none⟩) len len) (w.alloc (.cells out.toArray e (0, 0))) := by
      unfold Instr.buildSlice
      simp only [Sem.run_bind, run_underlying hu, Result.andThen_ok, Go.sizeOf, typeInfo, run_program, hj, hs, Sem.run_pure, show (2 : Nat) ^ 24 = 16777216 from rfl, hsm', if_false]
      by_cases h0 : len * n = 0
      · simp only [h0, if_true]
        rw [Sem.run_bind, Sem.run_pure, Result.andThen_ok, hfill _ (by simp [h0])]
        simp [newRow]
      · simp only [h0, if_false, zeroValue, typeInfo, Sem.run_bind, run_program, hj, h2, Result.andThen_ok, Sem.run_pure]
        rw [hfill _ (by simp)]
        simp [newRow]
    simp only [execOp, e', Sem.run_bind, hrun, Result.andThen_ok, Sem.run_pure]

/-! ## Slices of the call's own -/
/-- the slice v, of elements of type e and size cells each, holds the cells xs (nil: none), and owns its array -/
def own (e : TypeId) (size : Nat) (v : Value) (n : Nat) (xs : List Value) : Assn := fun m =>
  xs.length = n * size ∧
  ((v = .slice none 0 0 ∧ n = 0) ∨
   ∃ g cap cur, v = .slice (some ⟨g, 0, none⟩) n cap ∧ m g = some (.cells cur e (0, 0)) ∧ n ≤ cap ∧ cap ≤ maxLen ∧ cur.size = cap * size ∧ cur.toList.take (n * size) = xs)

theorem own_nil (e n : Nat) (m : PH) : own e n (.slice none 0 0) 0 [] m := ⟨by simp, .inl ⟨rfl, rfl⟩⟩
/-- append to a slice of the call's own, of cells that a block holds: the run's law of the kit, said of the heap's assertions -/
theorem H.append {P : Program} {E : Ctx} {w : World} {L : List Assn} {t e : TypeId} {n by_ : Nat} (ht : TSl P t e n by_) {zs : List Value} (hz : TZero P e zs) (hzl : zs.length = n) (hn0 : 0 < n)
    {v : Value} {l : Nat} {xs : List Value} (h : H E w (own e n v l xs :: L)) {sb so m c sty : Nat} {scs : List Value} {fr : Nat × Nat} (hsrc : w.heap[sb]? = some (.cells scs.toArray sty fr)) (news : List Value) (hnl : news.length = m * n)
    (hnews : ∀ j u, news[j]? = some u → scs[so + j]? = some u) (h1 : news.all Value.oneCell' = true) (h63 : l + m ≤ maxLen) (hby : (l + m) * by_ ≤ 140737488355328) (ty : TypeId) :
    ∃ v' w', (Builtin.append_ #[t, t] ty #[v, .slice (some ⟨sb, so, none⟩) m c]).run P w = .ok v' w' ∧ H E w' (own e n v' (l + m) (xs ++ news) :: L) ∧ (m ≠ 0 → ∃ g cap, v' = .slice (some ⟨g, 0, none⟩) (l + m) cap) := by
  obtain ⟨i, hu, hi, hin, hib⟩ := ht.ok
  obtain ⟨i', z, hi', hzz, hzc⟩ := hz.ok
  have : i' = i := Option.some.inj (hi'.symm.trans hi)
  subst this
  obtain ⟨e1, e2, e3, e4, h5⟩ := h
  obtain ⟨m1, m2, ho, hL, hd, s1, s2⟩ := Sat.perm (perm_out (X := E.X) (.refl _)) _ h5
  have hown : w.ownsRow 0 e n v l xs := by
    refine ⟨ho.1, ?_⟩
    rcases ho.2 with hnil | ⟨g, cap, cur, hv, hg, r⟩
    · exact .inl hnil
    · exact .inr ⟨g, cap, cur, hv, Nat.zero_le _, s1 _ _ hg, r⟩
  have hcells : ∀ j u, news[j]? = some u → w.cell? ((⟨sb, so, none⟩ : Addr).add j) = some u := fun j u hju => by
    rw [addr_add, cell_of_row w sb (so + j) scs.toArray sty fr hsrc]
    simpa using hnews j u hju
  obtain ⟨v', w', hrun, hown', hg, hnn, hat⟩ := run_append_own_at (P := P) w 0 t ty e i' z n by_ hu hi hzz hin hib (by rw [hzc]; simpa using hzl) hn0 v l xs hown ⟨sb, so, none⟩ m c news hnl hcells (by simpa using h1) h63 hby (Nat.zero_le _)
  have hlt2 : ∀ k o, m2 k = some o → k < w.heap.size := fun k o hk => (Array.getElem?_eq_some_iff.1 (s2 k o hk)).1
  have hvm : ∀ k, v.ownBlock = some k → m2 k = none := fun k hk => by
    rcases ho.2 with ⟨rfl, _⟩ | ⟨g0, cap, cur, rfl, hgm, _⟩
    · simp [Value.ownBlock] at hk
    · simp [Value.ownBlock] at hk
      subst hk
      exact (hd g0).resolve_left (by rw [hgm]; simp)
  have hm2 : ∀ k o, m2 k = some o → w'.heap[k]? = some o := fun k o hk => by
    rw [hg.block k (hlt2 k o hk) (fun he => by rw [hvm k he.symm] at hk; cases hk)]
    exact s2 k o hk
  refine ⟨v', w', hrun, ⟨hg.os.trans e1, hg.output.trans e2, hg.tape.trans e3, Nat.le_trans e4 hg.size, Sat.perm (perm_out (X := E.X) (.refl _)).symm _ ⟨fun k => if v'.ownBlock = some k then w'.heap[k]? else none, m2, ?_, hL, ?_, ?_, hm2⟩⟩, ?_⟩
  · refine ⟨hown'.1, ?_⟩
    rcases hown'.2 with hnil | ⟨g, cap, cur, rfl, _, hgg, r⟩
    · exact .inl hnil
    · exact .inr ⟨g, cap, cur, rfl, by simpa [Value.ownBlock] using hgg, r⟩
  · intro k
    by_cases hk : v'.ownBlock = some k
    · right
      rcases hat with he | he
      · exact hvm k (he ▸ hk)
      · rw [he] at hk
        cases hm : m2 k with
        | none => rfl
        | some o => have := hlt2 k o hm; simp at hk; omega
    · left; simp [hk]
  · intro k o hk
    by_cases hk' : v'.ownBlock = some k
    · simpa [hk'] using hk
    · simp [hk'] at hk
  · intro hm
    rcases hown'.2 with ⟨hnil, h0⟩ | ⟨g, cap, cur, hv', _⟩
    · omega
    · exact ⟨g, cap, hv'⟩
end SX
