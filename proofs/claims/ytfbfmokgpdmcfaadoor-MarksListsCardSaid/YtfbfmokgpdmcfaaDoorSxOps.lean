/- The operations, one law each. -/
import Derived.Test.YtfbfmokgpdmcfaaDoorSxWalk
namespace SX
open Go

/-! ## What is asked of the types -/
def aggD : TypeDesc → Bool | .struct _ | .array _ _ => true | _ => false
/-- a type of one cell -/
class TOne (P : Program) (t : TypeId) : Prop where
  und : (P.underlying t).map aggD = some false
  inf : (P.info? t).map (·.size) = some 1
/-- a struct or an array of n cells -/
class TAgg (P : Program) (t : TypeId) (n : outParam Nat) : Prop where
  und : (P.underlying t).map aggD = some true
  inf : (P.info? t).map (·.size) = some n
def fldB (P : Program) (t : TypeId) (i off : Nat) : Bool :=
  match P.underlying t with
  | some (.struct fs) => match fs[i]? with
    | some f => f.offset == off && ((P.info? f.type).map (·.size != 0)).getD false
    | none => false
  | _ => false
/-- field i of a struct lies at off -/
class TFld (P : Program) (t : TypeId) (i : Nat) (off : outParam Nat) : Prop where
  okB : fldB P t i off = true
theorem TFld.ok {P : Program} {t i off : Nat} (h : TFld P t i off) : ∃ fs f j, P.underlying t = some (.struct fs) ∧ fs[i]? = some f ∧ f.offset = off ∧ P.info? f.type = some j ∧ j.size ≠ 0 := by
  have h := h.okB
  unfold fldB at h
  split at h
  · rename_i fs hu
    split at h
    · rename_i f hf
      simp only [Bool.and_eq_true, beq_iff_eq] at h
      cases hj : P.info? f.type with
      | none => simp [hj] at h
      | some j => simp [hj] at h; exact ⟨fs, f, j, hu, hf, h.1, hj, h.2⟩
    · cases h
  · cases h
def partB (P : Program) (t : TypeId) (i off n : Nat) (agg : Bool) : Bool :=
  match P.underlying t with
  | some (.struct fs) => match fs[i]? with
    | some f => f.offset == off && (P.underlying f.type).map aggD == some agg && (P.info? f.type).map (·.size) == some n
    | none => false
  | _ => false
/-- field i of a struct lies at off and has n cells; agg: is it an aggregate? -/
class TPart (P : Program) (t : TypeId) (i : Nat) (off : outParam Nat) (n : outParam Nat) (agg : outParam Bool) : Prop where
  okB : partB P t i off n agg = true
theorem TPart.ok {P : Program} {t i off n : Nat} {agg : Bool} (h : TPart P t i off n agg) : ∃ fs f, P.underlying t = some (.struct fs) ∧ fs[i]? = some f ∧ f.offset = off ∧ (P.underlying f.type).map aggD = some agg ∧ (P.info? f.type).map (·.size) = some n := by
  have h := h.okB
  unfold partB at h
  split at h
  · rename_i fs hu
    split at h
    · rename_i f hf
      simp only [Bool.and_eq_true, beq_iff_eq] at h
      exact ⟨fs, f, hu, hf, h.1.1, h.1.2, h.2⟩
    · cases h
  · cases h
/-- a zero value's cells -/
class TZero (P : Program) (t : TypeId) (zs : outParam (List Value)) : Prop where
  okB : ((P.info? t).bind (·.zero)).map Value.cells = some zs.toArray
theorem TZero.ok {P : Program} {t : TypeId} {zs : List Value} (h : TZero P t zs) : ∃ i z, P.info? t = some i ∧ i.zero = some z ∧ z.cells = zs.toArray := by
  have h := h.okB
  cases hi : P.info? t with
  | none => simp [hi] at h
  | some i =>
    cases hz : i.zero with
    | none => simp [hi, hz] at h
    | some z => simp [hi, hz] at h; exact ⟨i, z, rfl, hz, h⟩
/-- a slice's element: its type, its cells, its bytes -/
class TSl (P : Program) (t : TypeId) (e : outParam TypeId) (n : outParam Nat) (by_ : outParam Nat) : Prop where
  und : P.underlying t = some (.slice e)
  inf : (P.info? e).map (fun i => (i.size, i.bytes)) = some (n, by_)
theorem TSl.ok {P : Program} {t e n by_ : Nat} (h : TSl P t e n by_) : ∃ i, P.underlying t = some (.slice e) ∧ P.info? e = some i ∧ i.size = n ∧ i.bytes = by_ := by
  have h1 := h.inf
  cases hi : P.info? e with
  | none => simp [hi] at h1
  | some i => simp [hi] at h1; exact ⟨i, h.und, rfl, h1.1, h1.2⟩
class TPtr (P : Program) (t : TypeId) : Prop where
  ok : ∃ e, P.underlying t = some (.pointer e)
class TFn (P : Program) (t : TypeId) : Prop where
  ok : ∃ a b c, P.underlying t = some (.func a b c)
class TConc (P : Program) (t : TypeId) : Prop where
  ok : ∃ d, P.underlying t = some d ∧ (match d with | .interface _ => false | _ => true) = true

/-! ## Which block -/
class InB (b : Nat) (L : List Assn) (t : outParam TypeId) (cs : outParam (List Value)) : Prop where
  ok : ∃ L', Take (blk b t cs) L L'
instance InB.here {b t : Nat} {cs : List Value} {L : List Assn} : InB b (blk b t cs :: L) t cs := ⟨_, .here⟩
instance (priority := low) InB.there {b t : Nat} {cs : List Value} {A : Assn} {L : List Assn} [h : InB b L t cs] : InB b (A :: L) t cs := ⟨_, .there h.ok.choose_spec⟩
class SetB (b : Nat) (L : List Assn) (t : outParam TypeId) (cs : outParam (List Value)) (F : outParam (List Value → List Assn)) : Prop where
  ok : ∀ cs', Put (blk b t cs) (blk b t cs') L (F cs')
instance SetB.here {b t : Nat} {cs : List Value} {L : List Assn} : SetB b (blk b t cs :: L) t cs (fun cs' => blk b t cs' :: L) := ⟨fun _ => .here⟩
instance (priority := low) SetB.there {b t : Nat} {cs : List Value} {A : Assn} {L : List Assn} {F : List Value → List Assn} [h : SetB b L t cs F] : SetB b (A :: L) t cs (fun cs' => A :: F cs') := ⟨fun cs' => .there (h.ok cs')⟩
theorem SetB.inB {b t : Nat} {cs : List Value} {L : List Assn} {F : List Value → List Assn} (h : SetB b L t cs F) {E : Ctx} {w : World} (hh : H E w L) : w.heap[b]? = some (.cells cs.toArray t (0, 0)) := by
  obtain ⟨R, p, _⟩ := (h.ok cs).spec
  exact (hh.ent (Ent.perm p)).one_get .here

/-! ## Slots alone -/
section
variable {P : Program} {env : Env}
theorem pu_move {x : Operand} {v : Value} (hx : evalE env x = some v) : Pu P env (.move x) v := fun ρ hρ _ _ _ _ _ w => by
  show Result.ok (Next.value (ρ x)) w = _; rw [hρ x v hx]
theorem pu_assign {x : Operand} {v : Value} (hx : evalE env x = some v) : Pu P env (.assign x) v := fun ρ hρ _ _ _ _ _ w => by
  show Result.ok (Next.value (ρ x)) w = _; rw [hρ x v hx]
theorem pu_pick_t {c x y : Operand} {v : Value} (hc : evalE env c = some (.bool true)) (hx : evalE env x = some v) : Pu P env (.pick c x y) v := fun ρ hρ _ _ _ _ _ w => by
  simp [execOp, hρ c _ hc, asBool, hρ x v hx]
theorem pu_pick_f {c x y : Operand} {v : Value} (hc : evalE env c = some (.bool false)) (hy : evalE env y = some v) : Pu P env (.pick c x y) v := fun ρ hρ _ _ _ _ _ w => by
  simp [execOp, hρ c _ hc, asBool, hρ y v hy]
theorem pu_nilCheck {x : Operand} {a : Addr} (hx : evalE env x = some (.pointer (some a))) : Pu P env (.nilCheck x) (.pointer (some a)) := fun ρ hρ _ _ _ _ _ w => by
  simp [execOp, hρ x _ hx]
theorem pu_nilCheck_fn {x : Operand} {f : FuncId} {fi ca : Array Value} (hx : evalE env x = some (.func (.func f) fi ca)) : Pu P env (.nilCheck x) (.func (.func f) fi ca) := fun ρ hρ _ _ _ _ _ w => by
  simp [execOp, hρ x _ hx]
theorem pu_nilCheck_if {x : Operand} {t : TypeId} {v : Value} (hx : evalE env x = some (.iface t v)) : Pu P env (.nilCheck x) (.iface t v) := fun ρ hρ _ _ _ _ _ w => by
  simp [execOp, hρ x _ hx]
theorem pu_not {t : TypeId} {x : Operand} {b : Bool} (hx : evalE env x = some (.bool b)) : Pu P env (.unOp .not t x) (.bool (!b)) := fun ρ hρ _ _ _ _ _ w => by
  simp [execOp, hρ x _ hx, Op.unary]
theorem pu_neg {t : TypeId} {x : Operand} {k : IntKind} {n : Int} (hx : evalE env x = some (.int k n)) : Pu P env (.unOp .neg t x) (.int k (k.wrap (0 - n))) := fun ρ hρ _ _ _ _ _ w => by
  simp [execOp, hρ x _ hx, Op.unary, Op.intArith]

theorem run_intOp (P : Program) (op : BinOp) (k : IntKind) (t : TypeId) (x y : Int) (w : World) : (do eqGuard op t (.const .nilFunc) (.const .nilFunc) (.int k x) (.int k y); binOp op t (.int k x) (.int k y) : Sem Value).run P w = (binOp op t (.int k x) (.int k y)).run P w := by
  simp [eqGuard]

theorem pu_add {k : IntKind} {t u : TypeId} {x y : Operand} {a b : Int} (hx : evalE env x = some (.int k a)) (hy : evalE env y = some (.int k b)) : Pu P env (.binOp .add t x y u) (.int k (k.wrap (a + b))) := fun ρ hρ _ _ _ _ _ w => by
  simp [execOp, hρ x _ hx, hρ y _ hy, eqGuard, binOp, Op.intArith]
theorem pu_sub {k : IntKind} {t u : TypeId} {x y : Operand} {a b : Int} (hx : evalE env x = some (.int k a)) (hy : evalE env y = some (.int k b)) : Pu P env (.binOp .sub t x y u) (.int k (k.wrap (a - b))) := fun ρ hρ _ _ _ _ _ w => by
  simp [execOp, hρ x _ hx, hρ y _ hy, eqGuard, binOp, Op.intArith]
theorem pu_mul {k : IntKind} {t u : TypeId} {x y : Operand} {a b : Int} (hx : evalE env x = some (.int k a)) (hy : evalE env y = some (.int k b)) : Pu P env (.binOp .mul t x y u) (.int k (k.wrap (a * b))) := fun ρ hρ _ _ _ _ _ w => by
  simp [execOp, hρ x _ hx, hρ y _ hy, eqGuard, binOp, Op.intArith]
theorem pu_quo {k : IntKind} {t u : TypeId} {x y : Operand} {a b : Int} (hx : evalE env x = some (.int k a)) (hy : evalE env y = some (.int k b)) (h0 : b ≠ 0) : Pu P env (.binOp .quo t x y u) (.int k (k.wrap (a.tdiv b))) := fun ρ hρ _ _ _ _ _ w => by
  simp [execOp, hρ x _ hx, hρ y _ hy, eqGuard, binOp, Op.intDiv, h0]
theorem pu_rem {k : IntKind} {t u : TypeId} {x y : Operand} {a b : Int} (hx : evalE env x = some (.int k a)) (hy : evalE env y = some (.int k b)) (h0 : b ≠ 0) : Pu P env (.binOp .rem t x y u) (.int k (a.tmod b)) := fun ρ hρ _ _ _ _ _ w => by
  simp [execOp, hρ x _ hx, hρ y _ hy, eqGuard, binOp, Op.intDiv, h0]
theorem pu_lss {k : IntKind} {t u : TypeId} {x y : Operand} {a b : Int} (hx : evalE env x = some (.int k a)) (hy : evalE env y = some (.int k b)) : Pu P env (.binOp .lss t x y u) (.bool (decide (a < b))) := fun ρ hρ _ _ _ _ _ w => by
  simp [execOp, hρ x _ hx, hρ y _ hy, eqGuard, binOp, Op.intCmp]
theorem pu_leq {k : IntKind} {t u : TypeId} {x y : Operand} {a b : Int} (hx : evalE env x = some (.int k a)) (hy : evalE env y = some (.int k b)) : Pu P env (.binOp .leq t x y u) (.bool (decide (a ≤ b))) := fun ρ hρ _ _ _ _ _ w => by
  simp [execOp, hρ x _ hx, hρ y _ hy, eqGuard, binOp, Op.intCmp]
theorem pu_gtr {k : IntKind} {t u : TypeId} {x y : Operand} {a b : Int} (hx : evalE env x = some (.int k a)) (hy : evalE env y = some (.int k b)) : Pu P env (.binOp .gtr t x y u) (.bool (decide (b < a))) := fun ρ hρ _ _ _ _ _ w => by
  simp [execOp, hρ x _ hx, hρ y _ hy, eqGuard, binOp, Op.intCmp]
theorem pu_geq {k : IntKind} {t u : TypeId} {x y : Operand} {a b : Int} (hx : evalE env x = some (.int k a)) (hy : evalE env y = some (.int k b)) : Pu P env (.binOp .geq t x y u) (.bool (decide (b ≤ a))) := fun ρ hρ _ _ _ _ _ w => by
  simp [execOp, hρ x _ hx, hρ y _ hy, eqGuard, binOp, Op.intCmp]
theorem beq_eq_decide' (a b : Int) : (a == b) = decide (a = b) := by by_cases h : a = b <;> simp [h]
theorem pu_eql {k : IntKind} {t u : TypeId} {x y : Operand} {a b : Int} (hx : evalE env x = some (.int k a)) (hy : evalE env y = some (.int k b)) : Pu P env (.binOp .eql t x y u) (.bool (decide (a = b))) := fun ρ hρ _ _ _ _ _ w => by
  simp [execOp, hρ x _ hx, hρ y _ hy, eqGuard, binOp, Op.intCmp]; exact beq_eq_decide' a b
theorem pu_neq {k : IntKind} {t u : TypeId} {x y : Operand} {a b : Int} (hx : evalE env x = some (.int k a)) (hy : evalE env y = some (.int k b)) : Pu P env (.binOp .neq t x y u) (.bool (!decide (a = b))) := fun ρ hρ _ _ _ _ _ w => by
  simp [execOp, hρ x _ hx, hρ y _ hy, eqGuard, binOp, Op.intCmp]; exact congrArg (!·) (beq_eq_decide' a b)
/-- the wrap of a sum that fits -/
theorem wrap_i64 {n : Int} (h1 : -9223372036854775808 ≤ n) (h2 : n ≤ 9223372036854775807) : IntKind.i64.wrap n = n := IntWalk.i64_in n ⟨h1, h2⟩
theorem pu_add_in {t u : TypeId} {x y : Operand} {a b : Int} (hx : evalE env x = some (.int .i64 a)) (hy : evalE env y = some (.int .i64 b)) (h1 : -9223372036854775808 ≤ a + b) (h2 : a + b ≤ 9223372036854775807) : Pu P env (.binOp .add t x y u) (.int .i64 (a + b)) := by
  have := pu_add (P := P) (t := t) (u := u) hx hy; rwa [wrap_i64 h1 h2] at this
theorem pu_sub_in {t u : TypeId} {x y : Operand} {a b : Int} (hx : evalE env x = some (.int .i64 a)) (hy : evalE env y = some (.int .i64 b)) (h1 : -9223372036854775808 ≤ a - b) (h2 : a - b ≤ 9223372036854775807) : Pu P env (.binOp .sub t x y u) (.int .i64 (a - b)) := by
  have := pu_sub (P := P) (t := t) (u := u) hx hy; rwa [wrap_i64 h1 h2] at this
theorem pu_mul_in {t u : TypeId} {x y : Operand} {a b : Int} (hx : evalE env x = some (.int .i64 a)) (hy : evalE env y = some (.int .i64 b)) (h1 : -9223372036854775808 ≤ a * b) (h2 : a * b ≤ 9223372036854775807) : Pu P env (.binOp .mul t x y u) (.int .i64 (a * b)) := by
  have := pu_mul (P := P) (t := t) (u := u) hx hy; rwa [wrap_i64 h1 h2] at this
/-- a sum with its value given another spelling -/
theorem pu_add_as {t u : TypeId} {x y : Operand} {a b : Int} (c : Int) (hx : evalE env x = some (.int .i64 a)) (hy : evalE env y = some (.int .i64 b)) (hc : a + b = c) (h1 : -9223372036854775808 ≤ c) (h2 : c ≤ 9223372036854775807) : Pu P env (.binOp .add t x y u) (.int .i64 c) := by
  subst hc; exact pu_add_in hx hy h1 h2
theorem pu_sub_as {t u : TypeId} {x y : Operand} {a b : Int} (c : Int) (hx : evalE env x = some (.int .i64 a)) (hy : evalE env y = some (.int .i64 b)) (hc : a - b = c) (h1 : -9223372036854775808 ≤ c) (h2 : c ≤ 9223372036854775807) : Pu P env (.binOp .sub t x y u) (.int .i64 c) := by
  subst hc; exact pu_sub_in hx hy h1 h2
theorem pu_mul_as {t u : TypeId} {x y : Operand} {a b : Int} (c : Int) (hx : evalE env x = some (.int .i64 a)) (hy : evalE env y = some (.int .i64 b)) (hc : a * b = c) (h1 : -9223372036854775808 ≤ c) (h2 : c ≤ 9223372036854775807) : Pu P env (.binOp .mul t x y u) (.int .i64 c) := by
  subst hc; exact pu_mul_in hx hy h1 h2
theorem pu_add_u64 {t u : TypeId} {x y : Operand} {a b : Int} (c : Int) (hx : evalE env x = some (.int .u64 a)) (hy : evalE env y = some (.int .u64 b)) (hc : a + b = c) (h1 : 0 ≤ c) (h2 : c ≤ 18446744073709551615) : Pu P env (.binOp .add t x y u) (.int .u64 c) := by
  have := pu_add (P := P) (t := t) (u := u) hx hy; rwa [hc, IntWalk.u64_in c ⟨h1, h2⟩] at this
theorem pu_quo_in {t u : TypeId} {x y : Operand} {a b : Int} (hx : evalE env x = some (.int .i64 a)) (hy : evalE env y = some (.int .i64 b)) (ha : 0 ≤ a) (ha' : a ≤ 9223372036854775807) (hb : 1 ≤ b) : Pu P env (.binOp .quo t x y u) (.int .i64 (a / b)) := by
  have := pu_quo (P := P) (t := t) (u := u) hx hy (by omega)
  have h1 : 0 ≤ a / b := Int.ediv_nonneg ha (by omega)
  have h2 : a / b ≤ a := Int.ediv_le_self b ha
  rw [Int.tdiv_eq_ediv_of_nonneg ha] at this
  rwa [wrap_i64 (by omega) (by omega)] at this
theorem pu_quo_as {t u : TypeId} {x y : Operand} {a b : Int} (c : Int) (hx : evalE env x = some (.int .i64 a)) (hy : evalE env y = some (.int .i64 b)) (ha : 0 ≤ a) (ha' : a ≤ 9223372036854775807) (hb : 1 ≤ b) (hc : a / b = c) : Pu P env (.binOp .quo t x y u) (.int .i64 c) := by
  subst hc; exact pu_quo_in hx hy ha ha' hb
theorem pu_rem_as {t u : TypeId} {x y : Operand} {a b : Int} (c : Int) (hx : evalE env x = some (.int .i64 a)) (hy : evalE env y = some (.int .i64 b)) (ha : 0 ≤ a) (hb : 1 ≤ b) (hc : a % b = c) : Pu P env (.binOp .rem t x y u) (.int .i64 c) := by
  have := pu_rem (P := P) (t := t) (u := u) hx hy (by omega)
  rw [Int.tmod_eq_emod_of_nonneg ha] at this; subst hc; exact this
theorem pu_rem_in {t u : TypeId} {x y : Operand} {a b : Int} (hx : evalE env x = some (.int .i64 a)) (hy : evalE env y = some (.int .i64 b)) (ha : 0 ≤ a) (hb : 1 ≤ b) : Pu P env (.binOp .rem t x y u) (.int .i64 (a % b)) := by
  have := pu_rem (P := P) (t := t) (u := u) hx hy (by omega)
  rwa [Int.tmod_eq_emod_of_nonneg ha] at this

theorem pu_eq_of {t u : TypeId} {x y : Operand} {vx vy : Value} {b : Bool} (hx : evalE env x = some vx) (hy : evalE env y = some vy) (hg : ∀ op X Y w, (eqGuard op t X Y vx vy).run P w = .ok () w)
    (hb : binOp .eql t vx vy = (do pure (.bool (← Op.equal t vx vy)))) (he : ∀ d w, (Op.equalIn (d + 1) t vx vy).run P w = .ok b w) : Pu P env (.binOp .eql t x y u) (.bool b) := fun ρ hρ _ _ _ _ _ w => by
  have h1 : (Op.equal t vx vy).run P w = .ok b w := he 9999 w
  simp only [execOp, hρ x _ hx, hρ y _ hy, Sem.run_bind, hg, Result.andThen_ok, hb, h1, Sem.run_pure]
theorem pu_ne_of {t u : TypeId} {x y : Operand} {vx vy : Value} {b : Bool} (hx : evalE env x = some vx) (hy : evalE env y = some vy) (hg : ∀ op X Y w, (eqGuard op t X Y vx vy).run P w = .ok () w)
    (hb : binOp .neq t vx vy = (do pure (.bool (!(← Op.equal t vx vy))))) (he : ∀ d w, (Op.equalIn (d + 1) t vx vy).run P w = .ok b w) : Pu P env (.binOp .neq t x y u) (.bool (!b)) := fun ρ hρ _ _ _ _ _ w => by
  have h1 : (Op.equal t vx vy).run P w = .ok b w := he 9999 w
  simp only [execOp, hρ x _ hx, hρ y _ hy, Sem.run_bind, hg, Result.andThen_ok, hb, h1, Sem.run_pure]
theorem eqGuard_ptr {P : Program} {t : TypeId} {a : Option Addr} {v : Value} : ∀ op X Y w, (eqGuard op t X Y (.pointer a) v).run P w = .ok () w := fun op X Y w => by
  cases op <;> rfl
theorem eqGuard_sl {P : Program} {t : TypeId} {a : Option Addr} {l c : Nat} {v : Value} : ∀ op X Y w, (eqGuard op t X Y (.slice a l c) v).run P w = .ok () w := fun op X Y w => by
  cases op <;> rfl
theorem eqGuard_fn {P : Program} {t : TypeId} {f : Fn} {x y : Array Value} {v : Value} : ∀ op X Y w, (eqGuard op t X Y (.func f x y) v).run P w = .ok () w := fun op X Y w => by
  cases op <;> rfl
theorem pu_ptr_eq_nil {t u : TypeId} [h : TPtr P t] {x y : Operand} {a : Option Addr} (hx : evalE env x = some (.pointer a)) (hy : evalE env y = some (.pointer none)) : Pu P env (.binOp .eql t x y u) (.bool a.isNone) := by
  obtain ⟨e, he⟩ := h.ok
  exact pu_eq_of hx hy eqGuard_ptr rfl (fun d w => by cases a <;> simp [Op.equalIn, run_underlying he])
theorem pu_ptr_ne_nil {t u : TypeId} [h : TPtr P t] {x y : Operand} {a : Option Addr} (hx : evalE env x = some (.pointer a)) (hy : evalE env y = some (.pointer none)) : Pu P env (.binOp .neq t x y u) (.bool (!a.isNone)) := by
  obtain ⟨e, he⟩ := h.ok
  exact pu_ne_of hx hy eqGuard_ptr rfl (fun d w => by cases a <;> simp [Op.equalIn, run_underlying he])
theorem pu_sl_eq_nil {t u : TypeId} {e n b : Nat} [h : TSl P t e n b] {x y : Operand} {a : Option Addr} {l c l' c' : Nat} (hx : evalE env x = some (.slice a l c)) (hy : evalE env y = some (.slice none l' c')) : Pu P env (.binOp .eql t x y u) (.bool a.isNone) := by
  obtain ⟨i, he, _⟩ := h.ok
  exact pu_eq_of hx hy eqGuard_sl rfl (fun d w => by cases a <;> simp [Op.equalIn, run_underlying he])
theorem pu_sl_ne_nil {t u : TypeId} {e n b : Nat} [h : TSl P t e n b] {x y : Operand} {a : Option Addr} {l c l' c' : Nat} (hx : evalE env x = some (.slice a l c)) (hy : evalE env y = some (.slice none l' c')) : Pu P env (.binOp .neq t x y u) (.bool (!a.isNone)) := by
  obtain ⟨i, he, _⟩ := h.ok
  exact pu_ne_of hx hy eqGuard_sl rfl (fun d w => by cases a <;> simp [Op.equalIn, run_underlying he])
theorem pu_fn_eq_nil {t u : TypeId} [h : TFn P t] {x y : Operand} {fn : Fn} {fi ca : Array Value} (hx : evalE env x = some (.func fn fi ca)) (hy : evalE env y = some .nilFunc) : Pu P env (.binOp .eql t x y u) (.bool false) := by
  obtain ⟨_, _, _, he⟩ := h.ok
  exact pu_eq_of hx hy eqGuard_fn rfl (fun d w => by simp [Op.equalIn, run_underlying he])
theorem pu_iface {t : TypeId} [h : TConc P t] {x : Operand} {v : Value} (hx : evalE env x = some v) : Pu P env (.makeInterface t x) (.iface t v) := fun ρ hρ _ _ _ _ _ w => by
  obtain ⟨d, he, hd⟩ := h.ok
  cases d <;> simp_all [execOp, hρ x _ hx, Instr.makeInterface, run_underlying he]
theorem pu_func {fn : Fn} {fi ca : Array Operand} {vs us : List Value} (h1 : fi.toList.map (evalE env) = vs.map some) (h2 : ca.toList.map (evalE env) = us.map some) : Pu P env (.makeFunc fn fi ca) (.func fn vs.toArray us.toArray) := fun ρ hρ _ _ _ _ _ w => by
  have key : ∀ (xs : List Operand) (args : List Value), xs.map (evalE env) = args.map some → xs.map ρ = args := by
    intro xs
    induction xs with
    | nil => intro args h; cases args <;> simp_all
    | cons x xs ih =>
      intro args h
      cases args with
      | nil => simp at h
      | cons v vs =>
        simp only [List.map_cons, List.cons.injEq] at h
        rw [List.map_cons, hρ _ _ h.1, ih vs h.2]
  have e1 : fi.map ρ = vs.toArray := by apply Array.ext'; rw [Array.toList_map]; simpa using key _ _ h1
  have e2 : ca.map ρ = us.toArray := by apply Array.ext'; rw [Array.toList_map]; simpa using key _ _ h2
  simp [execOp, Instr.makeFunc, e1, e2]
theorem addr_add (b o n : Nat) : (⟨b, o, none⟩ : Addr).add n = ⟨b, o + n, none⟩ := by unfold Addr.add; split <;> simp_all
theorem pu_fieldAddr {t i off b o : Nat} [h : TFld P t i off] {x : Operand} (hx : evalE env x = some (.pointer (some ⟨b, o, none⟩))) : Pu P env (.fieldAddr t x i) (.pointer (some ⟨b, o + off, none⟩)) := fun ρ hρ _ _ _ _ _ w => by
  obtain ⟨fs, f, j, h1, h2, h3, h4, h5⟩ := h.ok
  simp [execOp, hρ x _ hx, Instr.fieldAt, run_underlying h1, h2, Instr.sureAddr, fieldPlace, Go.sizeOf, typeInfo, h4, h5, addr_add, h3]
/-- at a block's head -/
theorem pu_fieldAddr0 {t i off b : Nat} [h : TFld P t i off] {x : Operand} (hx : evalE env x = some (.pointer (some ⟨b, 0, none⟩))) : Pu P env (.fieldAddr t x i) (.pointer (some ⟨b, off, none⟩)) := by
  have := pu_fieldAddr (P := P) (t := t) (i := i) hx; rwa [Nat.zero_add] at this
theorem pu_extract {x : Operand} {vs : Array Value} {i : Nat} {v : Value} (hx : evalE env x = some (.tuple vs)) (hv : vs[i]? = some v) : Pu P env (.extract x i) v := fun ρ hρ _ _ _ _ _ w => by
  simp [execOp, hρ x _ hx, Instr.extract, hv]
theorem pu_len {t : TypeId} {e n b : Nat} [h : TSl P t e n b] {x : Operand} {a : Option Addr} {l c : Nat} (hx : evalE env x = some (.slice a l c)) : Pu P env (.call { callee := .builtin .len, args := #[x], argTypes := #[t] }) (.int .i64 l) := fun ρ hρ _ _ _ _ _ w => by
  obtain ⟨i, he, _⟩ := h.ok
  simp [execOp, resolve, invoke, builtin, hρ x _ hx, Builtin.len_, run_underlying he, goInt]
theorem pu_cap {t : TypeId} {e n b : Nat} [h : TSl P t e n b] {x : Operand} {a : Option Addr} {l c : Nat} (hx : evalE env x = some (.slice a l c)) : Pu P env (.call { callee := .builtin .cap, args := #[x], argTypes := #[t] }) (.int .i64 c) := fun ρ hρ _ _ _ _ _ w => by
  obtain ⟨i, he, _⟩ := h.ok
  simp [execOp, resolve, invoke, builtin, hρ x _ hx, Builtin.cap_, run_underlying he, goInt]
/-- the address of an element: j the index, k where it lies -/
theorem pu_indexAddr {t : TypeId} {e n by_ : Nat} [h : TSl P t e n by_] {x y : Operand} {b o l c : Nat} {ki : IntKind} {i : Int} (k : Nat) (hx : evalE env x = some (.slice (some ⟨b, o, none⟩) l c)) (hy : evalE env y = some (.int ki i)) (h0 : 0 ≤ i) (hl : i < l) (hk : o + i.toNat * n = k) :
    Pu P env (.indexAddr t x y) (.pointer (some ⟨b, k, none⟩)) := fun ρ hρ _ _ _ _ _ w => by
  obtain ⟨j, he, hj, hn, _⟩ := h.ok
  simp [execOp, hρ x _ hx, hρ y _ hy, Instr.indexAt, asIntOf, run_underlying he, h0, hl, Go.sizeOf, typeInfo, hj, hn, addr_add, hk]
theorem pu_slice_hi {t e n by_ : Nat} [h : TSl P t e n by_] {x y : Operand} {A : Option Addr} {l c : Nat} {ki : IntKind} {hi : Int} (k : Nat) (hx : evalE env x = some (.slice A l c)) (hy : evalE env y = some (.int ki hi)) (hk : hi = (k : Int)) (hc : k ≤ c) :
    Pu P env (.slice t x none (some y) none) (.slice A k c) := fun ρ hρ _ _ _ _ _ w => by
  obtain ⟨j, he, hj, hn, _⟩ := h.ok
  have h0 : (0 : Int) ≤ (k : Int) ∧ (k : Int) ≤ (c : Int) := ⟨by omega, by omega⟩
  cases A with
  | none => (simp [execOp, hρ x _ hx, hρ y _ hy, hk, Instr.sliceAt, run_underlying he, Instr.slice, Instr.sliceBounds, Instr.sliceBound, asIntOf, h0, Go.sizeOf, typeInfo, hj]; try (intro hlt; omega))
  | some A => (simp [execOp, hρ x _ hx, hρ y _ hy, hk, Instr.sliceAt, run_underlying he, Instr.slice, Instr.sliceBounds, Instr.sliceBound, asIntOf, h0, Go.sizeOf, typeInfo, hj, Addr.add]; try (intro hlt; omega))
theorem pu_slice_lo {t e n by_ : Nat} [h : TSl P t e n by_] {x y : Operand} {b o l c : Nat} {ki : IntKind} {lo : Int} (k : Nat) (hx : evalE env x = some (.slice (some ⟨b, o, none⟩) l c)) (hy : evalE env y = some (.int ki lo)) (hk : lo = (k : Int)) (hc : k ≤ l) :
    Pu P env (.slice t x (some y) none none) (.slice (some ⟨b, if c = k then o else o + k * n, none⟩) (l - k) (c - k)) := fun ρ hρ _ _ _ _ _ w => by
  obtain ⟨j, he, hj, hn, _⟩ := h.ok
  have h0 : (0 : Int) ≤ (k : Int) ∧ (k : Int) ≤ (l : Int) := ⟨by omega, by omega⟩
  by_cases hck : c = k
  · (simp [execOp, hρ x _ hx, hρ y _ hy, hk, Instr.sliceAt, run_underlying he, Instr.slice, Instr.sliceBounds, Instr.sliceBound, asIntOf, h0, Go.sizeOf, typeInfo, hj, hck]; try (intro hlt; omega))
  · (simp [execOp, hρ x _ hx, hρ y _ hy, hk, Instr.sliceAt, run_underlying he, Instr.slice, Instr.sliceBounds, Instr.sliceBound, asIntOf, h0, Go.sizeOf, typeInfo, hj, hck, addr_add, hn]; try (intro hlt; omega))
end
end SX
