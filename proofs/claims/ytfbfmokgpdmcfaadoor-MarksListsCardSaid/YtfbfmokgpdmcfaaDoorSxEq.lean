/- Two structs of two ints each, compared. -/
import Derived.Test.YtfbfmokgpdmcfaaDoorSxMore
import Derived.Laws.StructEq
import Derived.ChangeKeysEq
namespace SX
open Go
variable {P : Program} {env : Env}

def eq2B (P : Program) (t : TypeId) : Bool :=
  !P.stoodInHeld t && match (P.fieldsOf t).toList with
  | [f, g] => f.name != "_" && g.name != "_" && f.offset == 0 && g.offset == 1 && P.plainKey f.type && P.plainKey g.type &&
    (match P.underlying t with | some (.struct _) => true | _ => false) && (match P.underlying f.type with | some (.int _) => true | _ => false) && (match P.underlying g.type with | some (.int _) => true | _ => false)
  | _ => false
class TEq2 (P : Program) (t : TypeId) : Prop where
  ok : eq2B P t = true
  gd : P.eqGuardType P.depth t = false

theorem run_eq2 {t : TypeId} [h : TEq2 P t] (d : Nat) (k k' : IntKind) (a b c e : Int) (w : World) :
    (Op.equalIn (d + 2) t (.agg #[.int k a, .int k' b]) (.agg #[.int k c, .int k' e])).run P w = .ok (decide (a = c) && decide (b = e)) w := by
  have h := h.ok
  unfold eq2B at h
  simp only [Bool.and_eq_true, Bool.not_eq_true'] at h
  obtain ⟨h1, h2⟩ := h
  split at h2
  · rename_i f g hfs
    simp only [Bool.and_eq_true, bne_iff_ne, beq_iff_eq] at h2
    obtain ⟨⟨⟨⟨⟨⟨⟨⟨n1, n2⟩, o1⟩, o2⟩, p1⟩, p2⟩, hs⟩, u1⟩, u2⟩ := h2
    have ht : P.underlying t = some (.struct (P.fieldsOf t)) := by
      unfold Program.fieldsOf
      split at hs
      · rename_i fs hu; rw [hu]
      · cases hs
    rw [run_equalIn_struct w (d + 1) t _ _ ht h1, hfs]
    split at u1
    · rename_i k1 hk1
      split at u2
      · rename_i k2 hk2
        have q1 := run_part_plain (P := P) w p1 (xs := #[.int k a, .int k' b]) (off := 0) (v := .int k a) rfl
        have q2 := run_part_plain (P := P) w p1 (xs := #[.int k c, .int k' e]) (off := 0) (v := .int k c) rfl
        have q3 := run_part_plain (P := P) w p2 (xs := #[.int k a, .int k' b]) (off := 1) (v := .int k' b) rfl
        have q4 := run_part_plain (P := P) w p2 (xs := #[.int k c, .int k' e]) (off := 1) (v := .int k' e) rfl
        simp only [Op.eqFields, n1, n2, ne_eq, not_false_eq_true, if_true, o1, o2, Sem.run_bind, q1, q2, q3, q4, Result.andThen_ok, run_equalIn_int _ _ _ _ _ _ _ hk1, run_equalIn_int _ _ _ _ _ _ _ hk2, Sem.run_ite, Sem.run_pure]
        by_cases e1 : a = c <;> by_cases e2 : b = e <;> simp [e1, e2]
      · cases u2
    · cases u1
  · cases h2

theorem eqGuard_agg {t : TypeId} [h : TEq2 P t] {a b : Array Value} : ∀ op X Y w, (eqGuard op t X Y (.agg a) (.agg b)).run P w = .ok () w := fun op X Y w => by
  cases op <;> simp [eqGuard, h.gd]
theorem pu_st2_eq {t u : TypeId} [h : TEq2 P t] {x y : Operand} {k k' : IntKind} {a b c e : Int} (hx : evalE env x = some (.agg #[.int k a, .int k' b])) (hy : evalE env y = some (.agg #[.int k c, .int k' e])) :
    Pu P env (.binOp .eql t x y u) (.bool (decide (a = c) && decide (b = e))) := fun ρ hρ _ _ _ _ _ w => by
  have h1 : (Op.equal t (.agg #[.int k a, .int k' b]) (.agg #[.int k c, .int k' e])).run P w = .ok _ w := run_eq2 9998 k k' a b c e w
  simp only [execOp, hρ x _ hx, hρ y _ hy, Sem.run_bind, eqGuard_agg, Result.andThen_ok, binOp, h1, Sem.run_pure]
theorem pu_st2_ne {t u : TypeId} [h : TEq2 P t] {x y : Operand} {k k' : IntKind} {a b c e : Int} (hx : evalE env x = some (.agg #[.int k a, .int k' b])) (hy : evalE env y = some (.agg #[.int k c, .int k' e])) :
    Pu P env (.binOp .neq t x y u) (.bool (!(decide (a = c) && decide (b = e)))) := fun ρ hρ _ _ _ _ _ w => by
  have h1 : (Op.equal t (.agg #[.int k a, .int k' b]) (.agg #[.int k c, .int k' e])).run P w = .ok _ w := run_eq2 9998 k k' a b c e w
  simp only [execOp, hρ x _ hx, hρ y _ hy, Sem.run_bind, eqGuard_agg, Result.andThen_ok, binOp, h1, Sem.run_pure]
end SX
