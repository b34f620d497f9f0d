/- Words: how many bits, the lowest one, the highest one; indexes into arrays and texts. -/
import Derived.Test.YtfbfmokgpdmcfaaDoorSxPop
import Derived.Lib.TrailingZeros
namespace SX
open Go

section
variable {P : Program} {env : Env}
/-- an array type: its length, its element, the element's cells -/
class TArr (P : Program) (t : TypeId) (len : outParam Nat) (e : outParam TypeId) (n : outParam Nat) : Prop where
  und : P.underlying t = some (.array len e)
  inf : (P.info? e).map (·.size) = some n
theorem pu_indexAddr_arr {t len e n : Nat} [h : TArr P t len e n] {x y : Operand} {b o : Nat} {ki : IntKind} {i : Int} (k : Nat) (hx : evalE env x = some (.pointer (some ⟨b, o, none⟩))) (hy : evalE env y = some (.int ki i)) (h0 : 0 ≤ i) (hl : i < len) (hk : o + i.toNat * n = k) :
    Pu P env (.indexAddr t x y) (.pointer (some ⟨b, k, none⟩)) := fun ρ hρ _ _ _ _ _ w => by
  have hs := run_sizeOf h.inf w
  simp [execOp, hρ x _ hx, hρ y _ hy, Instr.indexAt, asIntOf, run_underlying h.und, h0, hl, Instr.sureAddr, hs, addr_add, hk]
theorem pu_index_str {t : TypeId} [h : TStr P t] {x y : Operand} {s : ByteArray} {ki : IntKind} {i : Int} {b : UInt8} (hx : evalE env x = some (.string s)) (hy : evalE env y = some (.int ki i)) (h0 : 0 ≤ i) (hb : s[i.toNat]? = some b) :
    Pu P env (.index t x y) (.int .u8 (b.toNat : Nat)) := fun ρ hρ _ _ _ _ _ w => by
  simp [execOp, hρ x _ hx, hρ y _ hy, Instr.index, asIntOf, run_underlying h.und, h0, hb]
theorem pu_and_nat {t u : TypeId} {x y : Operand} (a b : Nat) (hx : evalE env x = some (.int .i64 (a : Nat))) (hy : evalE env y = some (.int .i64 (b : Nat))) (ha : a < 9223372036854775808) (hb : b < 9223372036854775808) : Pu P env (.binOp .and t x y u) (.int .i64 ((a &&& b : Nat) : Int)) := fun ρ hρ _ _ _ _ _ w => by
  have hg : ∀ X Y, eqGuard .and t X Y (.int .i64 (a : Nat)) (.int .i64 (b : Nat)) = pure () := fun _ _ => by simp [eqGuard]
  have hle : a &&& b ≤ a := Nat.and_le_left
  have hb' : (binOp .and t (.int .i64 (a : Nat)) (.int .i64 (b : Nat)) : Sem Value) = pure (.int .i64 ((a &&& b : Nat) : Int)) := by
    have e : (binOp .and t (.int .i64 (a : Nat)) (.int .i64 (b : Nat)) : Sem Value) = Op.intBits .and .i64 a b := by simp [binOp]
    rw [e]
    show (let a' : BitVec 64 := BitVec.ofInt 64 a; let b' : BitVec 64 := BitVec.ofInt 64 b; pure (.int .i64 (IntKind.i64.wrap (a' &&& b').toNat)) : Sem Value) = _
    have e1 : (BitVec.ofInt 64 (a : Int)).toNat = a := by rw [BitVec.ofInt_natCast, BitVec.toNat_ofNat]; exact Nat.mod_eq_of_lt (by omega)
    have e2 : (BitVec.ofInt 64 (b : Int)).toNat = b := by rw [BitVec.ofInt_natCast, BitVec.toNat_ofNat]; exact Nat.mod_eq_of_lt (by omega)
    simp only [BitVec.toNat_and, e1, e2]
    rw [wrap_i64 (by omega) (by omega)]
  simp only [execOp, hρ x _ hx, hρ y _ hy, Sem.run_bind, hg, hb', Sem.run_pure, Result.andThen_ok]
end

section
variable {P : Program} {env : Env}
class TBool (P : Program) (t : TypeId) : Prop where
  und : P.underlying t = some .bool
theorem eqGuard_bool {t : TypeId} {a b : Bool} : ∀ op X Y w, (eqGuard op t X Y (.bool a) (.bool b)).run P w = .ok () w := fun op X Y w => by
  cases op <;> rfl
theorem pu_bool_eq {t u : TypeId} [h : TBool P t] {x y : Operand} {a b : Bool} (hx : evalE env x = some (.bool a)) (hy : evalE env y = some (.bool b)) : Pu P env (.binOp .eql t x y u) (.bool (a == b)) :=
  pu_eq_of hx hy eqGuard_bool rfl (fun d w => by simp [Op.equalIn, run_underlying h.und])
theorem pu_bool_ne {t u : TypeId} [h : TBool P t] {x y : Operand} {a b : Bool} (hx : evalE env x = some (.bool a)) (hy : evalE env y = some (.bool b)) : Pu P env (.binOp .neq t x y u) (.bool (!(a == b))) :=
  pu_ne_of hx hy eqGuard_bool rfl (fun d w => by simp [Op.equalIn, run_underlying h.und])
end

/-! ### how many -/
def popc (w : BitVec 64) : Nat := ((List.range 64).filter fun i => w.getLsbD i).length
theorem sum_toNat (f : Nat → Bool) (l : List Nat) : (l.map fun i => (f i).toNat).sum = (l.filter f).length := by
  induction l with
  | nil => rfl
  | cons a l ih =>
    rw [List.map_cons, List.sum_cons, ih, List.filter_cons]
    cases f a <;> simp <;> omega
def onesB (w : BitVec 64) : BitVec 64 :=
  let a := ((w >>> 1) &&& 6148914691236517205#64) + (w &&& 6148914691236517205#64)
  let b := ((a >>> 2) &&& 3689348814741910323#64) + (a &&& 3689348814741910323#64)
  let c := ((b >>> 4) + b) &&& 1085102592571150095#64
  let d := c + (c >>> 8)
  let e := d + (d >>> 16)
  e + (e >>> 32)
theorem onesB_eq (w : BitVec 64) : (onesB w).toNat &&& 127 = popc w ∧ (onesB w).toNat < 9223372036854775808 := by
  obtain ⟨h1, a, b, c, ha, hb, hc, la, lb', lb, ld, le, lf, lf2⟩ := onesN_eq w.toNat (by have := w.isLt; omega)
  have hA : (((w >>> 1) &&& 6148914691236517205#64) + (w &&& 6148914691236517205#64)).toNat = a := by
    rw [BitVec.toNat_add, BitVec.toNat_and, BitVec.toNat_and, BitVec.toNat_ushiftRight, ha]
    exact Nat.mod_eq_of_lt (by rw [ha] at la; exact la)
  generalize hAA : ((w >>> 1) &&& 6148914691236517205#64) + (w &&& 6148914691236517205#64) = A at hA
  have hB : (((A >>> 2) &&& 3689348814741910323#64) + (A &&& 3689348814741910323#64)).toNat = b := by
    rw [BitVec.toNat_add, BitVec.toNat_and, BitVec.toNat_and, BitVec.toNat_ushiftRight, hA, hb]
    exact Nat.mod_eq_of_lt (by rw [hb] at lb; exact lb)
  generalize hBB : ((A >>> 2) &&& 3689348814741910323#64) + (A &&& 3689348814741910323#64) = B at hB
  have hC : (((B >>> 4) + B) &&& 1085102592571150095#64).toNat = c := by
    rw [BitVec.toNat_and, BitVec.toNat_add, BitVec.toNat_ushiftRight, hB, hc, Nat.mod_eq_of_lt lb']; rfl
  generalize hCC : ((B >>> 4) + B) &&& 1085102592571150095#64 = C at hC
  have hD : (C + (C >>> 8)).toNat = c + (c >>> 8) := by
    rw [BitVec.toNat_add, BitVec.toNat_ushiftRight, hC]; exact Nat.mod_eq_of_lt ld
  generalize hDD : C + (C >>> 8) = D at hD
  have hE : (D + (D >>> 16)).toNat = (c + (c >>> 8)) + ((c + (c >>> 8)) >>> 16) := by
    rw [BitVec.toNat_add, BitVec.toNat_ushiftRight, hD]; exact Nat.mod_eq_of_lt le
  generalize hEE : D + (D >>> 16) = E at hE
  have hF : (E + (E >>> 32)).toNat = ((c + (c >>> 8)) + ((c + (c >>> 8)) >>> 16)) + (((c + (c >>> 8)) + ((c + (c >>> 8)) >>> 16)) >>> 32) := by
    rw [BitVec.toNat_add, BitVec.toNat_ushiftRight, hE]; exact Nat.mod_eq_of_lt lf
  have hO : onesB w = E + (E >>> 32) := by
    unfold onesB
    simp only [hAA, hBB, hCC, hDD, hEE]
  rw [hO, hF]
  refine ⟨?_, lf2⟩
  have h2 : onesN w.toNat = (((c + (c >>> 8)) + ((c + (c >>> 8)) >>> 16)) + (((c + (c >>> 8)) + ((c + (c >>> 8)) >>> 16)) >>> 32)) &&& 127 := by
    unfold onesN
    simp only [← ha, ← hb, ← hc]
  rw [← h2, h1, sum_toNat]
  rfl

/-! ### the lowest bit -/
def ctz (w : BitVec 64) : Nat := Lib.ctz 64 w.toNat
theorem ctz_spec {w : BitVec 64} (h : w ≠ 0#64) : ctz w < 64 ∧ w.getLsbD (ctz w) = true ∧ ∀ j, j < ctz w → w.getLsbD j = false := by
  have h0 : w.toNat ≠ 0 := fun e => h (BitVec.eq_of_toNat_eq (by simpa using e))
  obtain ⟨m, hm, hk⟩ := Lib.ctzFrom_spec 64 w.toNat (by omega) (by have := w.isLt; omega)
  have e : ctz w = Lib.ctzFrom 64 w.toNat := by simp [ctz, Lib.ctz, h0]
  rw [e]
  generalize Lib.ctzFrom 64 w.toNat = k at *
  have hb : ∀ j, w.getLsbD j = (2 ^ k * (2 * m + 1)).testBit j := fun j => by rw [← hm]; rfl
  refine ⟨hk, ?_, fun j hj => ?_⟩
  · rw [hb, Nat.mul_comm, Nat.testBit_mul_two_pow]
    simp [Nat.testBit_zero]
  · rw [hb, Nat.mul_comm, Nat.testBit_mul_two_pow]
    simp [show ¬ k ≤ j by omega]
theorem ctz_idx {w : BitVec 64} (h : w ≠ 0#64) : (((w &&& -w) * 285870213051353865#64) >>> 58).toNat < 64 ∧ Lib.deBruijn64tab.getD (((w &&& -w) * 285870213051353865#64) >>> 58).toNat 0 = ctz w := by
  have h0 : w.toNat ≠ 0 := fun e => h (BitVec.eq_of_toNat_eq (by simpa using e))
  obtain ⟨hlow, hk⟩ := Lib.lowest_bit 64 w.toNat h0 (by have := w.isLt; omega)
  have hat := Lib.deBruijn64_at _ hk
  have e : (((w &&& -w) * 285870213051353865#64) >>> 58).toNat = 2 ^ Lib.ctz 64 w.toNat * 285870213051353865 % 18446744073709551616 / 288230376151711744 := by
    rw [BitVec.toNat_ushiftRight, BitVec.toNat_mul, BitVec.toNat_and, BitVec.toNat_neg, Nat.shiftRight_eq_div_pow]
    rw [Nat.mod_eq_of_lt (a := 2 ^ 64 - w.toNat) (by have := w.isLt; omega), hlow]
    rfl
  rw [e]
  exact hat

/-! ### the highest bit -/
/-- how many bits a number takes -/
def bl (x : Nat) : Nat := if x = 0 then 0 else Nat.log2 x + 1
theorem bl_of {x n : Nat} (h1 : x < 2 ^ n) (h2 : n = 0 ∨ 2 ^ (n - 1) ≤ x) : bl x = n := by
  unfold bl
  split
  · rename_i h; subst h
    rcases h2 with h2 | h2
    · exact h2.symm
    · have := Nat.two_pow_pos (n - 1); omega
  · rename_i h
    rcases h2 with rfl | h2
    · simp at h1; omega
    · have a1 := (Nat.log2_lt h).2 h1
      have a2 := (Nat.le_log2 h).2 h2
      by_cases hn : n = 0
      · omega
      · omega
theorem bl_lt (x : Nat) : x < 2 ^ bl x ∧ (bl x = 0 ∨ 2 ^ (bl x - 1) ≤ x) := by
  unfold bl
  split
  · rename_i h; subst h; exact ⟨by decide, .inl rfl⟩
  · rename_i h
    exact ⟨(Nat.log2_lt h).1 (by omega), .inr (by rw [Nat.add_sub_cancel]; exact (Nat.le_log2 h).1 (Nat.le_refl _))⟩
theorem bl_shr {x k : Nat} (h : 2 ^ k ≤ x) : bl x = bl (x >>> k) + k := by
  obtain ⟨h1, h2⟩ := bl_lt (x >>> k)
  rw [Nat.shiftRight_eq_div_pow] at *
  have hp := Nat.two_pow_pos k
  have hq : 1 ≤ x / 2 ^ k := (Nat.le_div_iff_mul_le hp).2 (by omega)
  refine bl_of ?_ ?_
  · rw [Nat.pow_add]; exact (Nat.div_lt_iff_lt_mul hp).1 h1
  · right
    rcases h2 with h2 | h2
    · rw [h2] at h1; simp at h1; omega
    · have hb : bl (x / 2 ^ k) ≠ 0 := fun e => by rw [e] at h1; simp at h1; omega
      rw [show bl (x / 2 ^ k) + k - 1 = (bl (x / 2 ^ k) - 1) + k by omega, Nat.pow_add]
      exact (Nat.le_div_iff_mul_le hp).1 h2
theorem bl_spec {w : BitVec 64} (h : w ≠ 0#64) : 1 ≤ bl w.toNat ∧ bl w.toNat ≤ 64 ∧ w.getLsbD (bl w.toNat - 1) = true ∧ ∀ j, bl w.toNat - 1 < j → w.getLsbD j = false := by
  have h0 : w.toNat ≠ 0 := fun e => h (BitVec.eq_of_toNat_eq (by simpa using e))
  obtain ⟨h1, h2⟩ := bl_lt w.toNat
  have hb : bl w.toNat ≠ 0 := fun e => by rw [e] at h1; simp at h1; omega
  have h2' : 2 ^ (bl w.toNat - 1) ≤ w.toNat := h2.resolve_left hb
  refine ⟨by omega, ?_, ?_, fun j hj => ?_⟩
  · have hlt := w.isLt
    have : 2 ^ (bl w.toNat - 1) < 2 ^ 64 := by omega
    have := (Nat.pow_lt_pow_iff_right (by decide : 1 < 2)).1 this
    omega
  · show w.toNat.testBit _ = true
    rw [Nat.testBit_eq_decide_div_mod_eq]
    have e : 2 ^ bl w.toNat = 2 ^ (bl w.toNat - 1) * 2 := by rw [← Nat.pow_succ]; congr 1; omega
    rw [e] at h1
    have hd : w.toNat / 2 ^ (bl w.toNat - 1) = 1 := by
      apply Nat.div_eq_of_lt_le
      · omega
      · omega
    simp [hd]
  · show w.toNat.testBit _ = false
    exact Nat.testBit_lt_two_pow (Nat.lt_of_lt_of_le h1 (Nat.pow_le_pow_right (by decide) (by omega)))
end SX
