/- A part of the proof: walks of the program's functions, and the rules by which they go. -/
import Derived.Test.YtfbfmokgpdmcfaaDoorBd2ee4432
import Derived.Lib.TrailingZeros
import Derived.MapKept
import Derived.Carry
import Derived.OpenShut
import Derived.ProofKit
import Derived.Deep.SlicePairs
import Derived.Deep.Grids
import Derived.Laws.CopyRow
import Derived.JoinedCond
import Derived.LaidMore
import Derived.Test.YtfbfmokgpdmcfaaDoorProg
namespace SX
open Go

/-- an integer type -/
class TInt (P : Program) (t : TypeId) (k : outParam IntKind) : Prop where
  und : P.underlying t = some (.int k)
class TStr (P : Program) (t : TypeId) : Prop where
  und : P.underlying t = some .string

theorem ent_appC {L1 L2 L3 K : List Assn} [h : AppC L1 L2 L3] (k : Ent L3 K) : Ent (L1 ++ L2) K := by rw [h.ok]; exact k
section
variable {P : Program} {env : Env}
theorem pu_conv {s t : TypeId} {ks k k' : IntKind} [hs : TInt P s ks] [ht : TInt P t k'] {x : Operand} {n : Int} (hx : evalE env x = some (.int k n)) : Pu P env (.convert s t x) (.int k' (k'.wrap n)) := fun ρ hρ _ _ _ _ _ w => by
  simp [execOp, hρ x _ hx, convert, run_underlying hs.und, run_underlying ht.und, Conv.intToInt]
theorem pu_conv_as {s t : TypeId} {ks k k' : IntKind} [hs : TInt P s ks] [ht : TInt P t k'] {x : Operand} {n : Int} (hx : evalE env x = some (.int k n)) (h : k'.wrap n = n) : Pu P env (.convert s t x) (.int k' n) := by
  have := pu_conv (P := P) (s := s) (t := t) hx; rwa [h] at this
theorem pu_conv_i64 {s t : TypeId} {ks k : IntKind} [hs : TInt P s ks] [ht : TInt P t .i64] {x : Operand} {n : Int} (hx : evalE env x = some (.int k n)) (h1 : -9223372036854775808 ≤ n) (h2 : n ≤ 9223372036854775807) : Pu P env (.convert s t x) (.int .i64 n) := pu_conv_as hx (wrap_i64 h1 h2)
theorem pu_conv_u64 {s t : TypeId} {ks k : IntKind} [hs : TInt P s ks] [ht : TInt P t .u64] {x : Operand} {n : Int} (hx : evalE env x = some (.int k n)) (h1 : 0 ≤ n) (h2 : n ≤ 18446744073709551615) : Pu P env (.convert s t x) (.int .u64 n) := pu_conv_as hx (IntWalk.u64_in n ⟨h1, h2⟩)
/-- between text types -/
theorem pu_conv_str {s t : TypeId} [hs : TStr P s] [ht : TStr P t] {x : Operand} {b : ByteArray} (hx : evalE env x = some (.string b)) : Pu P env (.convert s t x) (.string b) := fun ρ hρ _ _ _ _ _ w => by
  simp [execOp, hρ x _ hx, convert, run_underlying hs.und, run_underlying ht.und]

theorem pu_str_op {t u : TypeId} {op : BinOp} {x y : Operand} {a b : ByteArray} {v : Value} (hx : evalE env x = some (.string a)) (hy : evalE env y = some (.string b)) (hop : binOp op t (.string a) (.string b) = Op.stringOp op a b) (hg : ∀ X Y w, (eqGuard op t X Y (.string a) (.string b)).run P w = .ok () w) (hv : ∀ w, (Op.stringOp op a b).run P w = .ok v w) : Pu P env (.binOp op t x y u) v := fun ρ hρ _ _ _ _ _ w => by
  simp only [execOp, hρ x _ hx, hρ y _ hy, Sem.run_bind, hg, Result.andThen_ok, hop, hv, Sem.run_pure]
theorem eqGuard_str {t : TypeId} {a b : ByteArray} : ∀ op X Y w, (eqGuard op t X Y (.string a) (.string b)).run P w = .ok () w := fun op X Y w => by
  cases op <;> rfl
def strLt (a b : ByteArray) : Bool := Op.bytesLess a.toList b.toList
def strEq (a b : ByteArray) : Bool := a.toList == b.toList
theorem pu_str_eql {t u : TypeId} {x y : Operand} {a b : ByteArray} (hx : evalE env x = some (.string a)) (hy : evalE env y = some (.string b)) : Pu P env (.binOp .eql t x y u) (.bool (strEq a b)) := pu_str_op hx hy rfl (eqGuard_str _) (fun _ => rfl)
theorem pu_str_neq {t u : TypeId} {x y : Operand} {a b : ByteArray} (hx : evalE env x = some (.string a)) (hy : evalE env y = some (.string b)) : Pu P env (.binOp .neq t x y u) (.bool (!strEq a b)) := pu_str_op hx hy rfl (eqGuard_str _) (fun _ => rfl)
theorem pu_str_lss {t u : TypeId} {x y : Operand} {a b : ByteArray} (hx : evalE env x = some (.string a)) (hy : evalE env y = some (.string b)) : Pu P env (.binOp .lss t x y u) (.bool (strLt a b)) := pu_str_op hx hy rfl (eqGuard_str _) (fun _ => rfl)
theorem pu_str_leq {t u : TypeId} {x y : Operand} {a b : ByteArray} (hx : evalE env x = some (.string a)) (hy : evalE env y = some (.string b)) : Pu P env (.binOp .leq t x y u) (.bool (strLt a b || strEq a b)) := pu_str_op hx hy rfl (eqGuard_str _) (fun _ => rfl)
theorem pu_str_gtr {t u : TypeId} {x y : Operand} {a b : ByteArray} (hx : evalE env x = some (.string a)) (hy : evalE env y = some (.string b)) : Pu P env (.binOp .gtr t x y u) (.bool (!(strLt a b || strEq a b))) := pu_str_op hx hy rfl (eqGuard_str _) (fun _ => rfl)
theorem pu_str_geq {t u : TypeId} {x y : Operand} {a b : ByteArray} (hx : evalE env x = some (.string a)) (hy : evalE env y = some (.string b)) : Pu P env (.binOp .geq t x y u) (.bool (!strLt a b)) := pu_str_op hx hy rfl (eqGuard_str _) (fun _ => rfl)
theorem pu_strlen {t : TypeId} [h : TStr P t] {x : Operand} {s : ByteArray} (hx : evalE env x = some (.string s)) : Pu P env (.call { callee := .builtin .len, args := #[x], argTypes := #[t] }) (.int .i64 s.size) := fun ρ hρ _ _ _ _ _ w => by
  simp [execOp, resolve, invoke, builtin, hρ x _ hx, Builtin.len_, run_underlying h.und, goInt]

theorem swl_own {ro : Option Nat} {ops : Array Oper} {Q : Post} {N : Nat} {l0 : List Oper} {e n : Nat} {v : Value} {l : Nat} {xs : List Value} {L0 L : List Assn} (ht : Take (own e n v l xs) L0 L)
    (h0 : v = .slice none 0 0 → l = 0 → xs = [] → swl P ro ops Q N l0 env L)
    (h1 : ∀ b cap ex, v = .slice (some ⟨b, 0, none⟩) l cap → l ≤ cap → cap ≤ maxLen → xs.length = l * n → ex.length = (cap - l) * n → swl P ro ops Q N l0 env (blk b e (xs ++ ex) :: L)) : swl P ro ops Q N l0 env L0 := by
  intro E D a w hd hf hh
  obtain ⟨k1, k2, k3, k4, k5⟩ := hh.ent (Ent.perm ht.perm)
  have k6 : Sat (own e n v l xs :: ((E.add D).X ++ L)) (fun b => w.heap[b]?) := Sat.perm (perm_out (.refl _)) _ k5
  rcases own_open k6 with ⟨a1, a2, a3⟩ | ⟨b, cap, ex, a1, a2, a3, a4, a5, a6⟩
  · exact h0 a1 a2 a3 E D a w hd hf ⟨k1, k2, k3, k4, k6.tail⟩
  · exact h1 b cap ex a1 a2 a3 a4 a5 E D a w hd hf ⟨k1, k2, k3, k4, Sat.perm (perm_out (.refl _)).symm _ a6⟩

/-! ### words -/
abbrev wv (w : BitVec 64) : Value := .int .u64 (w.toNat : Nat)
theorem ofInt_toNat (w : BitVec 64) : BitVec.ofInt 64 (w.toNat : Int) = w := by
  rw [← BitVec.toInt_inj, BitVec.toInt_ofInt]
  rw [BitVec.toInt_eq_toNat_bmod]
theorem wrap_word (w : BitVec 64) : IntKind.u64.wrap (w.toNat : Int) = w.toNat := IntWalk.u64_in _ ⟨by omega, by have := w.isLt; omega⟩
theorem run_bits {op : BinOp} {t u : TypeId} {x y : Operand} {a b c : BitVec 64} (hx : evalE env x = some (.int .u64 (a.toNat : Nat))) (hy : evalE env y = some (.int .u64 (b.toNat : Nat)))
    (hop : binOp op t (.int .u64 (a.toNat : Nat)) (.int .u64 (b.toNat : Nat)) = Op.intBits op .u64 a.toNat b.toNat) (hg : ∀ X Y, eqGuard op t X Y (.int .u64 (a.toNat : Nat)) (.int .u64 (b.toNat : Nat)) = pure ())
    (hc : Op.intBits op .u64 a.toNat b.toNat = pure (.int .u64 (IntKind.u64.wrap (c.toNat : Nat)))) : Pu P env (.binOp op t x y u) (.int .u64 (c.toNat : Nat)) := fun ρ hρ _ _ _ _ _ w => by
  simp only [execOp, hρ x _ hx, hρ y _ hy, Sem.run_bind, hg, Sem.run_pure, Result.andThen_ok, hop, hc, wrap_word]
theorem pu_and_w {t u : TypeId} {x y : Operand} {a b : BitVec 64} (hx : evalE env x = some (.int .u64 (a.toNat : Nat))) (hy : evalE env y = some (.int .u64 (b.toNat : Nat))) : Pu P env (.binOp .and t x y u) (.int .u64 ((a &&& b).toNat : Nat)) :=
  run_bits hx hy (by simp [binOp]) (fun _ _ => by simp [eqGuard]) (by
    show (let a' : BitVec 64 := BitVec.ofInt 64 a.toNat; let b' : BitVec 64 := BitVec.ofInt 64 b.toNat; pure (.int .u64 (IntKind.u64.wrap (a' &&& b').toNat)) : Sem Value) = _
    rw [ofInt_toNat, ofInt_toNat])
theorem pu_or_w {t u : TypeId} {x y : Operand} {a b : BitVec 64} (hx : evalE env x = some (.int .u64 (a.toNat : Nat))) (hy : evalE env y = some (.int .u64 (b.toNat : Nat))) : Pu P env (.binOp .or t x y u) (.int .u64 ((a ||| b).toNat : Nat)) :=
  run_bits hx hy (by simp [binOp]) (fun _ _ => by simp [eqGuard]) (by
    show (let a' : BitVec 64 := BitVec.ofInt 64 a.toNat; let b' : BitVec 64 := BitVec.ofInt 64 b.toNat; pure (.int .u64 (IntKind.u64.wrap (a' ||| b').toNat)) : Sem Value) = _
    rw [ofInt_toNat, ofInt_toNat])
theorem pu_xor_w {t u : TypeId} {x y : Operand} {a b : BitVec 64} (hx : evalE env x = some (.int .u64 (a.toNat : Nat))) (hy : evalE env y = some (.int .u64 (b.toNat : Nat))) : Pu P env (.binOp .xor t x y u) (.int .u64 ((a ^^^ b).toNat : Nat)) :=
  run_bits hx hy (by simp [binOp]) (fun _ _ => by simp [eqGuard]) (by
    show (let a' : BitVec 64 := BitVec.ofInt 64 a.toNat; let b' : BitVec 64 := BitVec.ofInt 64 b.toNat; pure (.int .u64 (IntKind.u64.wrap (a' ^^^ b').toNat)) : Sem Value) = _
    rw [ofInt_toNat, ofInt_toNat])
theorem pu_andNot_w {t u : TypeId} {x y : Operand} {a b : BitVec 64} (hx : evalE env x = some (.int .u64 (a.toNat : Nat))) (hy : evalE env y = some (.int .u64 (b.toNat : Nat))) : Pu P env (.binOp .andNot t x y u) (.int .u64 ((a &&& ~~~b).toNat : Nat)) :=
  run_bits hx hy (by simp [binOp]) (fun _ _ => by simp [eqGuard]) (by
    show (let a' : BitVec 64 := BitVec.ofInt 64 a.toNat; let b' : BitVec 64 := BitVec.ofInt 64 b.toNat; pure (.int .u64 (IntKind.u64.wrap (a' &&& ~~~b').toNat)) : Sem Value) = _
    rw [ofInt_toNat, ofInt_toNat])
/-- shifts of a word, by less than 64 -/
theorem pu_shl_w {t u : TypeId} {x y : Operand} {ky : IntKind} {a : BitVec 64} (n : Nat) (hx : evalE env x = some (.int .u64 (a.toNat : Nat))) (hy : evalE env y = some (.int ky (n : Nat))) (hn : n ≤ 64) : Pu P env (.binOp .shl t x y u) (.int .u64 ((a <<< n).toNat : Nat)) := fun ρ hρ _ _ _ _ _ w => by
  have hm : min n 64 = n := Nat.min_eq_left hn
  have hp : IntKind.u64.wrap ((a.toNat : Int) * 2 ^ n) = ((a <<< n).toNat : Int) := by
    rw [BitVec.toNat_shiftLeft, Nat.shiftLeft_eq]
    have e : ((a.toNat : Int) * 2 ^ n) = ((a.toNat * 2 ^ n : Nat) : Int) := by simp
    rw [e]
    generalize a.toNat * 2 ^ n = m
    show (m : Int) % (2 : Int) ^ 64 = _
    omega
  have hg : ∀ X Y, eqGuard .shl t X Y (.int .u64 (a.toNat : Nat)) (.int ky (n : Nat)) = pure () := fun _ _ => by simp [eqGuard]
  have hb : (binOp .shl t (.int .u64 (a.toNat : Nat)) (.int ky (n : Nat)) : Sem Value) = pure (.int .u64 ((a <<< n).toNat : Nat)) := by
    show Op.shift .shl .u64 _ ky _ = _
    unfold Op.shift
    rw [if_neg (by omega)]
    show (pure (.int .u64 (IntKind.u64.wrap ((a.toNat : Int) * 2 ^ (min (Int.toNat n) 64)))) : Sem Value) = _
    rw [Int.toNat_natCast, hm, hp]
  simp only [execOp, hρ x _ hx, hρ y _ hy, Sem.run_bind, hg, hb, Sem.run_pure, Result.andThen_ok]
theorem pu_shr_w {t u : TypeId} {x y : Operand} {ky : IntKind} {a : BitVec 64} (n : Nat) (hx : evalE env x = some (.int .u64 (a.toNat : Nat))) (hy : evalE env y = some (.int ky (n : Nat))) (hn : n ≤ 64) : Pu P env (.binOp .shr t x y u) (.int .u64 ((a >>> n).toNat : Nat)) := fun ρ hρ _ _ _ _ _ w => by
  have hm : min n 64 = n := Nat.min_eq_left hn
  have hp : Int.fdiv (a.toNat : Int) (2 ^ n) = ((a >>> n).toNat : Int) := by
    rw [BitVec.toNat_ushiftRight, Nat.shiftRight_eq_div_pow, Int.fdiv_eq_ediv_of_nonneg _ (Int.le_of_lt (Int.pow_pos (by decide)))]
    simp
  have hg : ∀ X Y, eqGuard .shr t X Y (.int .u64 (a.toNat : Nat)) (.int ky (n : Nat)) = pure () := fun _ _ => by simp [eqGuard]
  have hb : (binOp .shr t (.int .u64 (a.toNat : Nat)) (.int ky (n : Nat)) : Sem Value) = pure (.int .u64 ((a >>> n).toNat : Nat)) := by
    show Op.shift .shr .u64 _ ky _ = _
    unfold Op.shift
    rw [if_neg (by omega)]
    show (pure (.int .u64 (Int.fdiv (a.toNat : Int) (2 ^ (min (Int.toNat n) 64)))) : Sem Value) = _
    rw [Int.toNat_natCast, hm, hp]
  simp only [execOp, hρ x _ hx, hρ y _ hy, Sem.run_bind, hg, hb, Sem.run_pure, Result.andThen_ok]
/-- an integer's bits: a word out of a Nat -/
theorem wv_ofNat (n : Nat) (h : n < 18446744073709551616) : ((BitVec.ofNat 64 n).toNat : Int) = n := by
  rw [BitVec.toNat_ofNat, Nat.mod_eq_of_lt (by simpa using h)]
theorem pu_add_w {t u : TypeId} {x y : Operand} {a b : BitVec 64} (hx : evalE env x = some (.int .u64 (a.toNat : Nat))) (hy : evalE env y = some (.int .u64 (b.toNat : Nat))) : Pu P env (.binOp .add t x y u) (.int .u64 ((a + b).toNat : Nat)) := by
  have := pu_add (P := P) (t := t) (u := u) hx hy
  have e : IntKind.u64.wrap ((a.toNat : Int) + b.toNat) = ((a + b).toNat : Int) := by
    rw [BitVec.toNat_add]
    show ((a.toNat : Int) + b.toNat) % (2 : Int) ^ 64 = _
    omega
  rwa [e] at this
theorem pu_mul_w {t u : TypeId} {x y : Operand} {a b : BitVec 64} (hx : evalE env x = some (.int .u64 (a.toNat : Nat))) (hy : evalE env y = some (.int .u64 (b.toNat : Nat))) : Pu P env (.binOp .mul t x y u) (.int .u64 ((a * b).toNat : Nat)) := by
  have := pu_mul (P := P) (t := t) (u := u) hx hy
  have e : IntKind.u64.wrap ((a.toNat : Int) * b.toNat) = ((a * b).toNat : Int) := by
    rw [BitVec.toNat_mul]
    rw [show (a.toNat : Int) * b.toNat = ((a.toNat * b.toNat : Nat) : Int) by simp]
    generalize a.toNat * b.toNat = m
    show (m : Int) % (2 : Int) ^ 64 = _
    omega
  rwa [e] at this
theorem pu_sub_w {t u : TypeId} {x y : Operand} {a b : BitVec 64} (hx : evalE env x = some (.int .u64 (a.toNat : Nat))) (hy : evalE env y = some (.int .u64 (b.toNat : Nat))) : Pu P env (.binOp .sub t x y u) (.int .u64 ((a - b).toNat : Nat)) := by
  have := pu_sub (P := P) (t := t) (u := u) hx hy
  have e : IntKind.u64.wrap ((a.toNat : Int) - b.toNat) = ((a - b).toNat : Int) := by
    rw [BitVec.toNat_sub]
    show ((a.toNat : Int) - b.toNat) % (2 : Int) ^ 64 = _
    have := a.isLt; have := b.isLt
    omega
  rwa [e] at this
theorem pu_neg_w {t : TypeId} {x : Operand} {a : BitVec 64} (hx : evalE env x = some (.int .u64 (a.toNat : Nat))) : Pu P env (.unOp .neg t x) (.int .u64 ((-a).toNat : Nat)) := by
  have := pu_neg (P := P) (t := t) hx
  have e : IntKind.u64.wrap (0 - (a.toNat : Int)) = ((-a).toNat : Int) := by
    rw [BitVec.toNat_neg]
    show (0 - (a.toNat : Int)) % (2 : Int) ^ 64 = _
    have := a.isLt
    omega
  rwa [e] at this

/-! ### min and max of integers -/
theorem pu_min2 {k : IntKind} {ts : Array TypeId} {x y : Operand} {a b : Int} (hx : evalE env x = some (.int k a)) (hy : evalE env y = some (.int k b)) : Pu P env (.call { callee := .builtin .min, args := #[x, y], argTypes := ts }) (.int k (min a b)) := fun ρ hρ _ _ _ _ _ w => by
  have e : (if b < a then b else a) = min a b := by omega
  simp [execOp, resolve, invoke, builtin, hρ x _ hx, hρ y _ hy, Builtin.min_, Builtin.min2, e]
theorem pu_max2 {k : IntKind} {ts : Array TypeId} {x y : Operand} {a b : Int} (hx : evalE env x = some (.int k a)) (hy : evalE env y = some (.int k b)) : Pu P env (.call { callee := .builtin .max, args := #[x, y], argTypes := ts }) (.int k (max a b)) := fun ρ hρ _ _ _ _ _ w => by
  have e : (if b > a then b else a) = max a b := by omega
  simp [execOp, resolve, invoke, builtin, hρ x _ hx, hρ y _ hy, Builtin.max_, Builtin.max2, e]
end
end SX
namespace SX
open Go
theorem Spec.exA' {P : Program} {f : FuncId} {args : List Value} {pre : List Assn} {post : Value → List Assn → Prop} {α : Type} {F : α → List Assn} (h : ∀ x, Spec P f args (F x ++ pre) post) : Spec P f args (SX.exA F :: pre) post := fun E w hw => by
  obtain ⟨k1, k2, k3, k4, k5⟩ := hw
  have k6 : Sat (SX.exA F :: (E.X ++ pre)) (fun b => w.heap[b]?) := Sat.perm (perm_out (.refl _)) _ k5
  obtain ⟨x, hx⟩ := exA_open k6
  exact h x E w ⟨k1, k2, k3, k4, Sat.perm (by rw [← List.append_assoc, ← List.append_assoc]; exact List.Perm.append_right _ List.perm_append_comm) _ hx⟩
theorem Spec.ent2 {P : Program} {f : FuncId} {args : List Value} {pre : List Assn} {u : Value} {L1 L2 : List Assn} (h : Spec P f args pre (fun v L => v = u ∧ L = L1)) (e : Ent L1 L2) : Spec P f args pre (fun v L => v = u ∧ L = L2) := fun E w hw =>
  (h E w hw).mono fun _ _ ⟨v, _, a, ⟨b, c⟩, d⟩ => ⟨v, L2, a, ⟨b, rfl⟩, d.ent (c ▸ e)⟩
theorem Spec.fact' {P : Program} {f : FuncId} {args : List Value} {pre : List Assn} {post : Value → List Assn → Prop} {p : Prop} (hp : ∀ m, Sat pre m → p) (h : p → Spec P f args pre post) : Spec P f args pre post := fun E w hw => h (hp _ hw.sat) E w hw
end SX
namespace SX
open Go
theorem Spec.own_cases {P : Program} {f : FuncId} {args : List Value} {L : List Assn} {post : Value → List Assn → Prop} {e n : Nat} {v : Value} {l : Nat} {xs : List Value}
    (h0 : v = .slice none 0 0 → l = 0 → xs = [] → Spec P f args L post)
    (h1 : ∀ b cap ex, v = .slice (some ⟨b, 0, none⟩) l cap → l ≤ cap → cap ≤ maxLen → xs.length = l * n → ex.length = (cap - l) * n → Spec P f args (blk b e (xs ++ ex) :: L) post) : Spec P f args (own e n v l xs :: L) post := by
  intro E w hw
  obtain ⟨k1, k2, k3, k4, k5⟩ := hw
  have k6 : Sat (own e n v l xs :: (E.X ++ L)) (fun b => w.heap[b]?) := Sat.perm (perm_out (.refl _)) _ k5
  rcases own_open k6 with ⟨a1, a2, a3⟩ | ⟨b, cap, ex, a1, a2, a3, a4, a5, a6⟩
  · exact h0 a1 a2 a3 E w ⟨k1, k2, k3, k4, k6.tail⟩
  · exact h1 b cap ex a1 a2 a3 a4 a5 E w ⟨k1, k2, k3, k4, Sat.perm (perm_out (.refl _)).symm _ a6⟩
theorem Spec.ent3 {P : Program} {f : FuncId} {args : List Value} {pre : List Assn} {post post' : Value → List Assn → Prop} (h : Spec P f args pre post) (e : ∀ v L, post v L → ∃ L', Ent L L' ∧ post' v L') : Spec P f args pre post' := fun E w hw =>
  (h E w hw).mono fun _ _ ⟨v, L, a, b, d⟩ => let ⟨L', h1, h2⟩ := e v L b; ⟨v, L', a, h2, d.ent h1⟩
theorem own_nil_ent {e n : Nat} {L : List Assn} : Ent L (own e n (.slice none 0 0) 0 [] :: L) := fun m h => ⟨fun _ => none, m, own_nil _ _ _, h, fun _ => .inl rfl, fun _ _ h => by (cases h), fun _ _ h => h⟩
end SX
namespace SX
theorem ent_ex1 {α : Type} {F : α → List Assn} (x : α) : Ent (F x) [exA F] := fun m h => exA_close (L := []) x m (by rw [List.append_nil]; exact h)
end SX
namespace SX

/-- digits of k bits each -/
def Dg (k : Nat) : List Nat → Nat
  | [] => 0
  | d :: ds => d + 2 ^ k * Dg k ds
/-- the mask that takes every other digit -/
def Mk (k : Nat) : Nat → Nat
  | 0 => 0
  | n + 1 => (2 ^ k - 1) + 2 ^ (2 * k) * Mk k n
/-- neighbours added -/
def ps : List Nat → List Nat
  | a :: b :: r => (a + b) :: ps r
  | _ => []

theorem and_split (K : Nat) {a c : Nat} (b d : Nat) (ha : a < 2 ^ K) (hc : c < 2 ^ K) : (a + 2 ^ K * b) &&& (c + 2 ^ K * d) = (a &&& c) + 2 ^ K * (b &&& d) := by
  have h1 : (a &&& c) < 2 ^ K := Nat.and_lt_two_pow a hc
  apply Nat.eq_of_testBit_eq
  intro i
  rw [Nat.testBit_and, Nat.add_comm a, Nat.add_comm c, Nat.add_comm (a &&& c), Nat.testBit_two_pow_mul_add _ ha, Nat.testBit_two_pow_mul_add _ hc, Nat.testBit_two_pow_mul_add _ h1]
  split
  · rw [Nat.testBit_and]
  · rw [Nat.testBit_and]
theorem low_and (k : Nat) {a b : Nat} (ha : a < 2 ^ k) : (a + 2 ^ k * b) &&& (2 ^ k - 1) = a := by
  rw [Nat.and_two_pow_sub_one_eq_mod, Nat.add_mul_mod_self_left, Nat.mod_eq_of_lt ha]
theorem two_mul_pow (k : Nat) : 2 ^ (2 * k) = 2 ^ k * 2 ^ k := by rw [Nat.two_mul, Nat.pow_add]
theorem lt_two {k a b : Nat} (ha : a < 2 ^ k) (hb : b < 2 ^ k) : a + 2 ^ k * b < 2 ^ (2 * k) := by
  rw [two_mul_pow]
  have : 2 ^ k * b + 2 ^ k ≤ 2 ^ k * 2 ^ k := by rw [← Nat.mul_succ]; exact Nat.mul_le_mul_left _ hb
  omega
theorem mk_lt (k : Nat) : 2 ^ k - 1 < 2 ^ (2 * k) := by
  have h1 : 0 < 2 ^ k := Nat.two_pow_pos k
  have h2 : 2 ^ k ≤ 2 ^ (2 * k) := Nat.pow_le_pow_right (by decide) (by omega)
  omega

/-- every other digit, from the first one -/
def evs : List Nat → List Nat
  | a :: _ :: r => a :: evs r
  | _ => []
def ods : List Nat → List Nat
  | _ :: b :: r => b :: ods r
  | _ => []
theorem and_evens (k : Nat) : ∀ (n : Nat) (ds : List Nat), ds.length = 2 * n → (∀ d ∈ ds, d < 2 ^ k) → Dg k ds &&& Mk k n = Dg (2 * k) (evs ds)
  | 0, [], _, _ => by simp [Dg, evs]
  | n + 1, a :: b :: r, hl, hd => by
    have ih := and_evens k n r (by simp at hl; omega) (fun d h => hd d (by simp [h]))
    have ha := hd a (by simp)
    have hb := hd b (by simp)
    have e : Dg k (a :: b :: r) = (a + 2 ^ k * b) + 2 ^ (2 * k) * Dg k r := by
      simp only [Dg]; rw [two_mul_pow, Nat.mul_add, Nat.mul_assoc]; omega
    rw [e, Mk, and_split (2 * k) _ _ (lt_two ha hb) (mk_lt k), low_and k ha, ih]
    rfl
theorem and_odds (k : Nat) : ∀ (n : Nat) (ds : List Nat), ds.length = 2 * n → (∀ d ∈ ds, d < 2 ^ k) → (Dg k ds >>> k) &&& Mk k n = Dg (2 * k) (ods ds)
  | 0, [], _, _ => by simp [Dg, ods]
  | n + 1, a :: b :: r, hl, hd => by
    have ih := and_odds k n r (by simp at hl; omega) (fun d h => hd d (by simp [h]))
    have ha := hd a (by simp)
    have hb := hd b (by simp)
    have e : Dg k (a :: b :: r) >>> k = (b + 2 ^ k * (Dg k r % 2 ^ k)) + 2 ^ (2 * k) * (Dg k r >>> k) := by
      simp only [Dg]
      rw [Nat.shiftRight_eq_div_pow, Nat.shiftRight_eq_div_pow, Nat.add_mul_div_left _ _ (Nat.two_pow_pos k), Nat.div_eq_of_lt ha, Nat.zero_add, two_mul_pow, Nat.mul_assoc, Nat.add_assoc, ← Nat.mul_add]
      congr 2
      exact (Nat.mod_add_div _ _).symm
    rw [e, Mk, and_split (2 * k) _ _ (lt_two hb (Nat.mod_lt _ (Nat.two_pow_pos k))) (mk_lt k), low_and k hb, ih]
    rfl
theorem dg_add (K : Nat) : ∀ ds : List Nat, Dg K (ods ds) + Dg K (evs ds) = Dg K (ps ds)
  | [] => rfl
  | [_] => rfl
  | a :: b :: r => by
    have ih := dg_add K r
    simp only [ods, evs, ps, Dg]
    rw [← ih, Nat.mul_add]; omega
/-- one step of the count -/
theorem pop_step (k n : Nat) (ds : List Nat) (hl : ds.length = 2 * n) (hd : ∀ d ∈ ds, d < 2 ^ k) : ((Dg k ds >>> k) &&& Mk k n) + (Dg k ds &&& Mk k n) = Dg (2 * k) (ps ds) := by
  rw [and_odds k n ds hl hd, and_evens k n ds hl hd, dg_add]
/-- neighbours added, all of them -/
def nb : List Nat → List Nat
  | [] => []
  | [a] => [a]
  | a :: b :: r => (a + b) :: nb (b :: r)
theorem nb_len : ∀ ds : List Nat, (nb ds).length = ds.length
  | [] => rfl
  | [_] => rfl
  | a :: b :: r => by simp only [nb, List.length_cons]; rw [nb_len (b :: r)]; rfl
theorem dg_nb (k : Nat) : ∀ ds : List Nat, (∀ d ∈ ds, d < 2 ^ k) → Dg k ds >>> k + Dg k ds = Dg k (nb ds)
  | [], _ => by simp [Dg, nb]
  | [a], h => by
    have ha := h a (by simp)
    simp [Dg, nb, Nat.shiftRight_eq_div_pow, Nat.div_eq_of_lt ha]
  | a :: b :: r, h => by
    have ha := h a (by simp)
    have ih := dg_nb k (b :: r) (fun d hd => h d (by simp at hd ⊢; right; exact hd))
    have hb := h b (by simp)
    have e1 : Dg k (a :: b :: r) >>> k = Dg k (b :: r) := by
      rw [Dg, Nat.shiftRight_eq_div_pow, Nat.add_mul_div_left _ _ (Nat.two_pow_pos k), Nat.div_eq_of_lt ha, Nat.zero_add]
    have e2 : Dg k (b :: r) >>> k = Dg k r := by
      rw [Dg, Nat.shiftRight_eq_div_pow, Nat.add_mul_div_left _ _ (Nat.two_pow_pos k), Nat.div_eq_of_lt hb, Nat.zero_add]
    rw [e1]
    rw [e2] at ih
    show Dg k (b :: r) + (a + 2 ^ k * Dg k (b :: r)) = (a + b) + 2 ^ k * Dg k (nb (b :: r))
    rw [← ih, Nat.mul_add]
    simp only [Dg]
    omega
theorem evs_nb : ∀ ds : List Nat, ds.length % 2 = 0 → evs (nb ds) = ps ds
  | [], _ => rfl
  | [_], h => by simp at h
  | [a, b], _ => rfl
  | a :: b :: c :: r, h => by
    simp only [nb, evs, ps]
    rw [← evs_nb (c :: r) (by simp at h ⊢; omega)]
theorem ps_len : ∀ ds : List Nat, (ps ds).length = ds.length / 2
  | [] => rfl
  | [_] => by simp [ps]
  | a :: b :: r => by simp only [ps, List.length_cons]; rw [ps_len r]; omega
theorem ps_sum : ∀ ds : List Nat, ds.length % 2 = 0 → (ps ds).sum = ds.sum
  | [], _ => rfl
  | [_], h => by simp at h
  | a :: b :: r, h => by simp only [ps, List.sum_cons]; rw [ps_sum r (by simp at h; omega)]; omega
theorem ps_le (m : Nat) : ∀ ds : List Nat, (∀ d ∈ ds, d ≤ m) → ∀ d ∈ ps ds, d ≤ 2 * m
  | [], _, d, h => by simp [ps] at h
  | [_], _, d, h => by simp [ps] at h
  | a :: b :: r, hd, d, h => by
    simp only [ps, List.mem_cons] at h
    rcases h with rfl | h
    · have := hd a (by simp); have := hd b (by simp); omega
    · exact ps_le m r (fun x hx => hd x (by simp [hx])) d h
theorem nb_le (m : Nat) : ∀ ds : List Nat, (∀ d ∈ ds, d ≤ m) → ∀ d ∈ nb ds, d ≤ 2 * m
  | [], _, d, h => by simp [nb] at h
  | [a], hd, d, h => by simp [nb] at h; subst h; have := hd d (by simp); omega
  | a :: b :: r, hd, d, h => by
    simp only [nb, List.mem_cons] at h
    rcases h with rfl | h
    · have := hd a (by simp); have := hd b (by simp); omega
    · exact nb_le m (b :: r) (fun x hx => hd x (by simp at hx ⊢; right; exact hx)) d h

theorem dg_bits : ∀ (n x : Nat), x < 2 ^ n → x = Dg 1 ((List.range n).map fun i => (x.testBit i).toNat)
  | 0, x, h => by simp at h; subst h; rfl
  | n + 1, x, h => by
    have ih := dg_bits n (x / 2) (by rw [Nat.pow_succ] at h; omega)
    rw [List.range_succ_eq_map, List.map_cons, List.map_map, Dg]
    have e : ((fun i => (x.testBit i).toNat) ∘ Nat.succ) = fun i => ((x / 2).testBit i).toNat := by
      funext i; simp [Nat.testBit_succ]
    rw [e, ← ih, Nat.testBit_zero]
    rcases Nat.mod_two_eq_zero_or_one x with h0 | h0 <;> simp [h0] <;> omega

theorem shr_of {k y : Nat} (lo hi : Nat) (h : y = lo + 2 ^ k * hi) (hlo : lo < 2 ^ k) : y >>> k = hi := by
  rw [h, Nat.shiftRight_eq_div_pow, Nat.add_mul_div_left _ _ (Nat.two_pow_pos k), Nat.div_eq_of_lt hlo, Nat.zero_add]
/-- what math/bits.OnesCount64 reckons -/
def onesN (x : Nat) : Nat :=
  let a := ((x >>> 1) &&& 6148914691236517205) + (x &&& 6148914691236517205)
  let b := ((a >>> 2) &&& 3689348814741910323) + (a &&& 3689348814741910323)
  let c := ((b >>> 4) + b) &&& 1085102592571150095
  let d := c + (c >>> 8)
  let e := d + (d >>> 16)
  let f := e + (e >>> 32)
  f &&& 127
theorem pop_tail (c0 c1 c2 c3 c4 c5 c6 c7 c : Nat) (g0 : c0 ≤ 8) (g1 : c1 ≤ 8) (g2 : c2 ≤ 8) (g3 : c3 ≤ 8) (g4 : c4 ≤ 8) (g5 : c5 ≤ 8) (g6 : c6 ≤ 8) (g7 : c7 ≤ 8)
    (hce : c = c0 + 256 * (c1 + 256 * (c2 + 256 * (c3 + 256 * (c4 + 256 * (c5 + 256 * (c6 + 256 * c7))))))) :
    ∃ d e f : Nat, d = c + (c >>> 8) ∧ e = d + (d >>> 16) ∧ f = e + (e >>> 32) ∧ d < 18446744073709551616 ∧ e < 18446744073709551616 ∧ f < 9223372036854775808 ∧ f &&& 127 = c0 + c1 + c2 + c3 + c4 + c5 + c6 + c7 := by
  obtain ⟨d, hd⟩ : ∃ d, d = c + (c >>> 8) := ⟨_, rfl⟩
  have h8 := shr_of (k := 8) c0 (c1 + 256 * (c2 + 256 * (c3 + 256 * (c4 + 256 * (c5 + 256 * (c6 + 256 * c7)))))) hce (by omega)
  have hd' : d = (c0 + c1) + 256 * ((c1 + c2) + 256 * ((c2 + c3) + 256 * ((c3 + c4) + 256 * ((c4 + c5) + 256 * ((c5 + c6) + 256 * ((c6 + c7) + 256 * c7)))))) := by
    rw [hd, h8, hce]; omega
  obtain ⟨e, he⟩ : ∃ e, e = d + (d >>> 16) := ⟨_, rfl⟩
  have h16 := shr_of (k := 16) (y := d) ((c0 + c1) + 256 * (c1 + c2)) ((c2 + c3) + 256 * ((c3 + c4) + 256 * ((c4 + c5) + 256 * ((c5 + c6) + 256 * ((c6 + c7) + 256 * c7))))) (by rw [hd']; omega) (by omega)
  have he' : e = (c0 + c1 + c2 + c3) + 256 * ((c1 + c2 + c3 + c4) + 256 * ((c2 + c3 + c4 + c5) + 256 * ((c3 + c4 + c5 + c6) + 256 * ((c4 + c5 + c6 + c7) + 256 * ((c5 + c6 + c7) + 256 * ((c6 + c7) + 256 * c7)))))) := by
    rw [he, h16, hd']; omega
  obtain ⟨f, hf⟩ : ∃ f, f = e + (e >>> 32) := ⟨_, rfl⟩
  have h32 := shr_of (k := 32) (y := e) ((c0 + c1 + c2 + c3) + 256 * ((c1 + c2 + c3 + c4) + 256 * ((c2 + c3 + c4 + c5) + 256 * (c3 + c4 + c5 + c6)))) ((c4 + c5 + c6 + c7) + 256 * ((c5 + c6 + c7) + 256 * ((c6 + c7) + 256 * c7))) (by rw [he']; clear hd' h16 h8 hce hd he he'; omega) (by clear hd' h16 h8 hce hd he he'; omega)
  have hf' : f = (c0 + c1 + c2 + c3 + c4 + c5 + c6 + c7) + 256 * ((c1 + c2 + c3 + c4 + c5 + c6 + c7) + 256 * ((c2 + c3 + c4 + c5 + c6 + c7) + 256 * ((c3 + c4 + c5 + c6 + c7) + 256 * ((c4 + c5 + c6 + c7) + 256 * ((c5 + c6 + c7) + 256 * ((c6 + c7) + 256 * c7)))))) := by
    rw [hf, h32, he']; clear hd' h16 h8 h32 hce hd he he' hf; omega
  refine ⟨d, e, f, hd, he, hf, ?_, ?_, ?_, ?_⟩
  · rw [hd']; clear hd' h16 h8 h32 hce hd he he' hf hf'; omega
  · rw [he']; clear hd' h16 h8 h32 hce hd he he' hf hf'; omega
  · rw [hf']; clear hd' h16 h8 h32 hce hd he he' hf hf'; omega
  · have : (127 : Nat) = 2 ^ 7 - 1 := rfl
    rw [this, Nat.and_two_pow_sub_one_eq_mod, hf']
    clear hd' h16 h8 h32 hce hd he he' hf hf' this; omega
theorem mk1 : Mk 1 32 = 6148914691236517205 := by decide
theorem mk2 : Mk 2 16 = 3689348814741910323 := by decide
theorem mk4 : Mk 4 8 = 1085102592571150095 := by decide
theorem onesN_eq (x : Nat) (hx : x < 2 ^ 64) : onesN x = ((List.range 64).map fun i => (x.testBit i).toNat).sum ∧
    (∃ a b c : Nat, a = ((x >>> 1) &&& 6148914691236517205) + (x &&& 6148914691236517205) ∧ b = ((a >>> 2) &&& 3689348814741910323) + (a &&& 3689348814741910323) ∧ c = ((b >>> 4) + b) &&& 1085102592571150095 ∧ a < 2 ^ 64 ∧ (b >>> 4) + b < 2 ^ 64 ∧ b < 2 ^ 64 ∧ c + (c >>> 8) < 2 ^ 64 ∧ (c + (c >>> 8)) + ((c + (c >>> 8)) >>> 16) < 2 ^ 64 ∧ ((c + (c >>> 8)) + ((c + (c >>> 8)) >>> 16)) + (((c + (c >>> 8)) + ((c + (c >>> 8)) >>> 16)) >>> 32) < 2 ^ 64 ∧ ((c + (c >>> 8)) + ((c + (c >>> 8)) >>> 16)) + (((c + (c >>> 8)) + ((c + (c >>> 8)) >>> 16)) >>> 32) < 9223372036854775808) := by
  obtain ⟨bs, hbs⟩ : ∃ bs, bs = (List.range 64).map fun i => (x.testBit i).toNat := ⟨_, rfl⟩
  have hlen : bs.length = 64 := by rw [hbs]; simp
  have hb1 : ∀ d ∈ bs, d ≤ 1 := by
    intro d hd
    rw [hbs] at hd
    obtain ⟨i, _, rfl⟩ := List.mem_map.1 hd
    exact Bool.toNat_le _
  have hxb : x = Dg 1 bs := by rw [hbs]; exact dg_bits 64 x hx
  rw [← hbs]
  have s1 := pop_step 1 32 bs (by omega) (fun d h => by have := hb1 d h; omega)
  have l2 : (ps bs).length = 32 := by rw [ps_len]; omega
  have b2 := ps_le 1 bs hb1
  have s2 := pop_step 2 16 (ps bs) (by omega) (fun d h => by have := b2 d h; omega)
  have l4 : (ps (ps bs)).length = 16 := by rw [ps_len]; omega
  have b4 := ps_le 2 (ps bs) b2
  have s3 := dg_nb 4 (ps (ps bs)) (fun d h => by have := b4 d h; omega)
  have b5 := nb_le 4 (ps (ps bs)) b4
  have s4 := and_evens 4 8 (nb (ps (ps bs))) (by rw [nb_len]; omega) (fun d h => by have := b5 d h; omega)
  rw [evs_nb _ (by omega)] at s4
  have b8 := ps_le 4 (ps (ps bs)) b4
  have l8 : (ps (ps (ps bs))).length = 8 := by rw [ps_len]; omega
  have sum8 : (ps (ps (ps bs))).sum = bs.sum := by rw [ps_sum _ (by omega), ps_sum _ (by omega), ps_sum _ (by omega)]
  rw [mk1] at s1
  rw [mk2] at s2
  rw [mk4] at s4
  have hlt : ∀ (k : Nat) (ds : List Nat), (∀ d ∈ ds, d < 2 ^ k) → Dg k ds < 2 ^ (k * ds.length) := by
    intro k ds
    induction ds with
    | nil => intro _; simp [Dg]
    | cons d ds ih =>
      intro h
      have h1 := ih (fun x hx => h x (by simp [hx]))
      have h2 := h d (by simp)
      rw [List.length_cons, Nat.mul_succ, Nat.pow_add, Nat.mul_comm (2 ^ (k * ds.length))]
      have h3 : 2 ^ k * Dg k ds + 2 ^ k ≤ 2 ^ k * 2 ^ (k * ds.length) := by rw [← Nat.mul_succ]; exact Nat.mul_le_mul_left _ h1
      show d + 2 ^ k * Dg k ds < _
      omega
  have ea : ((x >>> 1) &&& 6148914691236517205) + (x &&& 6148914691236517205) = Dg 2 (ps bs) := by rw [hxb]; exact s1
  have eb : ((Dg 2 (ps bs) >>> 2) &&& 3689348814741910323) + (Dg 2 (ps bs) &&& 3689348814741910323) = Dg 4 (ps (ps bs)) := s2
  have ec : ((Dg 4 (ps (ps bs)) >>> 4) + Dg 4 (ps (ps bs))) &&& 1085102592571150095 = Dg 8 (ps (ps (ps bs))) := by rw [s3]; exact s4
  have la : Dg 2 (ps bs) < 2 ^ 64 := by have := hlt 2 (ps bs) (fun d h => by have := b2 d h; omega); rwa [l2] at this
  have lb : Dg 4 (ps (ps bs)) < 2 ^ 64 := by have := hlt 4 (ps (ps bs)) (fun d h => by have := b4 d h; omega); rwa [l4] at this
  have lb' : (Dg 4 (ps (ps bs)) >>> 4) + Dg 4 (ps (ps bs)) < 2 ^ 64 := by
    rw [s3]
    have := hlt 4 (nb (ps (ps bs))) (fun d h => by have := b5 d h; omega)
    rwa [nb_len, l4] at this
  obtain ⟨cs, hcs⟩ : ∃ cs, cs = ps (ps (ps bs)) := ⟨_, rfl⟩
  rw [← hcs] at ec l8 sum8 b8
  have h8 : ∃ c0 c1 c2 c3 c4 c5 c6 c7, cs = [c0, c1, c2, c3, c4, c5, c6, c7] := by
    match cs, l8 with
    | [c0, c1, c2, c3, c4, c5, c6, c7], _ => exact ⟨c0, c1, c2, c3, c4, c5, c6, c7, rfl⟩
  obtain ⟨c0, c1, c2, c3, c4, c5, c6, c7, rfl⟩ := h8
  have g0 := b8 c0 (by simp)
  have g1 := b8 c1 (by simp)
  have g2 := b8 c2 (by simp)
  have g3 := b8 c3 (by simp)
  have g4 := b8 c4 (by simp)
  have g5 := b8 c5 (by simp)
  have g6 := b8 c6 (by simp)
  have g7 := b8 c7 (by simp)
  have hs : c0 + c1 + c2 + c3 + c4 + c5 + c6 + c7 = bs.sum := by rw [← sum8]; simp only [List.sum_cons, List.sum_nil]; omega
  obtain ⟨c, hc⟩ : ∃ c, c = Dg 8 [c0, c1, c2, c3, c4, c5, c6, c7] := ⟨_, rfl⟩
  have hce : c = c0 + 256 * (c1 + 256 * (c2 + 256 * (c3 + 256 * (c4 + 256 * (c5 + 256 * (c6 + 256 * c7)))))) := by rw [hc]; simp [Dg]
  rw [← hc] at ec
  clear hc s1 s2 s3 s4 b2 b4 b5 hlt hb1 b8
  obtain ⟨d, e, f, hd, he, hf, ld, le, lf, hpop⟩ := pop_tail c0 c1 c2 c3 c4 c5 c6 c7 c g0 g1 g2 g3 g4 g5 g6 g7 hce
  refine ⟨?_, Dg 2 (ps bs), Dg 4 (ps (ps bs)), c, ea.symm, eb.symm, ec.symm, la, lb', lb, by rw [← hd]; exact ld, by rw [← hd, ← he]; exact le, by rw [← hd, ← he, ← hf]; exact Nat.lt_trans lf (by decide), by rw [← hd, ← he, ← hf]; exact lf⟩
  unfold onesN
  simp only [ea, eb, ec]
  rw [← hd, ← he, ← hf, hpop, hs]
end SX
namespace SX
open Go

section
variable {P : Program} {env : Env}
/-- an array type: its length, its element, the element's cells -/
class TArr (P : Program) (t : TypeId) (len : outParam Nat) (e : outParam TypeId) (n : outParam Nat) : Prop where
  und : P.underlying t = some (.array len e)
  inf : (P.info? e).map (·.size) = some n
theorem pu_indexAddr_arr {t len e n : Nat} [h : TArr P t len e n] {x y : Operand} {b o : Nat} {ki : IntKind} {i : Int} (k : Nat) (hx : evalE env x = some (.pointer (some ⟨b, o, none⟩))) (hy : evalE env y = some (.int ki i)) (h0 : 0 ≤ i) (hl : i < len) (hk : o + i.toNat * n = k) :
    Pu P env (.indexAddr t x y) (.pointer (some ⟨b, k, none⟩)) := fun ρ hρ _ _ _ _ _ w => by
  have hs := run_sizeOf h.inf w
  simp [execOp, hρ x _ hx, hρ y _ hy, Instr.indexAt, asIntOf, run_underlying h.und, h0, hl, Instr.sureAddr, hs, addr_add, hk]
theorem pu_index_str {t : TypeId} [h : TStr P t] {x y : Operand} {s : ByteArray} {ki : IntKind} {i : Int} {b : UInt8} (hx : evalE env x = some (.string s)) (hy : evalE env y = some (.int ki i)) (h0 : 0 ≤ i) (hb : s[i.toNat]? = some b) :
    Pu P env (.index t x y) (.int .u8 (b.toNat : Nat)) := fun ρ hρ _ _ _ _ _ w => by
  simp [execOp, hρ x _ hx, hρ y _ hy, Instr.index, asIntOf, run_underlying h.und, h0, hb]
theorem pu_and_nat {t u : TypeId} {x y : Operand} (a b : Nat) (hx : evalE env x = some (.int .i64 (a : Nat))) (hy : evalE env y = some (.int .i64 (b : Nat))) (ha : a < 9223372036854775808) (hb : b < 9223372036854775808) : Pu P env (.binOp .and t x y u) (.int .i64 ((a &&& b : Nat) : Int)) := fun ρ hρ _ _ _ _ _ w => by
  have hg : ∀ X Y, eqGuard .and t X Y (.int .i64 (a : Nat)) (.int .i64 (b : Nat)) = pure () := fun _ _ => by simp [eqGuard]
  have hle : a &&& b ≤ a := Nat.and_le_left
  have hb' : (binOp .and t (.int .i64 (a : Nat)) (.int .i64 (b : Nat)) : Sem Value) = pure (.int .i64 ((a &&& b : Nat) : Int)) := by
    have e : (binOp .and t (.int .i64 (a : Nat)) (.int .i64 (b : Nat)) : Sem Value) = Op.intBits .and .i64 a b := by simp [binOp]
    rw [e]
    show (let a' : BitVec 64 := BitVec.ofInt 64 a; let b' : BitVec 64 := BitVec.ofInt 64 b; pure (.int .i64 (IntKind.i64.wrap (a' &&& b').toNat)) : Sem Value) = _
    have e1 : (BitVec.ofInt 64 (a : Int)).toNat = a := by rw [BitVec.ofInt_natCast, BitVec.toNat_ofNat]; exact Nat.mod_eq_of_lt (by omega)
    have e2 : (BitVec.ofInt 64 (b : Int)).toNat = b := by rw [BitVec.ofInt_natCast, BitVec.toNat_ofNat]; exact Nat.mod_eq_of_lt (by omega)
    simp only [BitVec.toNat_and, e1, e2]
    rw [wrap_i64 (by omega) (by omega)]
  simp only [execOp, hρ x _ hx, hρ y _ hy, Sem.run_bind, hg, hb', Sem.run_pure, Result.andThen_ok]
end

section
variable {P : Program} {env : Env}
class TBool (P : Program) (t : TypeId) : Prop where
  und : P.underlying t = some .bool
theorem eqGuard_bool {t : TypeId} {a b : Bool} : ∀ op X Y w, (eqGuard op t X Y (.bool a) (.bool b)).run P w = .ok () w := fun op X Y w => by
  cases op <;> rfl
theorem pu_bool_eq {t u : TypeId} [h : TBool P t] {x y : Operand} {a b : Bool} (hx : evalE env x = some (.bool a)) (hy : evalE env y = some (.bool b)) : Pu P env (.binOp .eql t x y u) (.bool (a == b)) :=
  pu_eq_of hx hy eqGuard_bool rfl (fun d w => by simp [Op.equalIn, run_underlying h.und])
theorem pu_bool_ne {t u : TypeId} [h : TBool P t] {x y : Operand} {a b : Bool} (hx : evalE env x = some (.bool a)) (hy : evalE env y = some (.bool b)) : Pu P env (.binOp .neq t x y u) (.bool (!(a == b))) :=
  pu_ne_of hx hy eqGuard_bool rfl (fun d w => by simp [Op.equalIn, run_underlying h.und])
end

/-! ### how many -/
def popc (w : BitVec 64) : Nat := ((List.range 64).filter fun i => w.getLsbD i).length
theorem sum_toNat (f : Nat → Bool) (l : List Nat) : (l.map fun i => (f i).toNat).sum = (l.filter f).length := by
  induction l with
  | nil => rfl
  | cons a l ih =>
    rw [List.map_cons, List.sum_cons, ih, List.filter_cons]
    cases f a <;> simp <;> omega
def onesB (w : BitVec 64) : BitVec 64 :=
  let a := ((w >>> 1) &&& 6148914691236517205#64) + (w &&& 6148914691236517205#64)
  let b := ((a >>> 2) &&& 3689348814741910323#64) + (a &&& 3689348814741910323#64)
  let c := ((b >>> 4) + b) &&& 1085102592571150095#64
  let d := c + (c >>> 8)
  let e := d + (d >>> 16)
  e + (e >>> 32)
theorem onesB_eq (w : BitVec 64) : (onesB w).toNat &&& 127 = popc w ∧ (onesB w).toNat < 9223372036854775808 := by
  obtain ⟨h1, a, b, c, ha, hb, hc, la, lb', lb, ld, le, lf, lf2⟩ := onesN_eq w.toNat (by have := w.isLt; omega)
  have hA : (((w >>> 1) &&& 6148914691236517205#64) + (w &&& 6148914691236517205#64)).toNat = a := by
    rw [BitVec.toNat_add, BitVec.toNat_and, BitVec.toNat_and, BitVec.toNat_ushiftRight, ha]
    exact Nat.mod_eq_of_lt (by rw [ha] at la; exact la)
  generalize hAA : ((w >>> 1) &&& 6148914691236517205#64) + (w &&& 6148914691236517205#64) = A at hA
  have hB : (((A >>> 2) &&& 3689348814741910323#64) + (A &&& 3689348814741910323#64)).toNat = b := by
    rw [BitVec.toNat_add, BitVec.toNat_and, BitVec.toNat_and, BitVec.toNat_ushiftRight, hA, hb]
    exact Nat.mod_eq_of_lt (by rw [hb] at lb; exact lb)
  generalize hBB : ((A >>> 2) &&& 3689348814741910323#64) + (A &&& 3689348814741910323#64) = B at hB
  have hC : (((B >>> 4) + B) &&& 1085102592571150095#64).toNat = c := by
    rw [BitVec.toNat_and, BitVec.toNat_add, BitVec.toNat_ushiftRight, hB, hc, Nat.mod_eq_of_lt lb']; rfl
  generalize hCC : ((B >>> 4) + B) &&& 1085102592571150095#64 = C at hC
  have hD : (C + (C >>> 8)).toNat = c + (c >>> 8) := by
    rw [BitVec.toNat_add, BitVec.toNat_ushiftRight, hC]; exact Nat.mod_eq_of_lt ld
  generalize hDD : C + (C >>> 8) = D at hD
  have hE : (D + (D >>> 16)).toNat = (c + (c >>> 8)) + ((c + (c >>> 8)) >>> 16) := by
    rw [BitVec.toNat_add, BitVec.toNat_ushiftRight, hD]; exact Nat.mod_eq_of_lt le
  generalize hEE : D + (D >>> 16) = E at hE
  have hF : (E + (E >>> 32)).toNat = ((c + (c >>> 8)) + ((c + (c >>> 8)) >>> 16)) + (((c + (c >>> 8)) + ((c + (c >>> 8)) >>> 16)) >>> 32) := by
    rw [BitVec.toNat_add, BitVec.toNat_ushiftRight, hE]; exact Nat.mod_eq_of_lt lf
  have hO : onesB w = E + (E >>> 32) := by
    unfold onesB
    simp only [hAA, hBB, hCC, hDD, hEE]
  rw [hO, hF]
  refine ⟨?_, lf2⟩
  have h2 : onesN w.toNat = (((c + (c >>> 8)) + ((c + (c >>> 8)) >>> 16)) + (((c + (c >>> 8)) + ((c + (c >>> 8)) >>> 16)) >>> 32)) &&& 127 := by
    unfold onesN
    simp only [← ha, ← hb, ← hc]
  rw [← h2, h1, sum_toNat]
  rfl

/-! ### the lowest bit -/
def ctz (w : BitVec 64) : Nat := Lib.ctz 64 w.toNat
theorem ctz_spec {w : BitVec 64} (h : w ≠ 0#64) : ctz w < 64 ∧ w.getLsbD (ctz w) = true ∧ ∀ j, j < ctz w → w.getLsbD j = false := by
  have h0 : w.toNat ≠ 0 := fun e => h (BitVec.eq_of_toNat_eq (by simpa using e))
  obtain ⟨m, hm, hk⟩ := Lib.ctzFrom_spec 64 w.toNat (by omega) (by have := w.isLt; omega)
  have e : ctz w = Lib.ctzFrom 64 w.toNat := by simp [ctz, Lib.ctz, h0]
  rw [e]
  generalize Lib.ctzFrom 64 w.toNat = k at *
  have hb : ∀ j, w.getLsbD j = (2 ^ k * (2 * m + 1)).testBit j := fun j => by rw [← hm]; rfl
  refine ⟨hk, ?_, fun j hj => ?_⟩
  · rw [hb, Nat.mul_comm, Nat.testBit_mul_two_pow]
    simp [Nat.testBit_zero]
  · rw [hb, Nat.mul_comm, Nat.testBit_mul_two_pow]
    simp [show ¬ k ≤ j by omega]
theorem ctz_idx {w : BitVec 64} (h : w ≠ 0#64) : (((w &&& -w) * 285870213051353865#64) >>> 58).toNat < 64 ∧ Lib.deBruijn64tab.getD (((w &&& -w) * 285870213051353865#64) >>> 58).toNat 0 = ctz w := by
  have h0 : w.toNat ≠ 0 := fun e => h (BitVec.eq_of_toNat_eq (by simpa using e))
  obtain ⟨hlow, hk⟩ := Lib.lowest_bit 64 w.toNat h0 (by have := w.isLt; omega)
  have hat := Lib.deBruijn64_at _ hk
  have e : (((w &&& -w) * 285870213051353865#64) >>> 58).toNat = 2 ^ Lib.ctz 64 w.toNat * 285870213051353865 % 18446744073709551616 / 288230376151711744 := by
    rw [BitVec.toNat_ushiftRight, BitVec.toNat_mul, BitVec.toNat_and, BitVec.toNat_neg, Nat.shiftRight_eq_div_pow]
    rw [Nat.mod_eq_of_lt (a := 2 ^ 64 - w.toNat) (by have := w.isLt; omega), hlow]
    rfl
  rw [e]
  exact hat

/-! ### the highest bit -/
/-- how many bits a number takes -/
def bl (x : Nat) : Nat := if x = 0 then 0 else Nat.log2 x + 1
theorem bl_of {x n : Nat} (h1 : x < 2 ^ n) (h2 : n = 0 ∨ 2 ^ (n - 1) ≤ x) : bl x = n := by
  unfold bl
  split
  · rename_i h; subst h
    rcases h2 with h2 | h2
    · exact h2.symm
    · have := Nat.two_pow_pos (n - 1); omega
  · rename_i h
    rcases h2 with rfl | h2
    · simp at h1; omega
    · have a1 := (Nat.log2_lt h).2 h1
      have a2 := (Nat.le_log2 h).2 h2
      by_cases hn : n = 0
      · omega
      · omega
theorem bl_lt (x : Nat) : x < 2 ^ bl x ∧ (bl x = 0 ∨ 2 ^ (bl x - 1) ≤ x) := by
  unfold bl
  split
  · rename_i h; subst h; exact ⟨by decide, .inl rfl⟩
  · rename_i h
    exact ⟨(Nat.log2_lt h).1 (by omega), .inr (by rw [Nat.add_sub_cancel]; exact (Nat.le_log2 h).1 (Nat.le_refl _))⟩
theorem bl_shr {x k : Nat} (h : 2 ^ k ≤ x) : bl x = bl (x >>> k) + k := by
  obtain ⟨h1, h2⟩ := bl_lt (x >>> k)
  rw [Nat.shiftRight_eq_div_pow] at *
  have hp := Nat.two_pow_pos k
  have hq : 1 ≤ x / 2 ^ k := (Nat.le_div_iff_mul_le hp).2 (by omega)
  refine bl_of ?_ ?_
  · rw [Nat.pow_add]; exact (Nat.div_lt_iff_lt_mul hp).1 h1
  · right
    rcases h2 with h2 | h2
    · rw [h2] at h1; simp at h1; omega
    · have hb : bl (x / 2 ^ k) ≠ 0 := fun e => by rw [e] at h1; simp at h1; omega
      rw [show bl (x / 2 ^ k) + k - 1 = (bl (x / 2 ^ k) - 1) + k by omega, Nat.pow_add]
      exact (Nat.le_div_iff_mul_le hp).1 h2
theorem bl_spec {w : BitVec 64} (h : w ≠ 0#64) : 1 ≤ bl w.toNat ∧ bl w.toNat ≤ 64 ∧ w.getLsbD (bl w.toNat - 1) = true ∧ ∀ j, bl w.toNat - 1 < j → w.getLsbD j = false := by
  have h0 : w.toNat ≠ 0 := fun e => h (BitVec.eq_of_toNat_eq (by simpa using e))
  obtain ⟨h1, h2⟩ := bl_lt w.toNat
  have hb : bl w.toNat ≠ 0 := fun e => by rw [e] at h1; simp at h1; omega
  have h2' : 2 ^ (bl w.toNat - 1) ≤ w.toNat := h2.resolve_left hb
  refine ⟨by omega, ?_, ?_, fun j hj => ?_⟩
  · have hlt := w.isLt
    have : 2 ^ (bl w.toNat - 1) < 2 ^ 64 := by omega
    have := (Nat.pow_lt_pow_iff_right (by decide : 1 < 2)).1 this
    omega
  · show w.toNat.testBit _ = true
    rw [Nat.testBit_eq_decide_div_mod_eq]
    have e : 2 ^ bl w.toNat = 2 ^ (bl w.toNat - 1) * 2 := by rw [← Nat.pow_succ]; congr 1; omega
    rw [e] at h1
    have hd : w.toNat / 2 ^ (bl w.toNat - 1) = 1 := by
      apply Nat.div_eq_of_lt_le
      · omega
      · omega
    simp [hd]
  · show w.toNat.testBit _ = false
    exact Nat.testBit_lt_two_pow (Nat.lt_of_lt_of_le h1 (Nat.pow_le_pow_right (by decide) (by omega)))
end SX
namespace SX
open Go Go.MapKept

section
variable {κ : Type} [DecidableEq κ]
abbrev Ents (κ : Type) := List (κ × Value × Nat)
def mke (kv : κ → Value) (x : κ × Value × Nat) : MapEntry := { key := kv x.1, val := x.2.1, born := x.2.2 }
def mlook : Ents κ → κ → Option Value
  | [], _ => none
  | x :: l, a => if x.1 = a then some x.2.1 else mlook l a
/-- where a key stands -/
def place : Ents κ → κ → Option Nat
  | [], _ => none
  | x :: l, a => if x.1 = a then some 0 else (place l a).map (· + 1)
def upd : Ents κ → Nat → κ → Value → Ents κ
  | [], c, a, v => [(a, v, c)]
  | x :: l, c, a, v => if x.1 = a then (x.1, v, x.2.2) :: l else x :: upd l c a v
/-- the clock behind an update -/
def updC (l : Ents κ) (c : Nat) (a : κ) : Nat := if (mlook l a).isSome then c else c + 1
theorem mlook_upd (l : Ents κ) (c : Nat) (a : κ) (v : Value) (x : κ) : mlook (upd l c a v) x = if a = x then some v else mlook l x := by
  induction l with
  | nil => rfl
  | cons y l ih =>
    unfold upd
    by_cases h : y.1 = a
    · rw [if_pos h]
      show (if y.1 = x then some v else mlook l x) = _
      rw [h]
      by_cases hx : a = x
      · rw [if_pos hx, if_pos hx]
      · rw [if_neg hx, if_neg hx]
        show _ = (if y.1 = x then some y.2.1 else mlook l x)
        rw [h, if_neg hx]
    · rw [if_neg h]
      show (if y.1 = x then some y.2.1 else mlook (upd l c a v) x) = _
      rw [ih]
      show _ = (if a = x then some v else (if y.1 = x then some y.2.1 else mlook l x))
      by_cases hx : a = x
      · subst hx; rw [if_neg h, if_pos rfl, if_pos rfl]
      · rw [if_neg hx, if_neg hx]
/-- the keys of a type -/
class TKey (P : Program) (kt : TypeId) (kv : outParam (κ → Value)) : Prop where
  ok : ∃ d, P.underlying kt = some d ∧ (∀ a, IsKey d (kv a)) ∧ ∀ a b, Instr.sameNow d (kv a) (kv b) = some (decide (a = b))
class TMap (P : Program) (t : TypeId) (kt et : outParam TypeId) : Prop where
  und : P.underlying t = some (.map kt et)
/-- a map's block -/
def mpe (b : Nat) (kv : κ → Value) (l : Ents κ) (c : Nat) : Assn := one b (.map (l.map (mke kv)).toArray c)

theorem find_place {kv : κ → Value} {d : TypeDesc} (hs : ∀ a b, Instr.sameNow d (kv a) (kv b) = some (decide (a = b))) (a : κ) : ∀ (l : Ents κ) (i : Nat),
    (mlook l a = none ∧ Instr.findNow d (kv a) (l.map (mke kv)) i = some none ∧ place l a = none) ∨ ∃ j v, mlook l a = some v ∧ Instr.findNow d (kv a) (l.map (mke kv)) i = some (some (i + j, v)) ∧ place l a = some j ∧ j < l.length ∧ (l[j]?).map (·.1) = some a
  | [], i => .inl ⟨rfl, rfl, rfl⟩
  | x :: l, i => by
    by_cases h : x.1 = a
    · refine .inr ⟨0, x.2.1, by simp [mlook, h], ?_, by simp [place, h], by simp, by simp [h]⟩
      simp [Instr.findNow, mke, hs, h]
    · have hd : decide (a = x.1) = false := decide_eq_false (fun e => h e.symm)
      rcases find_place hs a l (i + 1) with ⟨h1, h2, h3⟩ | ⟨j, v, h1, h2, h3, h4, h5⟩
      · refine .inl ⟨by simp [mlook, h, h1], ?_, by simp [place, h, h3]⟩
        simp [Instr.findNow, mke, hs, hd, h2]
      · refine .inr ⟨j + 1, v, by simp [mlook, h, h1], ?_, by simp [place, h, h3], by simp [h4], by simpa using h5⟩
        simp only [List.map_cons, Instr.findNow, mke, hs, hd]
        rw [show i + (j + 1) = i + 1 + j by omega]
        exact h2
theorem upd_at {kv : κ → Value} (a : κ) (c : Nat) (v : Value) : ∀ (l : Ents κ) (j : Nat), place l a = some j → (upd l c a v).map (mke kv) = (l.map (mke kv)).modify j fun e => { e with key := kv a, val := v }
  | [], j, h => by cases h
  | x :: l, j, h => by
    unfold place at h
    unfold upd
    by_cases e : x.1 = a
    · rw [if_pos e] at h
      obtain rfl := Option.some.inj h
      rw [if_pos e]
      simp [mke, e]
    · rw [if_neg e] at h
      obtain ⟨j', h1, rfl⟩ := Option.map_eq_some_iff.1 h
      rw [if_neg e]
      simp [upd_at a c v l j' h1]
theorem upd_new {kv : κ → Value} (a : κ) (c : Nat) (v : Value) : ∀ (l : Ents κ), mlook l a = none → (upd l c a v).map (mke kv) = l.map (mke kv) ++ [{ key := kv a, val := v, born := c }]
  | [], _ => rfl
  | x :: l, h => by
    unfold mlook at h
    unfold upd
    by_cases e : x.1 = a
    · rw [if_pos e] at h; cases h
    · rw [if_neg e] at h
      rw [if_neg e]
      simp [upd_new a c v l h]
variable {P : Program} {env : Env} {L : List Assn}
theorem run_look {w : World} {t kt et b c : Nat} {kv : κ → Value} {l : Ents κ} {z : Value} (hm : TMap P t kt et) (hk : TKey P kt kv) (hz : (zeroValue et).run P w = .ok z w) (hb : w.heap[b]? = some (.map (l.map (mke kv)).toArray c)) (a : κ) (ok : Bool) :
    (Instr.lookup t (.map (some b)) (kv a) ok).run P w = .ok (if ok then .tuple #[(mlook l a).getD z, .bool (mlook l a).isSome] else (mlook l a).getD z) w := by
  obtain ⟨d, hd, hik, hs⟩ := hk.ok
  have hck : ∀ e, (Instr.checkKey e 10000 kt (kv a)).run P w = .ok () w := fun e => run_checkKey (P := P) (w := w) hd (hik a) e 9999
  rcases find_place hs a l 0 with ⟨h1, h2, _⟩ | ⟨j, v, h1, h2, _⟩
  · have hf := run_findKey (P := P) (w := w) (l := l.map (mke kv)) hd h2
    rw [h1]
    cases ok <;> simp [Instr.lookup, run_underlying hm.und, run_getObj_map hb, hck, hf, hz, Result.andThen]
  · have hf := run_findKey (P := P) (w := w) (l := l.map (mke kv)) hd h2
    rw [h1]
    cases ok <;> simp [Instr.lookup, run_underlying hm.und, run_getObj_map hb, hck, hf, Result.andThen]

theorem run_upd {w : World} {t kt et b c : Nat} {kv : κ → Value} {l : Ents κ} (hm : TMap P t kt et) (hk : TKey P kt kv) (hb : w.heap[b]? = some (.map (l.map (mke kv)).toArray c)) (a : κ) (v : Value) :
    (Instr.mapUpdate t (.map (some b)) (kv a) v).run P w = .ok () { w with heap := w.heap.setIfInBounds b (.map ((upd l c a v).map (mke kv)).toArray (updC l c a)) } := by
  obtain ⟨d, hd, hik, hs⟩ := hk.ok
  have hck : ∀ e, (Instr.checkKey e 10000 kt (kv a)).run P w = .ok () w := fun e => run_checkKey (P := P) (w := w) hd (hik a) e 9999
  rcases find_place hs a l 0 with ⟨h1, h2, _⟩ | ⟨j, u, h1, h2, h3, h4, h5⟩
  · have hf := run_findKey (P := P) (w := w) (l := l.map (mke kv)) hd h2
    have e := upd_new (kv := kv) a c v l h1
    simp [Instr.mapUpdate, run_underlying hm.und, run_getObj_map hb, hck, hf, run_setObj_map _ hb, Result.andThen, updC, h1, e]
  · have hf := run_findKey (P := P) (w := w) (l := l.map (mke kv)) hd h2
    have e := upd_at (kv := kv) a c v l j h3
    have hkey : (Option.map ((fun x : MapEntry => x.key) ∘ mke kv) l[j]?).getD (kv a) = kv a := by
      cases hx : l[j]? with
      | none => rfl
      | some x => rw [hx] at h5; simp only [Option.map_some, Option.some.injEq] at h5; simp [mke, h5]
    have hst := run_keyThatStays (P := P) (w := w) (hik a)
    simp only [Nat.zero_add] at hf
    simp [Instr.mapUpdate, run_underlying hm.und, run_getObj_map hb, hck, hf, run_setObj_map _ hb, Result.andThen, updC, h1, e, hkey, hst]
class InM (b : Nat) (L : List Assn) (kv : outParam (κ → Value)) (l : outParam (Ents κ)) (c : outParam Nat) : Prop where
  ok : ∃ R, Take (mpe b kv l c) L R
instance InM.here {b c : Nat} {kv : κ → Value} {l : Ents κ} {L : List Assn} : InM b (mpe b kv l c :: L) kv l c := ⟨L, .here⟩
instance (priority := low) InM.there {b c : Nat} {kv : κ → Value} {l : Ents κ} {A : Assn} {L : List Assn} [h : InM b L kv l c] : InM b (A :: L) kv l c := ⟨A :: h.ok.choose, .there h.ok.choose_spec⟩
class TZv (P : Program) (t : TypeId) (z : outParam Value) : Prop where
  ok : (P.info? t).bind (·.zero) = some z
theorem TZv.run {t : TypeId} {z : Value} (h : TZv P t z) (w : World) : (zeroValue t).run P w = .ok z w := by
  have h := h.ok
  cases hi : P.info? t with
  | none => rw [hi] at h; cases h
  | some i => rw [hi] at h; simp [zeroValue, typeInfo, hi, show i.zero = some z from h]
theorem rd_mlook {t kt et b c : Nat} {kv : κ → Value} {l : Ents κ} {z : Value} [hm : TMap P t kt et] [hk : TKey P kt kv] [hz : TZv P et z] {m x : Operand} [hb : InM b L kv l c] (a : κ) (hx : evalE env m = some (.map (some b))) (hy : evalE env x = some (kv a)) : Rd P env L (.lookup t m x false) ((mlook l a).getD z) := by
  intro ρ hρ dst ty pos af g E w hh
  obtain ⟨R, ht⟩ := hb.ok
  have hob := hh.one_get ht
  have hr := run_look hm hk (hz.run w) hob a false
  simp only [Bool.false_eq_true, if_false] at hr
  simp [execOp, hρ m _ hx, hρ x _ hy, hr]
theorem rd_mlook2 {t kt et b c : Nat} {kv : κ → Value} {l : Ents κ} {z : Value} [hm : TMap P t kt et] [hk : TKey P kt kv] [hz : TZv P et z] {m x : Operand} [hb : InM b L kv l c] (a : κ) (hx : evalE env m = some (.map (some b))) (hy : evalE env x = some (kv a)) : Rd P env L (.lookup t m x true) (.tuple #[(mlook l a).getD z, .bool (mlook l a).isSome]) := by
  intro ρ hρ dst ty pos af g E w hh
  obtain ⟨R, ht⟩ := hb.ok
  have hob := hh.one_get ht
  have hr := run_look hm hk (hz.run w) hob a true
  simp only [if_true] at hr
  simp [execOp, hρ m _ hx, hρ x _ hy, hr]
theorem ef_upd {t kt et b c : Nat} {kv : κ → Value} {l : Ents κ} {R : List Assn} [hm : TMap P t kt et] [hk : TKey P kt kv] {m x y : Operand} (a : κ) {v : Value} (hx : evalE env m = some (.map (some b))) (hy : evalE env x = some (kv a)) (hv : evalE env y = some v) (hL : Split L [mpe b kv l c] R) :
    Ef P env L (.mapUpdate t m x y) (fun k => k undef (mpe b kv (upd l c a v) (updC l c a) :: R)) := by
  intro ro dst tt pos af g N E a' w next Q k hf hh hk' hn
  have h2 := hh.ent hL.ent
  have hob := h2.one_get .here
  have hu := run_upd hm hk hob a v
  have hlt : b < w.heap.size := (Array.getElem?_eq_some_iff.1 hob).1
  have hrun : (execOp a'.eval ⟨dst, .mapUpdate t m x y, tt, pos, af, g⟩).run P w = .ok .skip { w with heap := w.heap.setIfInBounds b (.map ((upd l c a v).map (mke kv)).toArray (updC l c a)) } := by
    simp [execOp, hf.ev m _ hx, hf.ev x _ hy, hf.ev y _ hv, hu]
  refine wpIn_skip_op hrun (hn undef _ _ hk' (h2.upd (b := b) .here _ rfl rfl rfl (by simp) ?_ ?_))
  · simp [hlt]
  · intro k hne
    simp [Ne.symm hne]
omit [DecidableEq κ] in
theorem ef_makeMap {t : TypeId} {kv : κ → Value} : Ef P env L (.makeMap t none) (fun k => ∀ b, k (.map (some b)) (mpe b kv [] 0 :: L)) :=
  ef_new_of (f := fun b => .map (some b)) (o := .map #[] 0) fun ρ hρ dst ty pos af g w => by
    simp [execOp, Instr.makeMap]
def ikv (a : Int) : Value := .int .i64 a
def skv (a : ByteArray) : Value := .string a
instance TKey.int {kt : TypeId} [h : TInt P kt .i64] : TKey P kt ikv := ⟨_, h.und, fun _ => rfl, fun a b => by simp [ikv, Instr.sameNow]; rw [Bool.eq_iff_iff]; simp⟩
instance TKey.str {kt : TypeId} [h : TStr P kt] : TKey P kt skv := ⟨_, h.und, fun _ => trivial, fun a b => by simp [skv, Instr.sameNow]; rw [Bool.eq_iff_iff, bytes_beq]; simp⟩
end
end SX
namespace SX
open Go Go.RowKit Go.WideShapes Go.ChangeShapes

section
variable {H0 : Type} {enc : TypeId × Value → H0} {P : Program}
theorem stays_all (hl : laidOutB P = true) {W W' : World} (hb : Below W.heap.size W W') {sp : Nat → Bool} : ∀ {ts : List TypeId} {vs : List Value} {ds : List (DataW H0)} {ps : List MemPlace},
    (ts.all fun t => P.readableRec t && decide (t < P.types.size)) = true → DataW.TrodAll enc P W 0 (fun _ => true) true ts vs ds ps → (∀ x ∈ ps, x.block < W.heap.size) → (∀ x ∈ ps, sp x.block = true) → DataW.TrodAll enc P W' 0 sp true ts vs ds ps
  | [], [], [], _, _, h, _, _ => h
  | t :: ts, _ :: _, _ :: _, _, hT, ⟨p, q, h1, h2, e⟩, hlt, hs => by
    simp only [List.all_cons, Bool.and_eq_true, decide_eq_true_eq] at hT
    obtain ⟨⟨r1, r2⟩, r3⟩ := hT
    refine ⟨p, q, WideElems.Trod_stays hl r1 r2 h1 (fun x hx => hb.same (hlt x (by rw [e]; exact List.mem_append_left _ hx))) (fun x hx => hs x (by rw [e]; exact List.mem_append_left _ hx)), ?_, e⟩
    exact stays_all hl hb (by simpa using r3) h2 (fun x hx => hlt x (by rw [e]; exact List.mem_append_right _ hx)) (fun x hx => hs x (by rw [e]; exact List.mem_append_right _ hx))

/-- true, and the arguments as they were -/
theorem law_post {f : Func} {s : ChangeSpec} {apart fresh handsOn again : Bool} {tb : TypeId} {W W' : World} {args : Array Value} {ds : List (DataW H0)} {before : List MemPlace}
    (hl : laidOutB P = true) (hpar : (f.params.toList.all fun t => P.readableRec t && decide (t < P.types.size)) = true) (hv : s.vars = []) (hrt : f.resultTypes = #[tb]) (htb : P.underlying tb = some .bool)
    (hW : DataW.Whole enc P f.params.toList s.vars apart W args.toList ds [] before) (hb : Below W.heap.size W W')
    (hfn : s.fn H0 (ds ++ []) = { results := [.lit (.bool true)], args := ds }) : s.post enc P f apart fresh handsOn again W args (.bool true) W' := by
  have hW' := hW
  obtain ⟨p, q, hA, hV, hpq, hfz, hnd⟩ := hW
  rw [hv] at hV
  obtain ⟨_, rfl⟩ := trodVars_none hV
  have lt : ∀ x ∈ p, x.block < W.heap.size := fun x hx => hW'.lt x (by rw [hpq]; exact List.mem_append_left _ hx)
  refine post_old (pa := p) (pv := []) hb hpq hW' (fun b sp hd => ?_) (fun sp hsp => ?_) (fun sp hsp => ?_) (ok_one hrt rfl (okWide_bool_mk htb true))
  · rw [hfn, hrt]; exact trodAll_cons_mk (shut_bool htb _) trodAll_mk0
  · rw [hfn]; exact stays_all hl hb hpar hA lt (fun x hx => hsp x (by rw [hpq]; exact List.mem_append_left _ hx))
  · rw [hfn, hv]; rfl
end

/-! ### How arguments read -/
def icsk (k : IntKind) (n : Int) : List Value := [.int k n]
theorem icsk_len (k : IntKind) (n : Int) : (icsk k n).length = 1 := rfl
theorem spot_of_cell {w : World} {a : Addr} {v : Value} (h : w.cell? a = some v) : a = ⟨a.block, a.off, none⟩ ∧ CellAt (fun b => w.heap[b]?) a.block a.off v := by
  obtain ⟨b, o, s⟩ := a
  unfold World.cell? at h
  simp only at h
  split at h
  · rename_i cs t fr hh
    cases s with
    | none => exact ⟨rfl, cs, t, fr, hh, by simpa using h⟩
    | some s => simp at h
  · cases h
section
variable {H0 : Type} {enc : TypeId × Value → H0} {P : Program} {W : World} {base : Nat}
/-- a slice of integers -/
theorem arg_ints {t e : TypeId} {k : IntKind} {v : Value} {d : DataW H0} {ps : List MemPlace} {r : Reach} {b0 : Nat} (ht : P.underlying t = some (.slice e)) (he : P.underlying e = some (.int k)) (hc : P.cellsOf e = 1)
    (hv : Value.okWide P W r b0 t v) (h : DataW.Trod enc P W 0 (fun _ => true) true t v d ps) :
    ∃ xs : List Int, Row (fun b => W.heap[b]?) v 1 xs.length (xs.flatMap (icsk k)) ∧ (∀ x ∈ xs, (Lit.int k x).wf = true) ∧ ((d = .nil ∧ xs = []) ∨ ∃ spare, d = .slice (lits k xs) spare) := by
  obtain ⟨a0, len, cap, rfl⟩ := okWide_slice ht hv
  obtain ⟨fuel, hf⟩ := h
  rcases open_ints ht he hc hf with ⟨hcs, hx⟩ | ⟨a, len', cap', zs, hcs, _, hl, hm, hz, hx, hcell, hwz⟩
  · simp only [Value.cells, List.cons.injEq, Value.slice.injEq, and_true] at hcs
    obtain ⟨rfl, rfl, rfl⟩ := hcs
    cases hx
    exact ⟨[], Row.nil _ _, by simp, .inl ⟨rfl, rfl⟩⟩
  · simp only [Value.cells, List.cons.injEq, Value.slice.injEq, and_true] at hcs
    obtain ⟨rfl, rfl, rfl⟩ := hcs
    simp only [if_true] at hz
    have hlen : (zs.take len).length = len := by rw [List.length_take]; omega
    refine ⟨zs.take len, ?_, fun x hx' => hwz x (List.mem_of_mem_take hx'), .inr ⟨lits k (zs.drop len), by cases hx; rfl⟩⟩
    rw [hlen]
    refine ⟨by rw [flat_length (icsk_len k), hlen], some a, cap, rfl, hl, hm, fun h => (by cases h), fun hpos => ?_⟩
    have h0 := hcell 0 (by omega)
    rw [show a.add 0 = a by simp [Addr.add]] at h0
    have ha := (spot_of_cell h0).1
    refine ⟨a.block, a.off, by rw [← ha], fun j u hj => ?_⟩
    have hj' : j < len := by
      have := (List.getElem?_eq_some_iff.1 hj).1
      rw [flat_length (icsk_len k), hlen] at this; omega
    obtain ⟨z, hzj⟩ : ∃ z, (zs.take len)[j]? = some z := ⟨_, List.getElem?_eq_getElem (by omega)⟩
    have hu := flat_get (icsk_len k) (zs.take len) [] j z hzj 0 (.int k z) rfl
    rw [List.append_nil, Nat.mul_one, Nat.add_zero] at hu
    rw [hu] at hj
    cases hj
    have hc2 := (spot_of_cell (hcell j (by omega))).2
    rw [addr_block, addr_off] at hc2
    have : zs.getD j 0 = z := by
      rw [List.getElem?_take, if_pos hj'] at hzj
      simp [List.getD, hzj]
    rw [this] at hc2
    exact hc2
/-- a slice of structs of two integers -/
def vnum : Value → Int
  | .int _ n => n
  | _ => 0
def pcs (k0 k1 : IntKind) (o : Int × Int) : List Value := [.int k0 o.1, .int k1 o.2]
theorem pcs_len (k0 k1 : IntKind) (o : Int × Int) : (pcs k0 k1 o).length = 2 := rfl
theorem arg_int_pairs {t e : TypeId} {f0 f1 : Field} {k0 k1 : IntKind} {v : Value} {d : DataW H0} {ps : List MemPlace} {r : Reach} {b0 : Nat} (ht : P.underlying t = some (.slice e)) (he : P.underlying e = some (.struct #[f0, f1]))
    (ce : P.cellsOf e = 2) (o0 : f0.offset = 0) (o1 : f1.offset = 1) (c0 : P.cellsOf f0.type = 1) (c1 : P.cellsOf f1.type = 1) (u0 : P.underlying f0.type = some (.int k0)) (u1 : P.underlying f1.type = some (.int k1))
    (hv : Value.okWide P W r b0 t v) (h : DataW.Trod enc P W 0 (fun _ => true) true t v d ps) :
    ∃ xs : List (Int × Int), Row (fun b => W.heap[b]?) v 2 xs.length (xs.flatMap (pcs k0 k1)) ∧ ((d = .nil ∧ xs = []) ∨ ∃ elems spare, d = .slice elems spare ∧ elems.length = xs.length) := by
  obtain ⟨a0, len, cap, rfl⟩ := okWide_slice ht hv
  obtain ⟨fuel, hf⟩ := h
  rcases Go.Deep.open_slice_pairs ht he ce o0 o1 c0 c1 hf with ⟨hcs, hx⟩ | ⟨a, len', cap', m, n, V0, V1, D0, D1, P0, P1, hcs, _, hl, hm, hmm, hx, hi⟩
  · simp only [Value.cells, List.cons.injEq, Value.slice.injEq, and_true] at hcs
    obtain ⟨rfl, rfl, rfl⟩ := hcs
    cases hx
    exact ⟨[], Row.nil _ _, .inl ⟨rfl, rfl⟩⟩
  · simp only [Value.cells, List.cons.injEq, Value.slice.injEq, and_true] at hcs
    obtain ⟨rfl, rfl, rfl⟩ := hcs
    simp only [if_true] at hmm
    have e0 : ∀ i, i < m → V0 i = .int k0 (vnum (V0 i)) := fun i him => by
      obtain ⟨_, _, h3, _⟩ := hi i him
      obtain ⟨x, hx0, _⟩ := DataW.trod_int u0 h3
      simp only [List.cons.injEq, and_true] at hx0
      rw [hx0]; rfl
    have e1 : ∀ i, i < m → V1 i = .int k1 (vnum (V1 i)) := fun i him => by
      obtain ⟨_, _, _, h4⟩ := hi i him
      obtain ⟨x, hx0, _⟩ := DataW.trod_int u1 h4
      simp only [List.cons.injEq, and_true] at hx0
      rw [hx0]; rfl
    refine ⟨(List.range len).map fun i => (vnum (V0 i), vnum (V1 i)), ?_, .inr ⟨_, _, by cases hx; rfl, by simp⟩⟩
    have hlen : ((List.range len).map fun i => (vnum (V0 i), vnum (V1 i))).length = len := by simp
    rw [hlen]
    refine ⟨by rw [flat_length (pcs_len k0 k1), hlen], some a, cap, rfl, hl, hm, fun h => (by cases h), fun hpos => ?_⟩
    have h0 := (hi 0 (by omega)).1
    rw [show a.add (0 * 2) = a by simp [Addr.add]] at h0
    have ha := (spot_of_cell h0).1
    refine ⟨a.block, a.off, by rw [← ha], fun j u hj => ?_⟩
    have hj2 : j < len * 2 := by
      have := (List.getElem?_eq_some_iff.1 hj).1
      rw [flat_length (pcs_len k0 k1), hlen] at this; omega
    have hjm : j / 2 < m := by omega
    obtain ⟨h1, h2, _, _⟩ := hi (j / 2) hjm
    have hg : ((List.range len).map fun i => (vnum (V0 i), vnum (V1 i)))[j / 2]? = some (vnum (V0 (j / 2)), vnum (V1 (j / 2))) := by
      rw [List.getElem?_map, List.getElem?_range (by omega)]; rfl
    have hmod : j % 2 = 0 ∨ j % 2 = 1 := by omega
    rcases hmod with hm0 | hm1
    · have hu := flat_get (pcs_len k0 k1) _ [] (j / 2) _ hg 0 (.int k0 (vnum (V0 (j / 2)))) rfl
      rw [List.append_nil, Nat.add_zero, show j / 2 * 2 = j by omega] at hu
      rw [hu] at hj
      cases hj
      rw [e0 _ hjm, show j / 2 * 2 = j by omega] at h1
      have hc2 := (spot_of_cell h1).2
      rw [addr_block, addr_off] at hc2
      exact hc2
    · have hu := flat_get (pcs_len k0 k1) _ [] (j / 2) _ hg 1 (.int k1 (vnum (V1 (j / 2)))) rfl
      rw [List.append_nil, show j / 2 * 2 + 1 = j by omega] at hu
      rw [hu] at hj
      cases hj
      rw [e1 _ hjm, show j / 2 * 2 + 1 = j by omega] at h2
      have hc2 := (spot_of_cell h2).2
      rw [addr_block, addr_off] at hc2
      exact hc2
end
end SX
namespace SX
open Go Go.RowKit Go.WideShapes Go.ChangeShapes Go.Deep

section
variable {H0 : Type} {enc : TypeId × Value → H0} {P : Program} {W : World}
/-- the cells of a slice, element by element -/
theorem trod_slice {α : Type} [Inhabited α] {f : α → List Value} {n : Nat} (hn : 0 < n) (hf : ∀ a, (f a).length = n) (R : α → DataW H0 → Prop) {t e : TypeId} (ht : P.underlying t = some (.slice e)) (hc : P.cellsOf e = n)
    (hel : ∀ fuel cs D Pl, DataW.trod enc P W 0 (fun _ => true) true fuel e cs = some (D, Pl) → ∃ a, cs = f a ∧ R a D)
    {fuel : Nat} {cs : List Value} {d : DataW H0} {ps : List MemPlace} (h : DataW.trod enc P W 0 (fun _ => true) true fuel t cs = some (d, ps)) :
    ∃ (v : Value) (xs : List α), cs = [v] ∧ Row (fun b => W.heap[b]?) v n xs.length (xs.flatMap f) ∧ ((d = .nil ∧ xs = []) ∨ ∃ (Ds sp : List (DataW H0)), d = .slice Ds sp ∧ Ds.length = xs.length ∧ ∀ (i : Nat) (a : α) (D : DataW H0), xs[i]? = some a → Ds[i]? = some D → R a D) := by
  rcases open_slice ht h with ⟨rfl, hx⟩ | ⟨a, len, cap, m, n', D, Pl, rfl, _, hl, hm, hmm, hx, hall⟩
  · cases hx
    exact ⟨_, [], rfl, Row.nil _ _, .inl ⟨rfl, rfl⟩⟩
  simp only [if_true] at hmm
  subst hmm
  cases hx
  obtain ⟨A, hA⟩ := choose_lt (α := α) (n := m) (p := fun i x => W.cells? 0 (a.add (i * P.cellsOf e)) (P.cellsOf e) = some (f x) ∧ R x (D i)) (fun i hi => by
    obtain ⟨cs', h1, h2⟩ := hall i hi
    obtain ⟨a', rfl, hR⟩ := hel _ _ _ _ h2
    exact ⟨a', h1, hR⟩)
  have hlen : ((List.range len).map A).length = len := by simp
  have hcell : ∀ i j v, i < m → (f (A i))[j]? = some v → W.cell? (a.add (i * n + j)) = some v := by
    intro i j v hi hv
    obtain ⟨h2, _⟩ := hA i hi
    obtain ⟨_, _, h3⟩ := World.cells?_some h2
    have hj : j < (f (A i)).length := (List.getElem?_eq_some_iff.1 hv).1
    rw [hf] at hj
    have := h3 j (by rw [hc]; exact hj)
    rw [hc] at this
    have e : (a.add (i * n)).add j = a.add (i * n + j) := by
      obtain ⟨b, o, s⟩ := a
      unfold Addr.add
      split <;> split <;> simp_all [Nat.add_assoc]
    rw [e] at this
    rw [this]; exact hv
  refine ⟨_, (List.range len).map A, rfl, ?_, .inr ⟨_, _, rfl, by simp, fun i a' D' hi hD => ?_⟩⟩
  · rw [hlen]
    refine ⟨by rw [flat_length hf, hlen], some a, m, rfl, hl, hm, fun h => (by cases h), fun hpos => ?_⟩
    obtain ⟨v0, hv0⟩ : ∃ v, (f (A 0))[0]? = some v := ⟨_, List.getElem?_eq_getElem (by rw [hf]; exact hn)⟩
    have h0 := hcell 0 0 v0 (by omega) hv0
    rw [Nat.zero_mul, Nat.zero_add, show a.add 0 = a by simp [Addr.add]] at h0
    have ha := (spot_of_cell h0).1
    refine ⟨a.block, a.off, by rw [← ha], fun j u hj => ?_⟩
    have hj2 : j < len * n := by
      have := (List.getElem?_eq_some_iff.1 hj).1
      rwa [flat_length hf, hlen] at this
    have hq : j / n < len := Nat.div_lt_of_lt_mul (by rw [Nat.mul_comm]; exact hj2)
    have hr : j % n < n := Nat.mod_lt _ hn
    have hg : ((List.range len).map A)[j / n]? = some (A (j / n)) := by rw [List.getElem?_map, List.getElem?_range hq]; rfl
    obtain ⟨v, hv⟩ : ∃ v, (f (A (j / n)))[j % n]? = some v := ⟨_, List.getElem?_eq_getElem (by rw [hf]; exact hr)⟩
    have hu := flat_get hf _ [] (j / n) _ hg (j % n) v hv
    rw [List.append_nil, Nat.div_add_mod'] at hu
    rw [hu] at hj
    cases hj
    have hc2 := (spot_of_cell (hcell (j / n) (j % n) _ (by omega) hv)).2
    rw [addr_block, addr_off, Nat.div_add_mod'] at hc2
    exact hc2
  · have hi' : i < len := by
      have := (List.getElem?_eq_some_iff.1 hi).1
      simpa using this
    simp [hi'] at hi hD
    subst hi hD
    exact (hA i (by omega)).2

theorem wf_u8 {x : Int} (h : (Lit.int .u8 x).wf = true) : 0 ≤ x ∧ x ≤ 255 := by
  simp only [Lit.wf, Bool.and_eq_true, decide_eq_true_eq] at h
  exact h
theorem wf_u16 {x : Int} (h : (Lit.int .u16 x).wf = true) : 0 ≤ x ∧ x ≤ 65535 := by
  simp only [Lit.wf, Bool.and_eq_true, decide_eq_true_eq] at h
  exact h
theorem wf_u32 {x : Int} (h : (Lit.int .u32 x).wf = true) : 0 ≤ x ∧ x ≤ 4294967295 := by
  simp only [Lit.wf, Bool.and_eq_true, decide_eq_true_eq] at h
  exact h
theorem wf_i64 {x : Int} (h : (Lit.int .i64 x).wf = true) : -9223372036854775808 ≤ x ∧ x ≤ 9223372036854775807 := by
  simp only [Lit.wf, Bool.and_eq_true, decide_eq_true_eq] at h
  exact h
def bcsv (b : Bool) : List Value := [.bool b]
theorem bcsv_len (b : Bool) : (bcsv b).length = 1 := rfl
/-- a slice of bools -/
theorem arg_bools {t e : TypeId} {v : Value} {d : DataW H0} {ps : List MemPlace} {r : Reach} {b0 : Nat} (ht : P.underlying t = some (.slice e)) (he : P.underlying e = some .bool) (hc : P.cellsOf e = 1)
    (hv : Value.okWide P W r b0 t v) (h : DataW.Trod enc P W 0 (fun _ => true) true t v d ps) :
    ∃ xs : List Bool, Row (fun b => W.heap[b]?) v 1 xs.length (xs.flatMap bcsv) ∧ ((d = .nil ∧ xs = []) ∨ ∃ (Ds sp : List (DataW H0)), d = .slice Ds sp ∧ Ds.length = xs.length) := by
  obtain ⟨a0, len, cap, rfl⟩ := okWide_slice ht hv
  obtain ⟨fuel, hf⟩ := h
  obtain ⟨v', xs, hcs, hrow, hd⟩ := trod_slice (f := bcsv) (by decide) bcsv_len (fun _ _ => True) ht hc (fun fuel cs D Pl h => by
    obtain ⟨b, rfl, _⟩ := DataW.trod_bool he h
    exact ⟨b, rfl, trivial⟩) hf
  simp only [Value.cells, List.cons.injEq, and_true] at hcs
  subst hcs
  exact ⟨xs, hrow, hd.imp id fun ⟨Ds, sp, h1, h2, _⟩ => ⟨Ds, sp, h1, h2⟩⟩
def scsv (s : ByteArray) : List Value := [.string s]
theorem scsv_len (s : ByteArray) : (scsv s).length = 1 := rfl
/-- a slice of texts -/
theorem arg_strings {t e : TypeId} {v : Value} {d : DataW H0} {ps : List MemPlace} {r : Reach} {b0 : Nat} (ht : P.underlying t = some (.slice e)) (he : P.underlying e = some .string) (hc : P.cellsOf e = 1)
    (hv : Value.okWide P W r b0 t v) (h : DataW.Trod enc P W 0 (fun _ => true) true t v d ps) :
    ∃ xs : List ByteArray, Row (fun b => W.heap[b]?) v 1 xs.length (xs.flatMap scsv) ∧ (∀ x ∈ xs, x.size ≤ maxLen) ∧ ((d = .nil ∧ xs = []) ∨ ∃ (Ds sp : List (DataW H0)), d = .slice Ds sp ∧ Ds.length = xs.length) := by
  obtain ⟨a0, len, cap, rfl⟩ := okWide_slice ht hv
  obtain ⟨fuel, hf⟩ := h
  obtain ⟨v', xs, hcs, hrow, hd⟩ := trod_slice (f := scsv) (by decide) scsv_len (fun s _ => s.size ≤ maxLen) ht hc (fun fuel cs D Pl h => by
    obtain ⟨b, rfl, _, hl⟩ := DataW.trod_string he h
    exact ⟨b, rfl, hl⟩) hf
  simp only [Value.cells, List.cons.injEq, and_true] at hcs
  subst hcs
  refine ⟨xs, hrow, fun x hx => ?_, hd.imp id fun ⟨Ds, sp, h1, h2, _⟩ => ⟨Ds, sp, h1, h2⟩⟩
  rcases hd with ⟨_, rfl⟩ | ⟨Ds, sp, h1, h2, h3⟩
  · cases hx
  · obtain ⟨i, hi⟩ := List.getElem?_of_mem hx
    have hlt := (List.getElem?_eq_some_iff.1 hi).1
    exact h3 i x Ds[i] hi (List.getElem?_eq_getElem (by omega))
/-- a slice of slices of integers -/
def gcs (a : Value × List Int) : List Value := [a.1]
theorem gcs_len (a : Value × List Int) : (gcs a).length = 1 := rfl
instance : Inhabited (Value × List Int) := ⟨(.bool false, [])⟩
theorem arg_graph {t e q : TypeId} {k : IntKind} {v : Value} {d : DataW H0} {ps : List MemPlace} {r : Reach} {b0 : Nat} (ht : P.underlying t = some (.slice e)) (he : P.underlying e = some (.slice q)) (hq : P.underlying q = some (.int k)) (hc : P.cellsOf e = 1) (hcq : P.cellsOf q = 1)
    (hv : Value.okWide P W r b0 t v) (h : DataW.Trod enc P W 0 (fun _ => true) true t v d ps) :
    ∃ xs : List (Value × List Int), Row (fun b => W.heap[b]?) v 1 xs.length (xs.flatMap gcs) ∧
      (∀ x ∈ xs, Row (fun b => W.heap[b]?) x.1 1 x.2.length (x.2.flatMap (icsk k)) ∧ ∀ y ∈ x.2, (Lit.int k y).wf = true) ∧
      ((d = .nil ∧ xs = []) ∨ ∃ (Ds sp : List (DataW H0)), d = .slice Ds sp ∧ Ds.length = xs.length ∧ ∀ (i : Nat) (a : Value × List Int) (D : DataW H0), xs[i]? = some a → Ds[i]? = some D → (D = .nil ∧ a.2 = []) ∨ ∃ (Ds sp : List (DataW H0)), D = .slice Ds sp ∧ Ds.length = a.2.length) := by
  obtain ⟨a0, len, cap, rfl⟩ := okWide_slice ht hv
  obtain ⟨fuel, hf⟩ := h
  obtain ⟨v', xs, hcs, hrow, hd⟩ := trod_slice (f := gcs) (by decide) gcs_len (fun x D => (Row (fun b => W.heap[b]?) x.1 1 x.2.length (x.2.flatMap (icsk k)) ∧ ∀ y ∈ x.2, (Lit.int k y).wf = true) ∧ ((D = .nil ∧ x.2 = []) ∨ ∃ (Ds sp : List (DataW H0)), D = .slice Ds sp ∧ Ds.length = x.2.length)) ht hc (fun fuel cs D Pl h => by
    obtain ⟨v2, ys, rfl, hr2, hd2⟩ := trod_slice (f := icsk k) (by decide) (icsk_len k) (fun y _ => (Lit.int k y).wf = true) he hcq (fun fuel cs D Pl h => by
      obtain ⟨y, rfl, _, hw⟩ := DataW.trod_int hq h
      exact ⟨y, rfl, hw⟩) h
    refine ⟨(v2, ys), rfl, ⟨hr2, fun y hy => ?_⟩, hd2.imp id fun ⟨Ds, sp, h1, h2, _⟩ => ⟨Ds, sp, h1, h2⟩⟩
    rcases hd2 with ⟨_, rfl⟩ | ⟨Ds, sp, h1, h2, h3⟩
    · cases hy
    · obtain ⟨i, hi⟩ := List.getElem?_of_mem hy
      have hlt := (List.getElem?_eq_some_iff.1 hi).1
      have h2' : Ds.length = ys.length := h2
      have hlt' : i < ys.length := hlt
      exact h3 i y (Ds[i]'(by omega)) hi (List.getElem?_eq_getElem (by omega))) hf
  simp only [Value.cells, List.cons.injEq, and_true] at hcs
  subst hcs
  refine ⟨xs, hrow, fun x hx => ?_, hd.imp id fun ⟨Ds, sp, h1, h2, h3⟩ => ⟨Ds, sp, h1, h2, fun i a D ha hD => (h3 i a D ha hD).2⟩⟩
  rcases hd with ⟨_, rfl⟩ | ⟨Ds, sp, h1, h2, h3⟩
  · cases hx
  · obtain ⟨i, hi⟩ := List.getElem?_of_mem hx
    have hlt := (List.getElem?_eq_some_iff.1 hi).1
    exact (h3 i x Ds[i] hi (List.getElem?_eq_getElem (by omega))).1
end
end SX
namespace SX
open Go

section
variable {P : Program} {env : Env} {L : List Assn}
theorem ef_copy {t t' e n by_ : Nat} [ht : TSl P t e n by_] {x y : Operand} {db dl dc sb so sl sc st : Nat} {cs1 cs2 : List Value} {R : List Assn} (news : List Value)
    (hx : evalE env x = some (.slice (some ⟨db, 0, none⟩) dl dc)) (hy : evalE env y = some (.slice (some ⟨sb, so, none⟩) sl sc)) (hL : Split L [blk db e cs1, blk sb st cs2] R)
    (hnl : news.length = Nat.min sl dl * n) (hnews : ∀ j u, news[j]? = some u → cs2[so + j]? = some u) (h1 : news.all Value.oneCell' = true) (hfit : news.length ≤ cs1.length) :
    Ef P env L (.call { callee := .builtin .copy, args := #[x, y], argTypes := #[t, t'] }) (fun k => k (.int .i64 (Nat.min sl dl : Nat)) (blk db e (news ++ cs1.drop news.length) :: blk sb st cs2 :: R)) := by
  intro ro dst tt pos af g N E a w next Q k hf hh hk hn
  have h2 := hh.ent hL.ent
  have hd : w.heap[db]? = some (.cells cs1.toArray e (0, 0)) := h2.one_get .here
  have hs : w.heap[sb]? = some (.cells cs2.toArray st (0, 0)) := h2.one_get (.there .here)
  obtain ⟨i, hu, hi, hin, _⟩ := ht.ok
  have hld : (Builtin.firstCells n (Nat.min sl dl) (.slice (some ⟨sb, so, none⟩) sl sc)).run P w = .ok news.toArray w :=
    run_firstCells_some (P := P) w n (Nat.min sl dl) ⟨sb, so, none⟩ sl sc news hnl (fun j u hj => by
      rw [addr_add, cell_of_row w sb (so + j) cs2.toArray st (0, 0) hs]
      simpa using hnews j u hj)
  have hst := run_storeCells_at P db 0 e news 0 cs1.toArray w hd (by simpa using hfit) (by simpa using h1)
  simp only [Nat.zero_add, List.take_zero, List.nil_append] at hst
  have hrun : (Builtin.copy_ #[t, t'] tt #[.slice (some ⟨db, 0, none⟩) dl dc, .slice (some ⟨sb, so, none⟩) sl sc]).run P w = .ok (.int .i64 (Nat.min sl dl : Nat)) (w.setRow db (news ++ cs1.drop news.length).toArray) := by
    simp [Builtin.copy_, run_underlying hu, Builtin.lenOf, Go.sizeOf, typeInfo, hi, hin, hld, hst, goInt]
  have hb : (execOp a.eval ⟨dst, .call { callee := .builtin .copy, args := #[x, y], argTypes := #[t, t'] }, tt, pos, af, g⟩).run P w = .ok (.value (.int .i64 (Nat.min sl dl : Nat))) (w.setRow db (news ++ cs1.drop news.length).toArray) := by
    simp [execOp, resolve, invoke, builtin, hf.ev x _ hx, hf.ev y _ hy, hrun]
  refine wpIn_value hb (hn _ _ _ hk (h2.upd (b := db) .here _ rfl rfl rfl (by simp [World.setRow]) ?_ ?_))
  · exact setRow_heap w db cs1.toArray _ e (0, 0) hd
  · intro k hne
    exact setRow_other w db k _ hne
end
end SX
namespace SX
open Go Go.ChangeShapes
section
variable {H : Type} {enc : TypeId × Value → H}
theorem returns_cond_and {a : Assume} {C : Checked} {os : Os} {f : FuncId} {fn : Func} {s : OpenSpec} {k : (H : Type) → List (DataW H) → Bool} (hk : s.cond = some k) {F : Stop.Interp} {conds : List PathCond} {apart fresh handsOn again : Bool} {X : World → Array Value → Prop}
    (hX : ∀ (w w' : World) (args : Array Value), w.heap = w'.heap → X w args → X w' args)
    (own : ownKnob C.prog.godebug = none) (started : os.Started) (noInit : C.prog.inits.idxOf? f = none) (hfn : C.prog.funcs[f]? = some fn)
    (witness : ∃ (w : World) (tape : Tape) (i : Input), w.os = os ∧ (w.forCall tape i).Shaped C.prog ∧ i.vars = [] ∧ Input.okWide C.prog (w.forCall tape i) .any w.heap.size f i ∧
      ((s.pre enc C.prog fn conds apart (w.forCall tape i).memory i.args ∧ X (w.forCall tape i).memory i.args) ∧ sizedMet enc C.prog fn s apart (w.forCall tape i).memory i.args) ∧ a.holds C.prog (lone (Frame.enter C.prog f i.args .normal) [] (w.forCall tape i)))
    (contract : ∀ (W : World) (base : Nat) (args : Array Value) (ds gs : List (DataW H)) (before : List MemPlace),
      (∀ (j : Nat) t v, fn.params[j]? = some t → args[j]? = some v → Value.okWide C.prog W .any base t v) →
      DataW.Whole enc C.prog fn.params.toList s.vars apart W args.toList ds gs before → k H (ds ++ gs) = true → X W args →
      Calls C.prog f args W fun e W' => ∃ v, e = .returned v ∧ (s.at F).post enc C.prog fn apart fresh handsOn again W args v W') :
    ReturnsInHanded a C os f .any (fun w args => (s.pre enc C.prog fn conds apart w args ∧ X w args) ∧ sizedMet enc C.prog fn s apart w args) ((s.at F).post enc C.prog fn apart fresh handsOn again) := by
  refine returnsInHanded_of_calls own started noInit witness ?_
  intro w tape i _ _ _ hok hpre hholds
  obtain ⟨_, _, _, fn', hfn', _, _, _, _, hval⟩ := hok
  have e : fn' = fn := Option.some.inj (hfn'.symm.trans hfn)
  subst e
  obtain ⟨⟨hp, hx⟩, hz⟩ := hpre
  obtain ⟨ds, gs, before, hw, hc, hkk⟩ := (OpenSpec.pre_some hk conds apart _ _).1 hp
  have hw' := DataW.Whole.of_heap (w' := w.forCall tape i) (by rfl) hw
  refine (contract (w.forCall tape i) w.heap.size i.args ds gs before hval hw' hkk (hX _ _ _ (by rfl) hx)).mono fun e W' ⟨v, he, hp⟩ => ?_
  subst he
  exact ChangeSpec.post_blind hp
theorem witness_cond_and {C : Checked} {os : Os} {f : FuncId} {fn : Func} {s : OpenSpec} {k : (H : Type) → List (DataW H) → Bool} (hk : s.cond = some k) {conds : List PathCond} {apart : Bool} {X : World → Array Value → Prop} (modest : Bool) (w0 : World) (args : Array Value) (fuel : Nat) (hos : w0.os = os)
    (hsh : (w0.forCall (fun _ _ => 0) ⟨#[], args, []⟩).Shaped C.prog)
    (hok : Input.okWideB C.prog (w0.forCall (fun _ _ => 0) ⟨#[], args, []⟩) f ⟨#[], args, []⟩ = true)
    {x : List (DataW H) × List (DataW H) × List MemPlace} (hw : DataW.whole enc C.prog (w0.forCall (fun _ _ => 0) ⟨#[], args, []⟩).memory fn.params.toList s.vars apart args.toList fuel = some x)
    (hconds : conds.all (PathCond.test C.prog ⟨fn.params.toList, x.1, s.bare.plain.varTypes C.prog, x.2.1⟩) = true) (hkk : k H (x.1 ++ x.2.1) = true)
    (hsz : s.bare.sizedB enc C.prog fn apart (w0.forCall (fun _ _ => 0) ⟨#[], args, []⟩).memory args fuel = true)
    (hx : X (w0.forCall (fun _ _ => 0) ⟨#[], args, []⟩).memory args) :
    ∃ (w : World) (tape : Tape) (i : Input), w.os = os ∧ (w.forCall tape i).Shaped C.prog ∧ i.vars = [] ∧ Input.okWide C.prog (w.forCall tape i) .any w.heap.size f i ∧
      ((s.pre enc C.prog fn conds apart (w.forCall tape i).memory i.args ∧ X (w.forCall tape i).memory i.args) ∧ sizedMet enc C.prog fn s apart (w.forCall tape i).memory i.args) ∧ ({ modest := modest } : Assume).holds C.prog (lone (Frame.enter C.prog f i.args .normal) [] (w.forCall tape i)) :=
  ⟨w0, fun _ _ => 0, ⟨#[], args, []⟩, hos, hsh, (Input.okWide_of_okWideB (base := 0) hok).1, (Input.okWide_of_okWideB hok).2, ⟨⟨(OpenSpec.pre_some hk conds apart _ _).2 ⟨x.1, x.2.1, x.2.2, DataW.Whole_of_whole hw, hconds, hkk⟩, hx⟩, sizedMet_of_sizedB hsz⟩, by
    simp only [Assume.holds]
    exact ⟨by simp, by simp, fun _ => Modest.zero, by simp, by simp⟩⟩
end
end SX
namespace SX
open Go Go.Proofs
instance : Body Tryd.prog 2 := ⟨_, Tryd.func2, rfl, by decide⟩
instance : Body Tryd.prog 3 := ⟨_, Tryd.func3, rfl, by decide⟩
instance : Body Tryd.prog 4 := ⟨_, Tryd.func4, rfl, by decide⟩
instance : Body Tryd.prog 5 := ⟨_, Tryd.func5, rfl, by decide⟩
instance : Body Tryd.prog 6 := ⟨_, Tryd.func6, rfl, by decide⟩
instance : Body Tryd.prog 7 := ⟨_, Tryd.func7, rfl, by decide⟩
instance : Body Tryd.prog 8 := ⟨_, Tryd.func8, rfl, by decide⟩
instance : Body Tryd.prog 9 := ⟨_, Tryd.func9, rfl, by decide⟩
instance : Body Tryd.prog 10 := ⟨_, Tryd.func10, rfl, by decide⟩
instance : Body Tryd.prog 11 := ⟨_, Tryd.func11, rfl, by decide⟩
instance : Body Tryd.prog 12 := ⟨_, Tryd.func12, rfl, by decide⟩
instance : Body Tryd.prog 13 := ⟨_, Tryd.func13, rfl, by decide⟩
instance : Body Tryd.prog 14 := ⟨_, Tryd.func14, rfl, by decide⟩
instance : Body Tryd.prog 15 := ⟨_, Tryd.func15, rfl, by decide⟩
instance : Body Tryd.prog 16 := ⟨_, Tryd.func16, rfl, by decide⟩
instance : Body Tryd.prog 17 := ⟨_, Tryd.func17, rfl, by decide⟩
instance : Body Tryd.prog 18 := ⟨_, Tryd.func18, rfl, by decide⟩
instance : Body Tryd.prog 19 := ⟨_, Tryd.func19, rfl, by decide⟩
instance : Body Tryd.prog 20 := ⟨_, Tryd.func20, rfl, by decide⟩
instance : Body Tryd.prog 21 := ⟨_, Tryd.func21, rfl, by decide⟩
instance : Body Tryd.prog 22 := ⟨_, Tryd.func22, rfl, by decide⟩
instance : Body Tryd.prog 23 := ⟨_, Tryd.func23, rfl, by decide⟩
instance : Body Tryd.prog 24 := ⟨_, Tryd.func24, rfl, by decide⟩
instance : Body Tryd.prog 25 := ⟨_, Tryd.func25, rfl, by decide⟩
instance : Body Tryd.prog 26 := ⟨_, Tryd.func26, rfl, by decide⟩
instance : Body Tryd.prog 27 := ⟨_, Tryd.func27, rfl, by decide⟩
instance : Body Tryd.prog 28 := ⟨_, Tryd.func28, rfl, by decide⟩
instance : Body Tryd.prog 29 := ⟨_, Tryd.func29, rfl, by decide⟩
instance : Body Tryd.prog 30 := ⟨_, Tryd.func30, rfl, by decide⟩
instance : Body Tryd.prog 31 := ⟨_, Tryd.func31, rfl, by decide⟩
instance : Body Tryd.prog 32 := ⟨_, Tryd.func32, rfl, by decide⟩
instance : Body Tryd.prog 33 := ⟨_, Tryd.func33, rfl, by decide⟩
instance : Body Tryd.prog 34 := ⟨_, Tryd.func34, rfl, by decide⟩
instance : Body Tryd.prog 35 := ⟨_, Tryd.func35, rfl, by decide⟩
instance : Body Tryd.prog 36 := ⟨_, Tryd.func36, rfl, by decide⟩
instance : Body Tryd.prog 37 := ⟨_, Tryd.func37, rfl, by decide⟩
instance : Body Tryd.prog 38 := ⟨_, Tryd.func38, rfl, by decide⟩
instance : Body Tryd.prog 39 := ⟨_, Tryd.func39, rfl, by decide⟩
instance : Body Tryd.prog 40 := ⟨_, Tryd.func40, rfl, by decide⟩
instance : Body Tryd.prog 41 := ⟨_, Tryd.func41, rfl, by decide⟩
instance : Body Tryd.prog 42 := ⟨_, Tryd.func42, rfl, by decide⟩
instance : Body Tryd.prog 43 := ⟨_, Tryd.func43, rfl, by decide⟩
instance : Body Tryd.prog 44 := ⟨_, Tryd.func44, rfl, by decide⟩
instance : Body Tryd.prog 45 := ⟨_, Tryd.func45, rfl, by decide⟩
instance : Body Tryd.prog 46 := ⟨_, Tryd.func46, rfl, by decide⟩
instance : Body Tryd.prog 47 := ⟨_, Tryd.func47, rfl, by decide⟩
instance : Body Tryd.prog 48 := ⟨_, Tryd.func48, rfl, by decide⟩
instance : Body Tryd.prog 49 := ⟨_, Tryd.func49, rfl, by decide⟩
instance : Body Tryd.prog 50 := ⟨_, Tryd.func50, rfl, by decide⟩
instance : Body Tryd.prog 51 := ⟨_, Tryd.func51, rfl, by decide⟩
instance : Body Tryd.prog 52 := ⟨_, Tryd.func52, rfl, by decide⟩
instance : Body Tryd.prog 53 := ⟨_, Tryd.func53, rfl, by decide⟩
instance : Body Tryd.prog 54 := ⟨_, Tryd.func54, rfl, by decide⟩
instance : Body Tryd.prog 55 := ⟨_, Tryd.func55, rfl, by decide⟩
instance : Body Tryd.prog 56 := ⟨_, Tryd.func56, rfl, by decide⟩
instance : Body Tryd.prog 57 := ⟨_, Tryd.func57, rfl, by decide⟩
instance : Body Tryd.prog 58 := ⟨_, Tryd.func58, rfl, by decide⟩
instance : Body Tryd.prog 59 := ⟨_, Tryd.func59, rfl, by decide⟩
instance : Body Tryd.prog 60 := ⟨_, Tryd.func60, rfl, by decide⟩
instance : Body Tryd.prog 61 := ⟨_, Tryd.func61, rfl, by decide⟩
instance : Body Tryd.prog 62 := ⟨_, Tryd.func62, rfl, by decide⟩
instance : Body Tryd.prog 63 := ⟨_, Tryd.func63, rfl, by decide⟩
instance : Body Tryd.prog 64 := ⟨_, Tryd.func64, rfl, by decide⟩
instance : Body Tryd.prog 65 := ⟨_, Tryd.func65, rfl, by decide⟩
instance : Body Tryd.prog 66 := ⟨_, Tryd.func66, rfl, by decide⟩
instance : Body Tryd.prog 67 := ⟨_, Tryd.func67, rfl, by decide⟩
instance : Body Tryd.prog 68 := ⟨_, Tryd.func68, rfl, by decide⟩
instance : Body Tryd.prog 69 := ⟨_, Tryd.func69, rfl, by decide⟩
instance : Body Tryd.prog 70 := ⟨_, Tryd.func70, rfl, by decide⟩
instance : Body Tryd.prog 71 := ⟨_, Tryd.func71, rfl, by decide⟩
instance : Body Tryd.prog 72 := ⟨_, Tryd.func72, rfl, by decide⟩
instance : Body Tryd.prog 73 := ⟨_, Tryd.func73, rfl, by decide⟩
instance : Body Tryd.prog 74 := ⟨_, Tryd.func74, rfl, by decide⟩
instance : Body Tryd.prog 75 := ⟨_, Tryd.func75, rfl, by decide⟩
instance : Body Tryd.prog 76 := ⟨_, Tryd.func76, rfl, by decide⟩
instance : Body Tryd.prog 77 := ⟨_, Tryd.func77, rfl, by decide⟩
instance : Body Tryd.prog 78 := ⟨_, Tryd.func78, rfl, by decide⟩
instance : Body Tryd.prog 79 := ⟨_, Tryd.func79, rfl, by decide⟩
instance : Body Tryd.prog 80 := ⟨_, Tryd.func80, rfl, by decide⟩
instance : Body Tryd.prog 81 := ⟨_, Tryd.func81, rfl, by decide⟩
instance : Body Tryd.prog 82 := ⟨_, Tryd.func82, rfl, by decide⟩
instance : Body Tryd.prog 83 := ⟨_, Tryd.func83, rfl, by decide⟩
instance : Body Tryd.prog 84 := ⟨_, Tryd.func84, rfl, by decide⟩
instance : Body Tryd.prog 85 := ⟨_, Tryd.func85, rfl, by decide⟩
instance : Body Tryd.prog 86 := ⟨_, Tryd.func86, rfl, by decide⟩
instance : Body Tryd.prog 87 := ⟨_, Tryd.func87, rfl, by decide⟩
instance : Body Tryd.prog 88 := ⟨_, Tryd.func88, rfl, by decide⟩
instance : Body Tryd.prog 109 := ⟨_, Tryd.func109, rfl, by decide⟩
instance : TOne Tryd.prog 3 := ⟨by kernel_rfl, by kernel_rfl⟩
instance : TZero Tryd.prog 3 [(.int .i64 0)] := ⟨by kernel_rfl⟩
instance : TInt Tryd.prog 3 .i64 := ⟨Tryd.underlying3⟩
instance : TConc Tryd.prog 3 := ⟨_, Tryd.underlying3, rfl⟩
instance : TOne Tryd.prog 4 := ⟨by kernel_rfl, by kernel_rfl⟩
instance : TZero Tryd.prog 4 [(.bool false)] := ⟨by kernel_rfl⟩
instance : TBool Tryd.prog 4 := ⟨Tryd.underlying4⟩
instance : TConc Tryd.prog 4 := ⟨_, Tryd.underlying4, rfl⟩
instance : TOne Tryd.prog 5 := ⟨by kernel_rfl, by kernel_rfl⟩
instance : TZero Tryd.prog 5 [(.int .u8 0)] := ⟨by kernel_rfl⟩
instance : TInt Tryd.prog 5 .u8 := ⟨Tryd.underlying5⟩
instance : TConc Tryd.prog 5 := ⟨_, Tryd.underlying5, rfl⟩
instance : TOne Tryd.prog 9 := ⟨by kernel_rfl, by kernel_rfl⟩
instance : TZero Tryd.prog 9 [(.string ⟨#[]⟩)] := ⟨by kernel_rfl⟩
instance : TStr Tryd.prog 9 := ⟨Tryd.underlying9⟩
instance : TConc Tryd.prog 9 := ⟨_, Tryd.underlying9, rfl⟩
instance : TOne Tryd.prog 22 := ⟨by kernel_rfl, by kernel_rfl⟩
instance : TZero Tryd.prog 22 [(.int .u16 0)] := ⟨by kernel_rfl⟩
instance : TInt Tryd.prog 22 .u16 := ⟨Tryd.underlying22⟩
instance : TConc Tryd.prog 22 := ⟨_, Tryd.underlying22, rfl⟩
instance : TOne Tryd.prog 23 := ⟨by kernel_rfl, by kernel_rfl⟩
instance : TZero Tryd.prog 23 [(.slice none 0 0)] := ⟨by kernel_rfl⟩
instance : TSl Tryd.prog 23 3 1 8 := ⟨Tryd.underlying23, by kernel_rfl⟩
instance : TConc Tryd.prog 23 := ⟨_, Tryd.underlying23, rfl⟩
instance : TOne Tryd.prog 25 := ⟨by kernel_rfl, by kernel_rfl⟩
instance : TZero Tryd.prog 25 [(.pointer none)] := ⟨by kernel_rfl⟩
instance : TPtr Tryd.prog 25 := ⟨_, Tryd.underlying25⟩
instance : TConc Tryd.prog 25 := ⟨_, Tryd.underlying25, rfl⟩
instance : TOne Tryd.prog 29 := ⟨by kernel_rfl, by kernel_rfl⟩
instance : TZero Tryd.prog 29 [.nilFunc] := ⟨by kernel_rfl⟩
instance : TFn Tryd.prog 29 := ⟨_, _, _, Tryd.underlying29⟩
instance : TConc Tryd.prog 29 := ⟨_, Tryd.underlying29, rfl⟩
instance : TOne Tryd.prog 33 := ⟨by kernel_rfl, by kernel_rfl⟩
instance : TZero Tryd.prog 33 [(.slice none 0 0)] := ⟨by kernel_rfl⟩
instance : TSl Tryd.prog 33 41 2 16 := ⟨Tryd.underlying33, by kernel_rfl⟩
instance : TConc Tryd.prog 33 := ⟨_, Tryd.underlying33, rfl⟩
instance : TOne Tryd.prog 35 := ⟨by kernel_rfl, by kernel_rfl⟩
instance : TZero Tryd.prog 35 [(.pointer none)] := ⟨by kernel_rfl⟩
instance : TPtr Tryd.prog 35 := ⟨_, Tryd.underlying35⟩
instance : TConc Tryd.prog 35 := ⟨_, Tryd.underlying35, rfl⟩
instance : TOne Tryd.prog 37 := ⟨by kernel_rfl, by kernel_rfl⟩
instance : TZero Tryd.prog 37 [(.slice none 0 0)] := ⟨by kernel_rfl⟩
instance : TSl Tryd.prog 37 4 1 1 := ⟨Tryd.underlying37, by kernel_rfl⟩
instance : TConc Tryd.prog 37 := ⟨_, Tryd.underlying37, rfl⟩
instance : TAgg Tryd.prog 39 1 := ⟨by kernel_rfl, by kernel_rfl⟩
instance : TZero Tryd.prog 39 [(.slice none 0 0)] := ⟨by kernel_rfl⟩
instance : TBld Tryd.prog 39 [(.slice none 0 0)] [(0, 1)] := ⟨by kernel_rfl, by kernel_rfl⟩
instance : TFld Tryd.prog 39 0 0 := ⟨by kernel_rfl⟩
instance : TPart Tryd.prog 39 0 0 1 false := ⟨by kernel_rfl⟩
instance : TConc Tryd.prog 39 := ⟨_, Tryd.underlying39, rfl⟩
instance : TAgg Tryd.prog 41 2 := ⟨by kernel_rfl, by kernel_rfl⟩
instance : TZero Tryd.prog 41 [(.int .u8 0), (.int .i64 0)] := ⟨by kernel_rfl⟩
instance : TBld Tryd.prog 41 [(.int .u8 0), (.int .i64 0)] [(0, 1), (1, 1)] := ⟨by kernel_rfl, by kernel_rfl⟩
instance : TEq2 Tryd.prog 41 := ⟨by kernel_rfl, by kernel_rfl⟩
instance : TFld Tryd.prog 41 0 0 := ⟨by kernel_rfl⟩
instance : TPart Tryd.prog 41 0 0 1 false := ⟨by kernel_rfl⟩
instance : TFld Tryd.prog 41 1 1 := ⟨by kernel_rfl⟩
instance : TPart Tryd.prog 41 1 1 1 false := ⟨by kernel_rfl⟩
instance : TConc Tryd.prog 41 := ⟨_, Tryd.underlying41, rfl⟩
instance : TOne Tryd.prog 50 := ⟨by kernel_rfl, by kernel_rfl⟩
instance : TZero Tryd.prog 50 [(.slice none 0 0)] := ⟨by kernel_rfl⟩
instance : TSl Tryd.prog 50 67 1 8 := ⟨Tryd.underlying50, by kernel_rfl⟩
instance : TConc Tryd.prog 50 := ⟨_, Tryd.underlying50, rfl⟩
instance : TAgg Tryd.prog 52 2 := ⟨by kernel_rfl, by kernel_rfl⟩
instance : TZero Tryd.prog 52 [(.int .i64 0), (.slice none 0 0)] := ⟨by kernel_rfl⟩
instance : TBld Tryd.prog 52 [(.int .i64 0), (.slice none 0 0)] [(0, 1), (1, 1)] := ⟨by kernel_rfl, by kernel_rfl⟩
instance : TFld Tryd.prog 52 0 0 := ⟨by kernel_rfl⟩
instance : TPart Tryd.prog 52 0 0 1 false := ⟨by kernel_rfl⟩
instance : TFld Tryd.prog 52 1 1 := ⟨by kernel_rfl⟩
instance : TPart Tryd.prog 52 1 1 1 false := ⟨by kernel_rfl⟩
instance : TConc Tryd.prog 52 := ⟨_, Tryd.underlying52, rfl⟩
instance : TOne Tryd.prog 54 := ⟨by kernel_rfl, by kernel_rfl⟩
instance : TZero Tryd.prog 54 [(.slice none 0 0)] := ⟨by kernel_rfl⟩
instance : TSl Tryd.prog 54 23 1 24 := ⟨Tryd.underlying54, by kernel_rfl⟩
instance : TConc Tryd.prog 54 := ⟨_, Tryd.underlying54, rfl⟩
instance : TOne Tryd.prog 56 := ⟨by kernel_rfl, by kernel_rfl⟩
instance : TZero Tryd.prog 56 [(.int .i64 0)] := ⟨by kernel_rfl⟩
instance : TInt Tryd.prog 56 .i64 := ⟨Tryd.underlying56⟩
instance : TConc Tryd.prog 56 := ⟨_, Tryd.underlying56, rfl⟩
instance : TOne Tryd.prog 67 := ⟨by kernel_rfl, by kernel_rfl⟩
instance : TZero Tryd.prog 67 [(.int .u64 0)] := ⟨by kernel_rfl⟩
instance : TInt Tryd.prog 67 .u64 := ⟨Tryd.underlying67⟩
instance : TConc Tryd.prog 67 := ⟨_, Tryd.underlying67, rfl⟩
instance : TOne Tryd.prog 69 := ⟨by kernel_rfl, by kernel_rfl⟩
instance : TZero Tryd.prog 69 [(.int .u64 0)] := ⟨by kernel_rfl⟩
instance : TInt Tryd.prog 69 .u64 := ⟨Tryd.underlying69⟩
instance : TConc Tryd.prog 69 := ⟨_, Tryd.underlying69, rfl⟩
instance : TOne Tryd.prog 72 := ⟨by kernel_rfl, by kernel_rfl⟩
instance : TZero Tryd.prog 72 [.nilFunc] := ⟨by kernel_rfl⟩
instance : TFn Tryd.prog 72 := ⟨_, _, _, Tryd.underlying72⟩
instance : TConc Tryd.prog 72 := ⟨_, Tryd.underlying72, rfl⟩
instance : TOne Tryd.prog 76 := ⟨by kernel_rfl, by kernel_rfl⟩
instance : TZero Tryd.prog 76 [(.map none)] := ⟨by kernel_rfl⟩
instance : TMap Tryd.prog 76 3 3 := ⟨Tryd.underlying76⟩
instance : TZv Tryd.prog 3 (.int .i64 0) := ⟨by kernel_rfl⟩
instance : TConc Tryd.prog 76 := ⟨_, Tryd.underlying76, rfl⟩
instance : TOne Tryd.prog 79 := ⟨by kernel_rfl, by kernel_rfl⟩
instance : TZero Tryd.prog 79 [(.slice none 0 0)] := ⟨by kernel_rfl⟩
instance : TSl Tryd.prog 79 25 1 8 := ⟨Tryd.underlying79, by kernel_rfl⟩
instance : TConc Tryd.prog 79 := ⟨_, Tryd.underlying79, rfl⟩
instance : TAgg Tryd.prog 88 64 := ⟨by kernel_rfl, by kernel_rfl⟩
instance : TZero Tryd.prog 88 [(.int .u8 0), (.int .u8 0), (.int .u8 0), (.int .u8 0), (.int .u8 0), (.int .u8 0), (.int .u8 0), (.int .u8 0), (.int .u8 0), (.int .u8 0), (.int .u8 0), (.int .u8 0), (.int .u8 0), (.int .u8 0), (.int .u8 0), (.int .u8 0), (.int .u8 0), (.int .u8 0), (.int .u8 0), (.int .u8 0), (.int .u8 0), (.int .u8 0), (.int .u8 0), (.int .u8 0), (.int .u8 0), (.int .u8 0), (.int .u8 0), (.int .u8 0), (.int .u8 0), (.int .u8 0), (.int .u8 0), (.int .u8 0), (.int .u8 0), (.int .u8 0), (.int .u8 0), (.int .u8 0), (.int .u8 0), (.int .u8 0), (.int .u8 0), (.int .u8 0), (.int .u8 0), (.int .u8 0), (.int .u8 0), (.int .u8 0), (.int .u8 0), (.int .u8 0), (.int .u8 0), (.int .u8 0), (.int .u8 0), (.int .u8 0), (.int .u8 0), (.int .u8 0), (.int .u8 0), (.int .u8 0), (.int .u8 0), (.int .u8 0), (.int .u8 0), (.int .u8 0), (.int .u8 0), (.int .u8 0), (.int .u8 0), (.int .u8 0), (.int .u8 0), (.int .u8 0)] := ⟨by kernel_rfl⟩
instance : TArr Tryd.prog 88 64 5 1 := ⟨Tryd.underlying88, by kernel_rfl⟩
instance : TConc Tryd.prog 88 := ⟨_, Tryd.underlying88, rfl⟩
end SX
namespace SX
open Go Go.Proofs

theorem ones_spec (w : BitVec 64) : Spec Tryd.prog 45 [wv w] [] (fun v L => v = .int .i64 (popc w : Nat) ∧ L = []) := by
  have hb := (onesB_eq w).2
  refine Spec.of 35 Tryd.func45 rfl rfl rfl ?_
  refine swp_seq ?_
  refine swp_region ?_
  refine s_pu (pu_assign rfl) ?_
  refine swl_sub _ (.cons (t := 0) rfl .nil) ?_
  refine swl_nil ?_
  refine then_n ?_
  refine swp_seq ?_
  refine swp_region ?_
  refine s_pu (pu_move rfl) ?_
  refine s_pu (pu_shr_w (a := w) 1 rfl rfl (by decide)) ?_
  refine s_pu (pu_and_w (b := 6148914691236517205#64) rfl rfl) ?_
  refine s_pu (pu_move rfl) ?_
  refine s_pu (pu_and_w (a := w) (b := 6148914691236517205#64) rfl rfl) ?_
  refine s_pu (pu_add_w rfl rfl) ?_
  refine s_pu (pu_assign rfl) ?_
  refine swl_sub _ (.cons (t := 0) rfl .nil) ?_
  refine swl_nil ?_
  refine then_n ?_
  refine swp_seq ?_
  refine swp_region ?_
  refine s_pu (pu_move rfl) ?_
  refine s_pu (pu_shr_w 2 rfl rfl (by omega)) ?_
  refine s_pu (pu_and_w (b := 3689348814741910323#64) rfl rfl) ?_
  refine s_pu (pu_move rfl) ?_
  refine s_pu (pu_and_w (b := 3689348814741910323#64) rfl rfl) ?_
  refine s_pu (pu_add_w rfl rfl) ?_
  refine s_pu (pu_assign rfl) ?_
  refine swl_sub _ (.cons (t := 0) rfl .nil) ?_
  refine swl_nil ?_
  refine then_n ?_
  refine swp_seq ?_
  refine swp_region ?_
  refine s_pu (pu_move rfl) ?_
  refine s_pu (pu_shr_w 4 rfl rfl (by omega)) ?_
  refine s_pu (pu_move rfl) ?_
  refine s_pu (pu_add_w rfl rfl) ?_
  refine s_pu (pu_and_w (b := 1085102592571150095#64) rfl rfl) ?_
  refine s_pu (pu_assign rfl) ?_
  refine swl_sub _ (.cons (t := 0) rfl .nil) ?_
  refine swl_nil ?_
  refine then_n ?_
  refine swp_seq ?_
  refine swp_region ?_
  refine s_pu (pu_move rfl) ?_
  refine s_pu (pu_move rfl) ?_
  refine s_pu (pu_shr_w 8 rfl rfl (by omega)) ?_
  refine s_pu (pu_add_w rfl rfl) ?_
  refine s_pu (pu_assign rfl) ?_
  refine swl_sub _ (.cons (t := 0) rfl .nil) ?_
  refine swl_nil ?_
  refine then_n ?_
  refine swp_seq ?_
  refine swp_region ?_
  refine s_pu (pu_move rfl) ?_
  refine s_pu (pu_move rfl) ?_
  refine s_pu (pu_shr_w 16 rfl rfl (by omega)) ?_
  refine s_pu (pu_add_w rfl rfl) ?_
  refine s_pu (pu_assign rfl) ?_
  refine swl_sub _ (.cons (t := 0) rfl .nil) ?_
  refine swl_nil ?_
  refine then_n ?_
  refine swp_seq ?_
  refine swp_region ?_
  refine s_pu (pu_move rfl) ?_
  refine s_pu (pu_move rfl) ?_
  refine s_pu (pu_shr_w 32 rfl rfl (by omega)) ?_
  refine s_pu (pu_add_w rfl rfl) ?_
  refine s_pu (pu_assign rfl) ?_
  refine swl_sub _ (.cons (t := 0) rfl .nil) ?_
  refine swl_nil ?_
  refine then_n ?_
  refine swp_seq ?_
  refine swp_region ?_
  refine s_pu (pu_move rfl) ?_
  refine s_pu (pu_conv_i64 (n := ((onesB w).toNat : Int)) rfl (by omega) (by omega)) ?_
  refine s_pu (pu_and_nat (onesB w).toNat 127 rfl rfl hb (by decide)) ?_
  refine s_pu (pu_assign rfl) ?_
  refine swl_sub _ (.cons (t := 2) rfl .nil) ?_
  refine swl_nil ?_
  refine then_n ?_
  refine swp_ret ?_
  exact done_ret [] (.tmp rfl .nil) ⟨by simp only [resV]; rw [(onesB_eq w).1], rfl⟩ (by repeat (first | exact Split.nil | (apply Split.cons; (repeat (first | with_reducible exact Take.here | apply Take.there)))))

/-- the table of the de Bruijn numbers lies there -/
def tabV : List Value := Lib.deBruijn64tab.map fun n => Value.int .u8 (n : Nat)
theorem tab_get {μ : PH} {g : Nat} (h : RowAt μ g 0 tabV) {j k : Nat} (hj : j < 64) (hk : Lib.deBruijn64tab.getD j 0 = k) : CellAt μ g j (.int .u8 (k : Nat)) := by
  have hlen : Lib.deBruijn64tab.length = 64 := rfl
  have := h j (.int .u8 (k : Nat)) (by
    unfold tabV
    rw [List.getElem?_map, List.getElem?_eq_getElem (by omega)]
    simp only [Option.map_some]
    rw [← hk, List.getD_eq_getElem?_getD, List.getElem?_eq_getElem (by omega)]; rfl)
  rwa [Nat.zero_add] at this

theorem tz_spec (μ : PH) (w : BitVec 64) (hT : RowAt μ 0 0 tabV) (hw : w ≠ 0#64) : Spec Tryd.prog 46 [wv w] [ro μ] (fun v L => v = .int .i64 (ctz w : Nat) ∧ L = [ro μ]) := by
  obtain ⟨h1, h2⟩ := ctz_idx hw
  have hc := tab_get hT h1 h2
  have hz := (ctz_spec hw).1
  have hn : ¬ ((w.toNat : Int) = 0) := fun e => hw (BitVec.eq_of_toNat_eq (by simpa using e))
  refine Spec.of 14 Tryd.func46 rfl rfl rfl ?_
  refine swp_seq ?_
  refine swp_region ?_
  refine s_pu (pu_assign rfl) ?_
  refine swl_sub _ (.cons (t := 0) rfl .nil) ?_
  refine swl_nil ?_
  refine then_n ?_
  refine swp_seq ?_
  refine swp_seq ?_
  refine swp_region ?_
  refine s_pu (pu_move rfl) ?_
  refine s_pu (pu_eql rfl rfl) ?_
  refine swl_sub _ (.cons (t := 0) rfl (.cons (t := 4) rfl .nil)) ?_
  refine swl_nil ?_
  refine then_n ?_
  refine swp_cond (b := _) rfl (fun h4 => absurd (of_decide_eq_true h4) hn) (fun h4 => ?_)
  refine swp_skip ?_
  refine then_n ?_
  refine swp_seq ?_
  refine swp_region ?_
  refine s_pu (pu_move rfl) ?_
  refine s_pu (pu_move rfl) ?_
  refine s_pu (pu_neg_w (a := w) rfl) ?_
  refine s_pu (pu_and_w (a := w) (b := -w) rfl rfl) ?_
  refine s_pu (pu_mul_w (a := w &&& -w) (b := 285870213051353865#64) rfl rfl) ?_
  refine s_pu (pu_shr_w (a := (w &&& -w) * 285870213051353865#64) 58 rfl rfl (by decide)) ?_
  refine s_pu (pu_indexAddr_arr (((w &&& -w) * 285870213051353865#64) >>> 58).toNat rfl rfl (by omega) (by omega) (by rw [Int.toNat_natCast]; omega)) ?_
  refine s_rd (rd_ro rfl hc) ?_
  first | refine s_pu (pu_conv_i64 rfl (by omega) (by omega)) ?_ | refine s_pu (pu_conv rfl) ?_
  refine s_pu (pu_assign rfl) ?_
  refine swl_sub _ (.cons (t := 2) rfl .nil) ?_
  refine swl_nil ?_
  refine then_n ?_
  refine swp_ret ?_
  exact done_ret [ro μ] (.tmp rfl .nil) ⟨rfl, rfl⟩ (by repeat (first | exact Split.nil | (apply Split.cons; (repeat (first | with_reducible exact Take.here | apply Take.there)))))
def len8 : ByteArray := ⟨((List.range 256).map fun i => (UInt8.ofNat (bl i))).toArray⟩
theorem len8_get (i : Nat) (h : i < 256) : len8[i]? = some (UInt8.ofNat (bl i)) := by
  show (len8.data)[i]? = _
  simp [len8, h]
theorem bl_small {i : Nat} (h : i < 256) : bl i ≤ 8 := by
  obtain ⟨h1, h2⟩ := bl_lt i
  rcases h2 with h2 | h2
  · omega
  · rcases Nat.lt_or_ge 8 (bl i) with h3 | h3
    · have : 2 ^ 8 ≤ 2 ^ (bl i - 1) := Nat.pow_le_pow_right (by decide) (by omega)
      omega
    · exact h3
theorem len64_spec (w : BitVec 64) : Spec Tryd.prog 80 [wv w] [] (fun v L => v = .int .i64 (bl w.toNat : Nat) ∧ L = []) := by
  have hlt := w.isLt
  refine Spec.of 25 Tryd.func80 rfl rfl rfl ?_
  refine swp_seq ?_
  refine swp_region ?_
  refine s_pu (pu_assign rfl) ?_
  refine swl_sub _ (.cons (t := 0) rfl (.cons (t := 2) rfl .nil)) ?_
  refine swl_nil ?_
  refine then_n ?_
  refine swp_cut (fun env L => ∃ (u : BitVec 64) (n : Nat), u.toNat < 4294967296 ∧ bl w.toNat = bl u.toNat + n ∧ n ≤ 32 ∧ env = [(0, wv u), (2, .int .i64 (n : Nat))] ∧ L = []) ?_ ?_
  · skip
    refine swp_seq ?_
    refine swp_region ?_
    refine s_pu (pu_move rfl) ?_
    refine s_pu (pu_geq rfl rfl) ?_
    refine swl_sub _ (.cons (t := 0) rfl (.cons (t := 2) rfl (.cons (t := 4) rfl .nil))) ?_
    refine swl_nil ?_
    refine then_n ?_
    refine swp_cond (b := _) rfl (fun h4 => ?_) (fun h4 => ?_)
    · skip   -- 4 T
      refine swp_seq ?_
      refine swp_region ?_
      refine s_pu (pu_move rfl) ?_
      refine s_pu (pu_shr_w (a := w) 32 rfl rfl (by decide)) ?_
      refine s_pu (pu_assign rfl) ?_
      refine swl_sub _ (.cons (t := 0) rfl .nil) ?_
      refine swl_nil ?_
      refine then_n ?_
      refine swp_region ?_
      refine s_pu (pu_assign rfl) ?_
      refine swl_sub _ (.cons (t := 0) rfl (.cons (t := 2) rfl .nil)) ?_
      refine swl_nil ?_
      refine then_n ⟨w >>> 32, 32, ?_, ?_, by decide, rfl, rfl⟩
      · rw [BitVec.toNat_ushiftRight, Nat.shiftRight_eq_div_pow]; omega
      · rw [BitVec.toNat_ushiftRight]; exact bl_shr (by have h := of_decide_eq_true h4; omega)
    · skip   -- 4 F
      refine swp_sub _ (.cons (t := 0) rfl (.cons (t := 2) rfl .nil)) ?_
      refine swp_skip ?_
      exact then_n ⟨w, 0, by have h := of_decide_eq_false h4; omega, rfl, by decide, rfl, rfl⟩
  rintro env L ⟨u1, n1, hu1, hb1, hn1, rfl, rfl⟩
  refine swp_cut (fun env L => ∃ (u : BitVec 64) (n : Nat), u.toNat < 65536 ∧ bl w.toNat = bl u.toNat + n ∧ n ≤ 48 ∧ env = [(0, wv u), (2, .int .i64 (n : Nat))] ∧ L = []) ?_ ?_
  · skip
    refine swp_seq ?_
    refine swp_region ?_
    refine s_pu (pu_move rfl) ?_
    refine s_pu (pu_geq rfl rfl) ?_
    refine swl_sub _ (.cons (t := 0) rfl (.cons (t := 2) rfl (.cons (t := 8) rfl .nil))) ?_
    refine swl_nil ?_
    refine then_n ?_
    refine swp_cond (b := _) rfl (fun h8 => ?_) (fun h8 => ?_)
    · skip   -- 8 T
      refine swp_seq ?_
      refine swp_region ?_
      refine s_pu (pu_move rfl) ?_
      refine s_pu (pu_shr_w (a := u1) 16 rfl rfl (by decide)) ?_
      refine s_pu (pu_assign rfl) ?_
      refine swl_sub _ (.cons (t := 0) rfl (.cons (t := 2) rfl .nil)) ?_
      refine swl_nil ?_
      refine then_n ?_
      refine swp_region ?_
      refine s_pu (pu_move rfl) ?_
      refine s_pu (pu_add_as ((n1 + 16 : Nat) : Int) rfl rfl (by omega) (by omega) (by omega)) ?_
      refine s_pu (pu_assign rfl) ?_
      refine swl_sub _ (.cons (t := 0) rfl (.cons (t := 2) rfl .nil)) ?_
      refine swl_nil ?_
      refine then_n ⟨u1 >>> 16, n1 + 16, ?_, ?_, by omega, rfl, rfl⟩
      · rw [BitVec.toNat_ushiftRight, Nat.shiftRight_eq_div_pow]; omega
      · rw [BitVec.toNat_ushiftRight, hb1, bl_shr (k := 16) (by have h := of_decide_eq_true h8; omega)]; omega
    · skip   -- 8 F
      refine swp_sub _ (.cons (t := 0) rfl (.cons (t := 2) rfl .nil)) ?_
      refine swp_skip ?_
      exact then_n ⟨u1, n1, by have h := of_decide_eq_false h8; omega, hb1, by omega, rfl, rfl⟩
  rintro env L ⟨u2, n2, hu2, hb2, hn2, rfl, rfl⟩
  refine swp_cut (fun env L => ∃ (u : BitVec 64) (n : Nat), u.toNat < 256 ∧ bl w.toNat = bl u.toNat + n ∧ n ≤ 56 ∧ env = [(0, wv u), (2, .int .i64 (n : Nat))] ∧ L = []) ?_ ?_
  · skip
    refine swp_seq ?_
    refine swp_region ?_
    refine s_pu (pu_move rfl) ?_
    refine s_pu (pu_geq rfl rfl) ?_
    refine swl_sub _ (.cons (t := 0) rfl (.cons (t := 2) rfl (.cons (t := 14) rfl .nil))) ?_
    refine swl_nil ?_
    refine then_n ?_
    refine swp_cond (b := _) rfl (fun h14 => ?_) (fun h14 => ?_)
    · skip   -- 14 T
      refine swp_seq ?_
      refine swp_region ?_
      refine s_pu (pu_move rfl) ?_
      refine s_pu (pu_shr_w (a := u2) 8 rfl rfl (by decide)) ?_
      refine s_pu (pu_assign rfl) ?_
      refine swl_sub _ (.cons (t := 0) rfl (.cons (t := 2) rfl .nil)) ?_
      refine swl_nil ?_
      refine then_n ?_
      refine swp_region ?_
      refine s_pu (pu_move rfl) ?_
      refine s_pu (pu_add_as ((n2 + 8 : Nat) : Int) rfl rfl (by omega) (by omega) (by omega)) ?_
      refine s_pu (pu_assign rfl) ?_
      refine swl_sub _ (.cons (t := 0) rfl (.cons (t := 2) rfl .nil)) ?_
      refine swl_nil ?_
      refine then_n ⟨u2 >>> 8, n2 + 8, ?_, ?_, by omega, rfl, rfl⟩
      · rw [BitVec.toNat_ushiftRight, Nat.shiftRight_eq_div_pow]; omega
      · rw [BitVec.toNat_ushiftRight, hb2, bl_shr (k := 8) (by have h := of_decide_eq_true h14; omega)]; omega
    · skip   -- 14 F
      refine swp_sub _ (.cons (t := 0) rfl (.cons (t := 2) rfl .nil)) ?_
      refine swp_skip ?_
      exact then_n ⟨u2, n2, by have h := of_decide_eq_false h14; omega, hb2, by omega, rfl, rfl⟩
  rintro env L ⟨u, n, hu, hb, hn, rfl, rfl⟩
  have h8 := bl_small hu
  have h9 : (UInt8.ofNat (bl u.toNat)).toNat = bl u.toNat := by rw [UInt8.toNat_ofNat']; exact Nat.mod_eq_of_lt (by omega)
  refine swp_seq ?_
  refine swp_region ?_
  refine s_pu (pu_move rfl) ?_
  refine s_pu (pu_move rfl) ?_
  refine s_pu (pu_conv_as (n := (u.toNat : Int)) rfl (by show ((u.toNat : Int)) % (2 : Int) ^ 8 = _; omega)) ?_
  refine s_pu (pu_index_str (s := len8) (by kernel_rfl) rfl (by omega) (by rw [Int.toNat_natCast]; exact len8_get _ hu)) ?_
  first | refine s_pu (pu_conv_i64 rfl (by omega) (by omega)) ?_ | refine s_pu (pu_conv rfl) ?_
  refine s_pu (pu_add_as ((bl w.toNat : Nat) : Int) rfl rfl (by rw [h9]; omega) (by omega) (by omega)) ?_
  refine s_pu (pu_assign rfl) ?_
  refine swl_sub _ (.cons (t := 2) rfl .nil) ?_
  refine swl_nil ?_
  refine then_n ?_
  refine swp_ret ?_
  exact done_ret [] (.tmp rfl .nil) ⟨rfl, rfl⟩ (by repeat (first | exact Split.nil | (apply Split.cons; (repeat (first | with_reducible exact Take.here | apply Take.there)))))
theorem lz_spec (w : BitVec 64) (hw : w ≠ 0#64) : Spec Tryd.prog 47 [wv w] [] (fun v L => v = .int .i64 ((64 - bl w.toNat : Nat) : Int) ∧ L = []) := by
  have h := bl_spec hw
  refine Spec.of 6 Tryd.func47 rfl rfl rfl ?_
  refine swp_seq ?_
  refine swp_region ?_
  refine s_pu (pu_assign rfl) ?_
  refine swl_sub _ (.cons (t := 0) rfl .nil) ?_
  refine swl_nil ?_
  refine then_n ?_
  refine swp_seq ?_
  refine swp_region ?_
  refine s_pu (pu_move rfl) ?_
  refine s_ef (ef_fn (len64_spec w) rfl rfl (by repeat (first | exact Split.nil | (apply Split.cons; (repeat (first | with_reducible exact Take.here | apply Take.there)))))) ?_
  rintro v L1 ⟨rfl, rfl⟩
  refine swl_app ?_
  refine s_pu (pu_sub_as ((64 - bl w.toNat : Nat) : Int) rfl rfl (by omega) (by omega) (by omega)) ?_
  refine s_pu (pu_assign rfl) ?_
  refine swl_sub _ (.cons (t := 2) rfl .nil) ?_
  refine swl_nil ?_
  refine then_n ?_
  refine swp_ret ?_
  exact done_ret [] (.tmp rfl .nil) ⟨rfl, rfl⟩ (by repeat (first | exact Split.nil | (apply Split.cons; (repeat (first | with_reducible exact Take.here | apply Take.there)))))
end SX
namespace SX
open Go Go.Proofs

def ucs (w : BitVec 64) : List Value := [wv w]
theorem ucs_len (w : BitVec 64) : (ucs w).length = 1 := rfl
def wcells (ws : List (BitVec 64)) : List Value := ws.flatMap ucs
theorem wcells_len (ws : List (BitVec 64)) : (wcells ws).length = ws.length := by unfold wcells; rw [flat_length ucs_len, Nat.mul_one]
theorem wcells_get {ws : List (BitVec 64)} {ex : List Value} {i : Nat} {w : BitVec 64} (h : ws[i]? = some w) : (wcells ws ++ ex)[i]? = some (wv w) := by
  have := flat_get ucs_len ws ex i w h 0 (wv w) rfl
  rwa [Nat.mul_one, Nat.add_zero] at this
theorem wcells_set {ws : List (BitVec 64)} {ex : List Value} {i : Nat} {w : BitVec 64} (h : i < ws.length) : (wcells ws ++ ex).set i (wv w) = wcells (ws.set i w) ++ ex := by
  rw [List.set_append_left _ _ (by rw [wcells_len]; exact h)]
  congr 1
  apply List.ext_getElem?
  intro j
  have key : ∀ (ws : List (BitVec 64)) (j : Nat), (wcells ws)[j]? = (ws[j]?).map wv := by
    intro ws j
    cases hj : ws[j]? with
    | none =>
      rw [List.getElem?_eq_none_iff] at hj
      simp only [Option.map_none]
      rw [List.getElem?_eq_none_iff, wcells_len]; exact hj
    | some w => have := wcells_get (ex := []) hj; rwa [List.append_nil] at this
  rw [key, List.getElem?_set, List.getElem?_set, key, wcells_len]
  split
  · simp
  · rfl
/-- is bit k there? -/
def mem (ws : List (BitVec 64)) (k : Nat) : Bool := (ws.getD (k / 64) 0#64).getLsbD (k % 64)
theorem mem_at {ws : List (BitVec 64)} {i : Nat} {w : BitVec 64} (h : ws[i]? = some w) {k : Nat} (hk : k / 64 = i) : mem ws k = w.getLsbD (k % 64) := by
  unfold mem; rw [hk, List.getD_eq_getElem?_getD, h]; rfl
theorem bit_and_one (w : BitVec 64) (r : Nat) : (decide ((((w >>> r) &&& 1#64).toNat : Int) = 0)) = !w.getLsbD r := by
  have e : ((w >>> r) &&& 1#64).toNat = (w.getLsbD r).toNat := by
    rw [BitVec.toNat_and, BitVec.toNat_ushiftRight, show (1#64 : BitVec 64).toNat = 1 from rfl, Nat.and_one_is_mod, Nat.shiftRight_eq_div_pow]
    show _ = (w.toNat.testBit r).toNat
    rw [Nat.testBit_eq_decide_div_mod_eq]
    rcases Nat.mod_two_eq_zero_or_one (w.toNat / 2 ^ r) with h | h <;> simp [h]
  rw [e]
  cases w.getLsbD r <;> simp

/-- a set of n numbers, laid open: its struct and its words -/
abbrev opn (p n : Nat) (v : Value) (ws : List (BitVec 64)) : List Assn := [blk p 52 [.int .i64 (n : Nat), v], own 67 1 v ws.length (wcells ws)]
/-- the words of a set of n -/
def Wf (n : Nat) (ws : List (BitVec 64)) (S : Nat → Bool) : Prop := ws.length = (n + 63) / 64 ∧ n ≤ 1048576 ∧ (∀ k, mem ws k = S k) ∧ ∀ k, n ≤ k → S k = false
def mset (p n : Nat) (S : Nat → Bool) : Assn := exA fun x : {x : Value × List (BitVec 64) // Wf n x.2 S} => opn p n x.1.1 x.1.2
theorem mset_close {p n : Nat} {S : Nat → Bool} {v : Value} {ws : List (BitVec 64)} {L : List Assn} (h : Wf n ws S) : Ent (blk p 52 [.int .i64 (n : Nat), v] :: own 67 1 v ws.length (wcells ws) :: L) (mset p n S :: L) :=
  ent_ex (F := fun x : {x : Value × List (BitVec 64) // Wf n x.2 S} => opn p n x.1.1 x.1.2) ⟨(v, ws), h⟩ (by repeat (first | exact Split.nil | (apply Split.cons; (repeat (first | with_reducible exact Take.here | apply Take.there)))))
theorem wown_close {b cap : Nat} {ws : List (BitVec 64)} {ex : List Value} {L : List Assn} (h1 : ws.length ≤ cap) (h2 : cap ≤ maxLen) (h4 : ex.length = (cap - ws.length) * 1) :
    Ent (blk b 67 (wcells ws ++ ex) :: L) (own 67 1 (.slice (some ⟨b, 0, none⟩) ws.length cap) ws.length (wcells ws) :: L) := own_close (by rw [wcells_len, Nat.mul_one]) h4 h1 h2

theorem size_b (p n : Nat) (v : Value) : Spec Tryd.prog 16 [.pointer (some ⟨p, 0, none⟩)] [blk p 52 [.int .i64 (n : Nat), v]] (fun r L => r = .int .i64 (n : Nat) ∧ L = [blk p 52 [.int .i64 (n : Nat), v]]) := by
  refine Spec.of 9 Tryd.func16 rfl rfl rfl ?_
  refine swp_seq ?_
  refine swp_region ?_
  refine s_pu (pu_assign rfl) ?_
  refine swl_sub _ (.cons (t := 0) rfl .nil) ?_
  refine swl_nil ?_
  refine then_n ?_
  refine swp_seq ?_
  refine swp_seq ?_
  refine swp_region ?_
  refine s_pu (pu_move rfl) ?_
  refine s_pu (pu_ptr_eq_nil rfl rfl) ?_
  refine swl_sub _ (.cons (t := 0) rfl (.cons (t := 4) rfl .nil)) ?_
  refine swl_nil ?_
  refine then_n ?_
  refine swp_cond (b := _) rfl (fun h4 => by cases h4) (fun h4 => ?_)
  refine swp_skip ?_
  refine then_n ?_
  refine swp_seq ?_
  refine swp_region ?_
  refine s_pu (pu_move rfl) ?_
  first | refine s_pu (pu_nilCheck rfl) ?_ | refine s_pu (pu_nilCheck_fn rfl) ?_ | refine s_pu (pu_nilCheck_if rfl) ?_
  first | refine s_pu (pu_fieldAddr0 rfl) ?_ | refine s_pu (pu_fieldAddr rfl) ?_
  refine s_rd (rd_load rfl rfl) ?_
  refine s_pu (pu_assign rfl) ?_
  refine swl_sub _ (.cons (t := 2) rfl .nil) ?_
  refine swl_nil ?_
  refine then_n ?_
  refine swp_ret ?_
  exact done_ret _ (.tmp rfl .nil) ⟨rfl, rfl⟩ (by repeat (first | exact Split.nil | (apply Split.cons; (repeat (first | with_reducible exact Take.here | apply Take.there)))))
theorem size_nil : Spec Tryd.prog 16 [.pointer none] [] (fun r L => r = .int .i64 0 ∧ L = []) := by
  refine Spec.of 9 Tryd.func16 rfl rfl rfl ?_
  refine swp_seq ?_
  refine swp_region ?_
  refine s_pu (pu_assign rfl) ?_
  refine swl_sub _ (.cons (t := 0) rfl .nil) ?_
  refine swl_nil ?_
  refine then_n ?_
  refine swp_seq ?_
  refine swp_seq ?_
  refine swp_region ?_
  refine s_pu (pu_move rfl) ?_
  refine s_pu (pu_ptr_eq_nil rfl rfl) ?_
  refine swl_sub _ (.cons (t := 0) rfl (.cons (t := 4) rfl .nil)) ?_
  refine swl_nil ?_
  refine then_n ?_
  refine swp_cond (b := _) rfl (fun h4 => ?_) (fun h4 => by cases h4)
  refine swp_seq ?_
  refine swp_region ?_
  refine s_pu (pu_assign rfl) ?_
  refine swl_sub _ (.cons (t := 2) rfl .nil) ?_
  refine swl_nil ?_
  refine then_n ?_
  refine swp_ret ?_
  refine then_r ?_
  exact done_ret _ (.tmp rfl .nil) ⟨rfl, rfl⟩ (by repeat (first | exact Split.nil | (apply Split.cons; (repeat (first | with_reducible exact Take.here | apply Take.there)))))
theorem has_o (p n : Nat) (v : Value) (ws : List (BitVec 64)) (k : Int) (hl : ws.length = (n + 63) / 64) (hn : n ≤ 1048576) :
    Spec Tryd.prog 18 [.pointer (some ⟨p, 0, none⟩), .int .i64 k] (opn p n v ws) (fun r L => r = .bool (decide (0 ≤ k) && (decide (k < n) && mem ws k.toNat)) ∧ L = opn p n v ws) := by
  refine Spec.of 28 Tryd.func18 rfl rfl rfl ?_
  refine swp_seq ?_
  refine swp_region ?_
  refine s_pu (pu_assign rfl) ?_
  refine swl_sub _ (.cons (t := 0) rfl (.cons (t := 1) rfl .nil)) ?_
  refine swl_nil ?_
  refine then_n ?_
  refine swp_seq ?_
  refine swp_region ?_
  refine s_pu (pu_move rfl) ?_
  refine s_pu (pu_geq rfl rfl) ?_
  refine s_pu (pu_move rfl) ?_
  refine s_split 7 rfl (fun h7 => ?_) (fun h7 => ?_)
  · skip   -- 7 T
    refine s_on rfl rfl ?_
    refine s_pu (pu_move rfl) ?_
    refine s_on rfl rfl ?_
    refine s_pu (pu_move rfl) ?_
    refine s_on rfl rfl ?_
    refine s_ef (ef_fn (size_b p n v) rfl rfl (by repeat (first | exact Split.nil | (apply Split.cons; (repeat (first | with_reducible exact Take.here | apply Take.there)))))) ?_
    rintro v1 L1 ⟨rfl, rfl⟩
    refine swl_app ?_
    refine s_on rfl rfl ?_
    refine s_pu (pu_lss rfl rfl) ?_
    first | refine s_pu (pu_pick_t rfl rfl) ?_ | refine s_pu (pu_pick_f rfl rfl) ?_
    refine s_pu (pu_move rfl) ?_
    refine s_split 13 rfl (fun h13 => ?_) (fun h13 => ?_)
    · skip   -- 13 T
      have h7' := of_decide_eq_true h7
      have h13' := of_decide_eq_true h13
      obtain ⟨m, rfl⟩ : ∃ m : Nat, k = m := ⟨k.toNat, by omega⟩
      have hmi : m / 64 < ws.length := by omega
      obtain ⟨w, hw⟩ : ∃ w, ws[m / 64]? = some w := ⟨_, List.getElem?_eq_getElem hmi⟩
      refine swl_own (by repeat (first | with_reducible exact Take.here | apply Take.there)) (fun h0 l0 _ => by omega) (fun b cap ex hv h1 h2 h3 h4 => ?_)
      subst hv
      refine s_on rfl rfl ?_
      refine s_pu (pu_move rfl) ?_
      refine s_on rfl rfl ?_
      first | refine s_pu (pu_nilCheck rfl) ?_ | refine s_pu (pu_nilCheck_fn rfl) ?_ | refine s_pu (pu_nilCheck_if rfl) ?_
      refine s_on rfl rfl ?_
      first | refine s_pu (pu_fieldAddr0 rfl) ?_ | refine s_pu (pu_fieldAddr rfl) ?_
      refine s_on rfl rfl ?_
      refine s_rd (rd_load rfl rfl) ?_
      refine s_on rfl rfl ?_
      refine s_pu (pu_move rfl) ?_
      refine s_on rfl rfl ?_
      refine s_pu (pu_quo_as ((m / 64 : Nat) : Int) rfl rfl (by omega) (by omega) (by omega) (by omega)) ?_
      refine s_on rfl rfl ?_
      refine s_pu (pu_indexAddr (m / 64) rfl rfl (by omega) (by omega) (by omega)) ?_
      refine s_on rfl rfl ?_
      refine s_rd (rd_load rfl (wcells_get hw)) ?_
      refine s_on rfl rfl ?_
      refine s_pu (pu_move rfl) ?_
      refine s_on rfl rfl ?_
      refine s_pu (pu_rem_as ((m % 64 : Nat) : Int) rfl rfl (by omega) (by omega) (by omega)) ?_
      refine s_on rfl rfl ?_
      refine s_pu (pu_shr_w (a := w) (m % 64) rfl rfl (by omega)) ?_
      refine s_on rfl rfl ?_
      refine s_pu (pu_and_w (b := 1#64) rfl rfl) ?_
      refine s_on rfl rfl ?_
      refine s_pu (pu_neq rfl rfl) ?_
      first | refine s_pu (pu_pick_t rfl rfl) ?_ | refine s_pu (pu_pick_f rfl rfl) ?_
      refine s_pu (pu_assign rfl) ?_
      refine swl_sub _ (.cons (t := 4) rfl .nil) ?_
      refine swl_nil ?_
      refine then_n ?_
      refine swp_ret ?_
      exact done_retE (opn p n _ ws) (.tmp rfl .nil) ⟨by simp only [resV, h7, h13, Bool.true_and, Int.toNat_natCast]; rw [bit_and_one w _, Bool.not_not, mem_at hw rfl], rfl⟩
        ((Split.ent' (K := [blk b 67 (wcells ws ++ ex), blk p 52 [.int .i64 (n : Nat), .slice (some ⟨b, 0, none⟩) ws.length cap]]) (by repeat (first | exact Split.nil | (apply Split.cons; (repeat (first | with_reducible exact Take.here | apply Take.there)))))).trans ((wown_close h1 h2 h4).trans Ent.swap))
    · skip   -- 13 F
      refine s_off rfl rfl rfl ?_
      refine s_off rfl rfl rfl ?_
      refine s_off rfl rfl rfl ?_
      refine s_off rfl rfl rfl ?_
      refine s_off rfl rfl rfl ?_
      refine s_off rfl rfl rfl ?_
      refine s_off rfl rfl rfl ?_
      refine s_off rfl rfl rfl ?_
      refine s_off rfl rfl rfl ?_
      refine s_off rfl rfl rfl ?_
      refine s_off rfl rfl rfl ?_
      refine s_off rfl rfl rfl ?_
      refine s_off rfl rfl rfl ?_
      first | refine s_pu (pu_pick_t rfl rfl) ?_ | refine s_pu (pu_pick_f rfl rfl) ?_
      refine s_pu (pu_assign rfl) ?_
      refine swl_sub _ (.cons (t := 4) rfl .nil) ?_
      refine swl_nil ?_
      refine then_n ?_
      refine swp_ret ?_
      exact done_ret (opn p n v ws) (.tmp rfl .nil) ⟨by simp [resV, *], rfl⟩ (by repeat (first | exact Split.nil | (apply Split.cons; (repeat (first | with_reducible exact Take.here | apply Take.there)))))
  · skip   -- 7 F
    refine s_off rfl rfl rfl ?_
    refine s_off rfl rfl rfl ?_
    refine s_off rfl rfl rfl ?_
    refine s_off rfl rfl rfl ?_
    first | refine s_pu (pu_pick_t rfl rfl) ?_ | refine s_pu (pu_pick_f rfl rfl) ?_
    refine s_pu (pu_move rfl) ?_
    refine s_off rfl rfl rfl ?_
    refine s_off rfl rfl rfl ?_
    refine s_off rfl rfl rfl ?_
    refine s_off rfl rfl rfl ?_
    refine s_off rfl rfl rfl ?_
    refine s_off rfl rfl rfl ?_
    refine s_off rfl rfl rfl ?_
    refine s_off rfl rfl rfl ?_
    refine s_off rfl rfl rfl ?_
    refine s_off rfl rfl rfl ?_
    refine s_off rfl rfl rfl ?_
    refine s_off rfl rfl rfl ?_
    refine s_off rfl rfl rfl ?_
    first | refine s_pu (pu_pick_t rfl rfl) ?_ | refine s_pu (pu_pick_f rfl rfl) ?_
    refine s_pu (pu_assign rfl) ?_
    refine swl_sub _ (.cons (t := 4) rfl .nil) ?_
    refine swl_nil ?_
    refine then_n ?_
    refine swp_ret ?_
    exact done_ret (opn p n v ws) (.tmp rfl .nil) ⟨by simp [resV, *], rfl⟩ (by repeat (first | exact Split.nil | (apply Split.cons; (repeat (first | with_reducible exact Take.here | apply Take.there)))))
theorem has_nil (k : Int) : Spec Tryd.prog 18 [.pointer none, .int .i64 k] [] (fun r L => r = .bool false ∧ L = []) := by
  refine Spec.of 28 Tryd.func18 rfl rfl rfl ?_
  refine swp_seq ?_
  refine swp_region ?_
  refine s_pu (pu_assign rfl) ?_
  refine swl_sub _ (.cons (t := 0) rfl (.cons (t := 1) rfl .nil)) ?_
  refine swl_nil ?_
  refine then_n ?_
  refine swp_seq ?_
  refine swp_region ?_
  refine s_pu (pu_move rfl) ?_
  refine s_pu (pu_geq rfl rfl) ?_
  refine s_pu (pu_move rfl) ?_
  refine s_split 7 rfl (fun h7 => ?_) (fun h7 => ?_)
  · skip   -- 7 T
    refine s_on rfl rfl ?_
    refine s_pu (pu_move rfl) ?_
    refine s_on rfl rfl ?_
    refine s_pu (pu_move rfl) ?_
    refine s_on rfl rfl ?_
    refine s_ef (ef_fn size_nil rfl rfl (by repeat (first | exact Split.nil | (apply Split.cons; (repeat (first | with_reducible exact Take.here | apply Take.there)))))) ?_
    rintro v1 L1 ⟨rfl, rfl⟩
    refine swl_app ?_
    refine s_on rfl rfl ?_
    refine s_pu (pu_lss rfl rfl) ?_
    first | refine s_pu (pu_pick_t rfl rfl) ?_ | refine s_pu (pu_pick_f rfl rfl) ?_
    refine s_pu (pu_move rfl) ?_
    refine s_split 13 rfl (fun h13 => by have := of_decide_eq_true h13; have := of_decide_eq_true h7; omega) (fun h13 => ?_)
    refine s_off rfl rfl rfl ?_
    refine s_off rfl rfl rfl ?_
    refine s_off rfl rfl rfl ?_
    refine s_off rfl rfl rfl ?_
    refine s_off rfl rfl rfl ?_
    refine s_off rfl rfl rfl ?_
    refine s_off rfl rfl rfl ?_
    refine s_off rfl rfl rfl ?_
    refine s_off rfl rfl rfl ?_
    refine s_off rfl rfl rfl ?_
    refine s_off rfl rfl rfl ?_
    refine s_off rfl rfl rfl ?_
    refine s_off rfl rfl rfl ?_
    first | refine s_pu (pu_pick_t rfl rfl) ?_ | refine s_pu (pu_pick_f rfl rfl) ?_
    refine s_pu (pu_assign rfl) ?_
    refine swl_sub _ (.cons (t := 4) rfl .nil) ?_
    refine swl_nil ?_
    refine then_n ?_
    refine swp_ret ?_
    exact done_ret _ (.tmp rfl .nil) ⟨rfl, rfl⟩ (by repeat (first | exact Split.nil | (apply Split.cons; (repeat (first | with_reducible exact Take.here | apply Take.there)))))
  · skip   -- 7 F
    refine s_off rfl rfl rfl ?_
    refine s_off rfl rfl rfl ?_
    refine s_off rfl rfl rfl ?_
    refine s_off rfl rfl rfl ?_
    first | refine s_pu (pu_pick_t rfl rfl) ?_ | refine s_pu (pu_pick_f rfl rfl) ?_
    refine s_pu (pu_move rfl) ?_
    refine s_off rfl rfl rfl ?_
    refine s_off rfl rfl rfl ?_
    refine s_off rfl rfl rfl ?_
    refine s_off rfl rfl rfl ?_
    refine s_off rfl rfl rfl ?_
    refine s_off rfl rfl rfl ?_
    refine s_off rfl rfl rfl ?_
    refine s_off rfl rfl rfl ?_
    refine s_off rfl rfl rfl ?_
    refine s_off rfl rfl rfl ?_
    refine s_off rfl rfl rfl ?_
    refine s_off rfl rfl rfl ?_
    refine s_off rfl rfl rfl ?_
    first | refine s_pu (pu_pick_t rfl rfl) ?_ | refine s_pu (pu_pick_f rfl rfl) ?_
    refine s_pu (pu_assign rfl) ?_
    refine swl_sub _ (.cons (t := 4) rfl .nil) ?_
    refine swl_nil ?_
    refine then_n ?_
    refine swp_ret ?_
    exact done_ret _ (.tmp rfl .nil) ⟨rfl, rfl⟩ (by repeat (first | exact Split.nil | (apply Split.cons; (repeat (first | with_reducible exact Take.here | apply Take.there)))))
theorem word_o (p n : Nat) (v : Value) (ws : List (BitVec 64)) (i : Nat) (hi : i ≤ 1048576) :
    Spec Tryd.prog 60 [.pointer (some ⟨p, 0, none⟩), .int .i64 (i : Nat)] (opn p n v ws) (fun r L => r = wv (ws.getD i 0#64) ∧ L = opn p n v ws) := by
  refine Spec.of 23 Tryd.func60 rfl rfl rfl ?_
  refine swp_front (A := own 67 1 v ws.length (wcells ws)) (by repeat (first | with_reducible exact Take.here | apply Take.there)) ?_
  refine swp_fact (fun m h => own_form h) fun ⟨A, cap, hv⟩ => ?_
  subst hv
  refine swp_seq ?_
  refine swp_region ?_
  refine s_pu (pu_assign rfl) ?_
  refine swl_sub _ (.cons (t := 0) rfl (.cons (t := 1) rfl .nil)) ?_
  refine swl_nil ?_
  refine then_n ?_
  refine swp_seq ?_
  refine swp_seq ?_
  refine swp_region ?_
  refine s_pu (pu_move rfl) ?_
  refine s_pu (pu_ptr_eq_nil rfl rfl) ?_
  refine s_pu (pu_move rfl) ?_
  refine s_on rfl rfl ?_
  refine s_pu (pu_move rfl) ?_
  refine s_on rfl rfl ?_
  refine s_pu (pu_move rfl) ?_
  refine s_on rfl rfl ?_
  first | refine s_pu (pu_nilCheck rfl) ?_ | refine s_pu (pu_nilCheck_fn rfl) ?_ | refine s_pu (pu_nilCheck_if rfl) ?_
  refine s_on rfl rfl ?_
  first | refine s_pu (pu_fieldAddr0 rfl) ?_ | refine s_pu (pu_fieldAddr rfl) ?_
  refine s_on rfl rfl ?_
  refine s_rd (rd_load rfl rfl) ?_
  refine s_on rfl rfl ?_
  refine s_pu (pu_len rfl) ?_
  refine s_on rfl rfl ?_
  refine s_pu (pu_geq rfl rfl) ?_
  first | refine s_pu (pu_pick_t rfl rfl) ?_ | refine s_pu (pu_pick_f rfl rfl) ?_
  refine swl_sub _ (.cons (t := 0) rfl (.cons (t := 1) rfl (.cons (t := 15) rfl .nil))) ?_
  refine swl_nil ?_
  refine then_n ?_
  refine swp_cond (b := _) rfl (fun h15 => ?_) (fun h15 => ?_)
  · skip   -- 15 T
    have h15' := of_decide_eq_true h15
    refine swp_seq ?_
    refine swp_region ?_
    refine s_pu (pu_assign rfl) ?_
    refine swl_sub _ (.cons (t := 4) rfl .nil) ?_
    refine swl_nil ?_
    refine then_n ?_
    refine swp_ret ?_
    refine then_r ?_
    exact done_ret (opn p n _ ws) (.tmp rfl .nil) ⟨by rw [List.getD_eq_getElem?_getD, List.getElem?_eq_none (by omega)]; rfl, rfl⟩ (by repeat (first | exact Split.nil | (apply Split.cons; (repeat (first | with_reducible exact Take.here | apply Take.there)))))
  · skip   -- 15 F
    refine swp_skip ?_
    refine then_n ?_
    refine swp_seq ?_
    have h15' := of_decide_eq_false h15
    obtain ⟨w, hw⟩ : ∃ w, ws[i]? = some w := ⟨_, List.getElem?_eq_getElem (by omega)⟩
    refine swp_front (A := own 67 1 (.slice A ws.length cap) ws.length (wcells ws)) (by repeat (first | with_reducible exact Take.here | apply Take.there)) ?_
    refine swp_own (fun h0 l0 _ => by omega) (fun b cap' ex hv h1 h2 h3 h4 => ?_)
    cases hv
    refine swp_region ?_
    refine s_pu (pu_move rfl) ?_
    first | refine s_pu (pu_nilCheck rfl) ?_ | refine s_pu (pu_nilCheck_fn rfl) ?_ | refine s_pu (pu_nilCheck_if rfl) ?_
    first | refine s_pu (pu_fieldAddr0 rfl) ?_ | refine s_pu (pu_fieldAddr rfl) ?_
    refine s_rd (rd_load rfl rfl) ?_
    refine s_pu (pu_move rfl) ?_
    refine s_pu (pu_indexAddr i rfl rfl (by omega) (by omega) (by omega)) ?_
    refine s_rd (rd_load rfl (wcells_get hw)) ?_
    refine s_pu (pu_assign rfl) ?_
    refine swl_sub _ (.cons (t := 4) rfl .nil) ?_
    refine swl_nil ?_
    refine then_n ?_
    refine swp_ret ?_
    exact done_retE (opn p n _ ws) (.tmp rfl .nil) ⟨by rw [List.getD_eq_getElem?_getD, hw]; rfl, rfl⟩
      ((Split.ent' (K := [blk b 67 (wcells ws ++ ex), blk p 52 [.int .i64 (n : Nat), .slice (some ⟨b, 0, none⟩) ws.length cap]]) (by repeat (first | exact Split.nil | (apply Split.cons; (repeat (first | with_reducible exact Take.here | apply Take.there)))))).trans ((wown_close h1 h2 h4).trans Ent.swap))
theorem word_nil (i : Nat) : Spec Tryd.prog 60 [.pointer none, .int .i64 (i : Nat)] [] (fun r L => r = wv 0#64 ∧ L = []) := by
  refine Spec.of 23 Tryd.func60 rfl rfl rfl ?_
  refine swp_seq ?_
  refine swp_region ?_
  refine s_pu (pu_assign rfl) ?_
  refine swl_sub _ (.cons (t := 0) rfl (.cons (t := 1) rfl .nil)) ?_
  refine swl_nil ?_
  refine then_n ?_
  refine swp_seq ?_
  refine swp_seq ?_
  refine swp_region ?_
  refine s_pu (pu_move rfl) ?_
  refine s_pu (pu_ptr_eq_nil rfl rfl) ?_
  refine s_pu (pu_move rfl) ?_
  refine s_off rfl rfl rfl ?_
  refine s_off rfl rfl rfl ?_
  refine s_off rfl rfl rfl ?_
  refine s_off rfl rfl rfl ?_
  refine s_off rfl rfl rfl ?_
  refine s_off rfl rfl rfl ?_
  refine s_off rfl rfl rfl ?_
  first | refine s_pu (pu_pick_t rfl rfl) ?_ | refine s_pu (pu_pick_f rfl rfl) ?_
  refine swl_sub _ (.cons (t := 0) rfl (.cons (t := 1) rfl (.cons (t := 15) rfl .nil))) ?_
  refine swl_nil ?_
  refine then_n ?_
  refine swp_cond (b := _) rfl (fun h15 => ?_) (fun h15 => by cases h15)
  refine swp_seq ?_
  refine swp_region ?_
  refine s_pu (pu_assign rfl) ?_
  refine swl_sub _ (.cons (t := 4) rfl .nil) ?_
  refine swl_nil ?_
  refine then_n ?_
  refine swp_ret ?_
  refine then_r ?_
  exact done_ret _ (.tmp rfl .nil) ⟨rfl, rfl⟩ (by repeat (first | exact Split.nil | (apply Split.cons; (repeat (first | with_reducible exact Take.here | apply Take.there)))))

def clampM (k : Int) : Nat := (min (max k 0) 1048576).toNat
theorem new_m (k : Int) : Spec Tryd.prog 22 [.int .i64 k] [] (fun r L => ∃ p, r = .pointer (some ⟨p, 0, none⟩) ∧ L = [mset p (clampM k) (fun _ => false)]) := by
  have hc : min (max k 0) 1048576 = ((clampM k : Nat) : Int) := by unfold clampM; omega
  have hle : clampM k ≤ 1048576 := by unfold clampM; omega
  generalize clampM k = n at hc hle
  refine Spec.of 13 Tryd.func22 rfl rfl rfl ?_
  refine swp_seq ?_
  refine swp_region ?_
  refine s_pu (pu_assign rfl) ?_
  refine swl_sub _ (.cons (t := 0) rfl .nil) ?_
  refine swl_nil ?_
  refine then_n ?_
  refine swp_seq ?_
  refine swp_region ?_
  refine s_pu (pu_move rfl) ?_
  refine s_pu (pu_max2 rfl rfl) ?_
  refine s_pu (pu_min2 rfl rfl) ?_
  refine s_pu (pu_assign rfl) ?_
  refine swl_sub _ (.cons (t := 0) rfl .nil) ?_
  rw [hc]
  refine swl_nil ?_
  refine then_n ?_
  refine swp_seq ?_
  refine swp_region ?_
  refine s_pu (pu_move rfl) ?_
  refine s_pu (pu_move rfl) ?_
  first | refine s_pu (pu_add_in rfl rfl (by omega) (by omega)) ?_ | refine s_pu (pu_add rfl rfl) ?_
  refine s_pu (pu_quo_as (((n + 63) / 64 : Nat) : Int) rfl rfl (by omega) (by omega) (by omega) (by omega)) ?_
  refine s_ef (ef_make1 ((n + 63) / 64) rfl rfl rfl (by omega) (by simp only [maxLen]; omega)) ?_
  rintro b
  skip
  refine s_pu (pu_bld (qs := [(0, _), (1, _)]) rfl) ?_
  refine s_ef (ef_box rfl rfl) ?_
  intro b12
  refine s_pu (pu_assign rfl) ?_
  refine swl_sub _ (.cons (t := 2) rfl .nil) ?_
  refine swl_nil ?_
  refine then_n ?_
  refine swp_ret ?_
  refine done_retE [mset b12 n (fun _ => false)] (.tmp rfl .nil) ⟨b12, rfl, rfl⟩ ?_
  have hw : wcells (List.replicate ((n + 63) / 64) 0#64) = List.replicate ((n + 63) / 64) (Value.int .u64 0) := by
    apply List.ext_getElem?
    intro j
    rcases Nat.lt_or_ge j ((n + 63) / 64) with h | h
    · have := wcells_get (ws := List.replicate ((n + 63) / 64) 0#64) (ex := []) (i := j) (w := 0#64) (by simp [h])
      rw [List.append_nil] at this
      rw [this]; simp [h]
    · rw [List.getElem?_eq_none (by rw [wcells_len, List.length_replicate]; exact h), List.getElem?_eq_none (by rw [List.length_replicate]; exact h)]
  rw [← hw]
  have hwf : Wf n (List.replicate ((n + 63) / 64) 0#64) (fun _ => false) := ⟨by simp, hle, fun k => by
    unfold mem
    rw [List.getD_eq_getElem?_getD]
    rcases Nat.lt_or_ge (k / 64) ((n + 63) / 64) with h | h
    · simp [List.getElem?_replicate, h]
    · simp [List.getElem?_replicate, Nat.not_lt.2 h], fun _ _ => rfl⟩
  have hcl := wown_close (b := b) (cap := (n + 63) / 64) (ws := List.replicate ((n + 63) / 64) 0#64) (ex := []) (L := [blk b12 52 [.int .i64 (n : Nat), .slice (some ⟨b, 0, none⟩) ((n + 63) / 64) ((n + 63) / 64)]]) (by simp) (by simp only [maxLen]; omega) (by simp)
  rw [List.append_nil, List.length_replicate] at hcl
  have hmc := mset_close (p := b12) (v := .slice (some ⟨b, 0, none⟩) ((n + 63) / 64) ((n + 63) / 64)) (L := []) hwf
  rw [List.length_replicate] at hmc
  exact (Split.ent' (K := [blk b 67 (wcells (List.replicate ((n + 63) / 64) 0#64)), blk b12 52 [.int .i64 (n : Nat), .slice (some ⟨b, 0, none⟩) ((n + 63) / 64) ((n + 63) / 64)]]) (by repeat (first | exact Split.nil | (apply Split.cons; (repeat (first | with_reducible exact Take.here | apply Take.there)))))).trans (hcl.trans (Ent.swap.trans hmc))
end SX
namespace SX
open Go Go.Proofs

theorem one_shl (r i : Nat) (hi : i < 64) : ((1#64 : BitVec 64) <<< r).getLsbD i = decide (i = r) := by
  rw [BitVec.getLsbD_shiftLeft]
  by_cases h : i = r
  · subst h; simp [hi]
  · by_cases h2 : i < r
    · simp [h2, h]
    · have : i - r ≠ 0 := by omega
      simp [h2, h, this]
theorem mem_set {ws : List (BitVec 64)} {i : Nat} (w : BitVec 64) (hi : i < ws.length) (j : Nat) : mem (ws.set i w) j = if j / 64 = i then w.getLsbD (j % 64) else mem ws j := by
  unfold mem
  rw [List.getD_eq_getElem?_getD, List.getElem?_set]
  split
  · rename_i h; subst h; simp [hi]
  · rename_i h; rw [if_neg (Ne.symm h), List.getD_eq_getElem?_getD]
theorem mem_put {ws : List (BitVec 64)} {m : Nat} {w : BitVec 64} (hw : ws[m / 64]? = some w) (j : Nat) : mem (ws.set (m / 64) (w ||| (1#64 <<< (m % 64)))) j = (mem ws j || decide (j = m)) := by
  have hi : m / 64 < ws.length := (List.getElem?_eq_some_iff.1 hw).1
  rw [mem_set _ hi]
  split
  · rename_i h
    rw [BitVec.getLsbD_or, one_shl _ _ (Nat.mod_lt _ (by decide)), mem_at hw h]
    congr 1
    by_cases e : j = m
    · subst e; simp
    · have : j % 64 ≠ m % 64 := by omega
      simp [e, this]
  · rename_i h
    have : j ≠ m := fun e => h (by rw [e])
    simp [this]
theorem mem_drop {ws : List (BitVec 64)} {m : Nat} {w : BitVec 64} (hw : ws[m / 64]? = some w) (j : Nat) : mem (ws.set (m / 64) (w &&& ~~~(1#64 <<< (m % 64)))) j = (mem ws j && !decide (j = m)) := by
  have hi : m / 64 < ws.length := (List.getElem?_eq_some_iff.1 hw).1
  rw [mem_set _ hi]
  split
  · rename_i h
    have hj : j % 64 < 64 := Nat.mod_lt _ (by decide)
    rw [BitVec.getLsbD_and, BitVec.getLsbD_not, one_shl _ _ hj, mem_at hw h]
    by_cases e : j = m
    · subst e; simp
    · have : j % 64 ≠ m % 64 := by omega
      simp [e, this, hj]
  · rename_i h
    have : j ≠ m := fun e => h (by rw [e])
    simp [this]

theorem put_o (p n : Nat) (v : Value) (ws : List (BitVec 64)) (k : Int) (hl : ws.length = (n + 63) / 64) (hn : n ≤ 1048576) :
    Spec Tryd.prog 31 [.pointer (some ⟨p, 0, none⟩), .int .i64 k] (opn p n v ws) (fun r L => r = .bool (decide (0 ≤ k) && (decide (k < n) && !mem ws k.toNat)) ∧ ∃ ws', ws'.length = ws.length ∧ (∀ j, mem ws' j = (mem ws j || (decide (0 ≤ k ∧ k < n) && decide (j = k.toNat)))) ∧ L = opn p n v ws') := by
  refine Spec.of 31 Tryd.func31 rfl rfl rfl ?_
  refine swp_seq ?_
  refine swp_region ?_
  refine s_pu (pu_assign rfl) ?_
  refine swl_sub _ (.cons (t := 0) rfl (.cons (t := 1) rfl .nil)) ?_
  refine swl_nil ?_
  refine then_n ?_
  refine swp_seq ?_
  refine swp_seq ?_
  refine swp_region ?_
  refine s_pu (pu_move rfl) ?_
  refine s_pu (pu_lss rfl rfl) ?_
  refine s_pu (pu_move rfl) ?_
  refine s_split 7 rfl (fun h7 => ?_) (fun h7 => ?_)
  · skip   -- 7 T
    refine s_off rfl rfl rfl ?_
    refine s_off rfl rfl rfl ?_
    refine s_off rfl rfl rfl ?_
    refine s_off rfl rfl rfl ?_
    first | refine s_pu (pu_pick_t rfl rfl) ?_ | refine s_pu (pu_pick_f rfl rfl) ?_
    refine s_pu (pu_move rfl) ?_
    refine s_off rfl rfl rfl ?_
    refine s_off rfl rfl rfl ?_
    refine s_off rfl rfl rfl ?_
    first | refine s_pu (pu_pick_t rfl rfl) ?_ | refine s_pu (pu_pick_f rfl rfl) ?_
    refine swl_sub _ (.cons (t := 0) rfl (.cons (t := 1) rfl (.cons (t := 17) rfl .nil))) ?_
    refine swl_nil ?_
    refine then_n ?_
    refine swp_cond (b := _) rfl (fun h17 => ?_) (fun h17 => by cases h17)
    refine swp_seq ?_
    refine swp_region ?_
    refine s_pu (pu_assign rfl) ?_
    refine swl_sub _ (.cons (t := 4) rfl .nil) ?_
    refine swl_nil ?_
    refine then_n ?_
    refine swp_ret ?_
    refine then_r ?_
    have h7' := of_decide_eq_true h7
    exact done_ret (opn p n v ws) (.tmp rfl .nil) ⟨by simp [resV, Int.not_le.2 h7'], ws, rfl, fun j => by simp [Int.not_le.2 h7'], rfl⟩ (by repeat (first | exact Split.nil | (apply Split.cons; (repeat (first | with_reducible exact Take.here | apply Take.there)))))
  · skip   -- 7 F
    refine s_on rfl rfl ?_
    refine s_pu (pu_move rfl) ?_
    refine s_on rfl rfl ?_
    refine s_pu (pu_move rfl) ?_
    refine s_on rfl rfl ?_
    refine s_ef (ef_fn (size_b p n v) rfl rfl (by repeat (first | exact Split.nil | (apply Split.cons; (repeat (first | with_reducible exact Take.here | apply Take.there)))))) ?_
    rintro v1 L1 ⟨rfl, rfl⟩
    refine swl_app ?_
    refine s_on rfl rfl ?_
    refine s_pu (pu_geq rfl rfl) ?_
    first | refine s_pu (pu_pick_t rfl rfl) ?_ | refine s_pu (pu_pick_f rfl rfl) ?_
    refine s_pu (pu_move rfl) ?_
    refine s_split 13 rfl (fun h13 => ?_) (fun h13 => ?_)
    · skip   -- 13 T
      refine s_off rfl rfl rfl ?_
      refine s_off rfl rfl rfl ?_
      refine s_off rfl rfl rfl ?_
      first | refine s_pu (pu_pick_t rfl rfl) ?_ | refine s_pu (pu_pick_f rfl rfl) ?_
      refine swl_sub _ (.cons (t := 0) rfl (.cons (t := 1) rfl (.cons (t := 17) rfl .nil))) ?_
      refine swl_nil ?_
      refine then_n ?_
      refine swp_cond (b := _) rfl (fun h17 => ?_) (fun h17 => by cases h17)
      refine swp_seq ?_
      refine swp_region ?_
      refine s_pu (pu_assign rfl) ?_
      refine swl_sub _ (.cons (t := 4) rfl .nil) ?_
      refine swl_nil ?_
      refine then_n ?_
      refine swp_ret ?_
      refine then_r ?_
      have h13' := of_decide_eq_true h13
      exact done_ret (opn p n v ws) (.tmp rfl .nil) ⟨by simp [resV, Int.not_lt.2 h13'], ws, rfl, fun j => by simp [Int.not_lt.2 h13'], rfl⟩ (by repeat (first | exact Split.nil | (apply Split.cons; (repeat (first | with_reducible exact Take.here | apply Take.there)))))
    · skip   -- 13 F
      refine s_on rfl rfl ?_
      refine s_pu (pu_move rfl) ?_
      refine s_on rfl rfl ?_
      refine s_pu (pu_move rfl) ?_
      refine s_on rfl rfl ?_
      refine s_ef (ef_fn (has_o p n v ws k hl hn) rfl rfl (by repeat (first | exact Split.nil | (apply Split.cons; (repeat (first | with_reducible exact Take.here | apply Take.there)))))) ?_
      rintro v1 L1 ⟨rfl, rfl⟩
      refine swl_app ?_
      first | refine s_pu (pu_pick_t rfl rfl) ?_ | refine s_pu (pu_pick_f rfl rfl) ?_
      refine swl_sub _ (.cons (t := 0) rfl (.cons (t := 1) rfl (.cons (t := 17) rfl .nil))) ?_
      refine swl_nil ?_
      refine then_n ?_
      refine swp_cond (b := _) rfl (fun h17 => ?_) (fun h17 => ?_)
      · skip   -- 17 T
        refine swp_seq ?_
        refine swp_region ?_
        refine s_pu (pu_assign rfl) ?_
        refine swl_sub _ (.cons (t := 4) rfl .nil) ?_
        refine swl_nil ?_
        refine then_n ?_
        refine swp_ret ?_
        refine then_r ?_
        have h7' := of_decide_eq_false h7
        have h13' := of_decide_eq_false h13
        have h17' : mem ws k.toNat = true := by simp only [Bool.and_eq_true] at h17; exact h17.2.2
        exact done_ret (opn p n v ws) (.tmp rfl .nil) ⟨by simp [resV, h17'], ws, rfl, fun j => by
          by_cases e : j = k.toNat
          · subst e; simp [h17']
          · simp [e], rfl⟩ (by repeat (first | exact Split.nil | (apply Split.cons; (repeat (first | with_reducible exact Take.here | apply Take.there)))))
      · skip   -- 17 F
        refine swp_skip ?_
        refine then_n ?_
        refine swp_seq ?_
        have h7' := of_decide_eq_false h7
        have h13' := of_decide_eq_false h13
        obtain ⟨m, rfl⟩ : ∃ m : Nat, k = m := ⟨k.toNat, by omega⟩
        have hmi : m / 64 < ws.length := by omega
        obtain ⟨w, hw⟩ : ∃ w, ws[m / 64]? = some w := ⟨_, List.getElem?_eq_getElem hmi⟩
        refine swp_front (A := own 67 1 v ws.length (wcells ws)) (by repeat (first | with_reducible exact Take.here | apply Take.there)) ?_
        refine swp_own (fun h0 l0 _ => by omega) (fun b cap ex hv h1 h2 h3 h4 => ?_)
        subst hv
        refine swp_draw [3, 7] _ [] (by simp only [List.append_nil]; exact Ent.refl _) (by kernel_rfl) ?_
        refine d_pu 0 rfl (pu_move rfl) (by kernel_rfl) (by kernel_rfl) (by kernel_rfl) ?_
        first | refine d_pu 1 rfl (pu_nilCheck rfl) (by kernel_rfl) (by kernel_rfl) (by kernel_rfl) ?_ | refine d_pu 1 rfl (pu_nilCheck_fn rfl) (by kernel_rfl) (by kernel_rfl) (by kernel_rfl) ?_ | refine d_pu 1 rfl (pu_nilCheck_if rfl) (by kernel_rfl) (by kernel_rfl) (by kernel_rfl) ?_
        first | refine d_pu 2 rfl (pu_fieldAddr0 rfl) (by kernel_rfl) (by kernel_rfl) (by kernel_rfl) ?_ | refine d_pu 2 rfl (pu_fieldAddr rfl) (by kernel_rfl) (by kernel_rfl) (by kernel_rfl) ?_
        refine d_rd 3 rfl (rd_load rfl rfl) rfl (by kernel_rfl) (by kernel_rfl) (by kernel_rfl) ?_
        refine d_pu 4 rfl (pu_move rfl) (by kernel_rfl) (by kernel_rfl) (by kernel_rfl) ?_
        refine d_pu 5 rfl (pu_quo_as ((m / 64 : Nat) : Int) rfl rfl (by omega) (by omega) (by omega) (by omega)) (by kernel_rfl) (by kernel_rfl) (by kernel_rfl) ?_
        refine d_pu 6 rfl (pu_indexAddr (m / 64) rfl rfl (by omega) (by omega) (by omega)) (by kernel_rfl) (by kernel_rfl) (by kernel_rfl) ?_
        refine d_rd 7 rfl (rd_load rfl (wcells_get hw)) rfl (by kernel_rfl) (by kernel_rfl) (by kernel_rfl) ?_
        refine d_pu 8 rfl (pu_move rfl) (by kernel_rfl) (by kernel_rfl) (by kernel_rfl) ?_
        refine d_pu 9 rfl (pu_rem_as ((m % 64 : Nat) : Int) rfl rfl (by omega) (by omega) (by omega)) (by kernel_rfl) (by kernel_rfl) (by kernel_rfl) ?_
        refine d_pu 10 rfl (pu_shl_w (a := 1#64) (m % 64) rfl rfl (by omega)) (by kernel_rfl) (by kernel_rfl) (by kernel_rfl) ?_
        refine d_pu 11 rfl (pu_or_w (a := w) rfl rfl) (by kernel_rfl) (by kernel_rfl) (by kernel_rfl) ?_
        refine d_pu 12 rfl (pu_indexAddr (m / 64) rfl rfl (by omega) (by omega) (by omega)) (by kernel_rfl) (by kernel_rfl) (by kernel_rfl) ?_
        first | refine d_fin0t 13 rfl (by kernel_rfl) (by kernel_rfl) (ef_storeP rfl rfl rfl (by rw [List.length_append, wcells_len]; omega)) ?_ | refine d_fin0f 13 rfl (by kernel_rfl) (by kernel_rfl) (ef_storeP rfl rfl rfl (by rw [List.length_append, wcells_len]; omega)) ?_
        refine d_sub _ .nil ?_
        first | refine d_nilt (by kernel_rfl) ?_ | refine d_nilf (by kernel_rfl) ?_
        refine then_n ?_
        refine swp_seq ?_
        refine swp_ent (Split.ent' (K := [blk b 67 ((wcells ws ++ ex).set (m / 64) (wv (w ||| (1#64 <<< (m % 64))))), blk p 52 [.int .i64 (n : Nat), .slice (some ⟨b, 0, none⟩) ws.length cap]]) (by repeat (first | exact Split.nil | (apply Split.cons; (repeat (first | with_reducible exact Take.here | apply Take.there)))))) ?_
        rw [wcells_set hmi]
        refine swp_region ?_
        refine s_pu (pu_assign rfl) ?_
        refine swl_sub _ (.cons (t := 4) rfl .nil) ?_
        refine swl_nil ?_
        refine then_n ?_
        refine swp_ret ?_
        have hm17 : mem ws m = false := by
          have h : (decide ((0 : Int) ≤ m) && (decide ((m : Int) < n) && mem ws (m : Int).toNat)) = false := h17
          rw [decide_eq_true (by omega), decide_eq_true (by omega), Bool.true_and, Bool.true_and, Int.toNat_natCast] at h; exact h
        have hls : (ws.set (m / 64) (w ||| (1#64 <<< (m % 64)))).length = ws.length := List.length_set
        refine done_retE (opn p n (.slice (some ⟨b, 0, none⟩) ws.length cap) (ws.set (m / 64) (w ||| (1#64 <<< (m % 64))))) (.tmp rfl .nil) ⟨?_, _, hls, fun j => ?_, rfl⟩ ?_
        · rw [Int.toNat_natCast, decide_eq_true (show (0 : Int) ≤ m by omega), decide_eq_true (show (m : Int) < n by omega), hm17]; rfl
        · rw [mem_put hw, Int.toNat_natCast, decide_eq_true (show (0 : Int) ≤ m ∧ (m : Int) < n by omega), Bool.true_and]
        · have hc := wown_close (b := b) (cap := cap) (ws := ws.set (m / 64) (w ||| (1#64 <<< (m % 64)))) (ex := ex) (L := [blk p 52 [.int .i64 (n : Nat), .slice (some ⟨b, 0, none⟩) ws.length cap]]) (by omega) h2 (by rw [hls]; exact h4)
          rw [hls] at hc
          show Ent _ [blk p 52 [.int .i64 (n : Nat), .slice (some ⟨b, 0, none⟩) ws.length cap], own 67 1 (.slice (some ⟨b, 0, none⟩) ws.length cap) (ws.set (m / 64) (w ||| (1#64 <<< (m % 64)))).length (wcells (ws.set (m / 64) (w ||| (1#64 <<< (m % 64)))))]
          rw [hls]
          exact hc.trans Ent.swap

theorem drop_o (p n : Nat) (v : Value) (ws : List (BitVec 64)) (k : Int) (hl : ws.length = (n + 63) / 64) (hn : n ≤ 1048576) :
    Spec Tryd.prog 32 [.pointer (some ⟨p, 0, none⟩), .int .i64 k] (opn p n v ws) (fun r L => r = .bool (decide (0 ≤ k) && (decide (k < n) && mem ws k.toNat)) ∧ ∃ ws', ws'.length = ws.length ∧ (∀ j, mem ws' j = (mem ws j && !(decide (0 ≤ k ∧ k < n) && decide (j = k.toNat)))) ∧ L = opn p n v ws') := by
  refine Spec.of 22 Tryd.func32 rfl rfl rfl ?_
  refine swp_seq ?_
  refine swp_region ?_
  refine s_pu (pu_assign rfl) ?_
  refine swl_sub _ (.cons (t := 0) rfl (.cons (t := 1) rfl .nil)) ?_
  refine swl_nil ?_
  refine then_n ?_
  refine swp_seq ?_
  refine swp_seq ?_
  refine swp_region ?_
  refine s_pu (pu_move rfl) ?_
  refine s_pu (pu_move rfl) ?_
  refine s_ef (ef_fn (has_o p n v ws k hl hn) rfl rfl (by repeat (first | exact Split.nil | (apply Split.cons; (repeat (first | with_reducible exact Take.here | apply Take.there)))))) ?_
  rintro v1 L1 ⟨rfl, rfl⟩
  refine swl_app ?_
  refine s_pu (pu_not rfl) ?_
  refine swl_sub _ (.cons (t := 0) rfl (.cons (t := 1) rfl (.cons (t := 8) rfl .nil))) ?_
  refine swl_nil ?_
  refine then_n ?_
  refine swp_cond (b := _) rfl (fun h8 => ?_) (fun h8 => ?_)
  · skip   -- 8 T
    refine swp_seq ?_
    refine swp_region ?_
    refine s_pu (pu_assign rfl) ?_
    refine swl_sub _ (.cons (t := 4) rfl .nil) ?_
    refine swl_nil ?_
    refine then_n ?_
    refine swp_ret ?_
    refine then_r ?_
    have h8' := not_t h8
    exact done_ret (opn p n v ws) (.tmp rfl .nil) ⟨by rw [h8']; rfl, ws, rfl, fun j => by
      by_cases e : j = k.toNat
      · subst e
        by_cases hk : 0 ≤ k ∧ k < n
        · rw [decide_eq_true hk.1, decide_eq_true hk.2, Bool.true_and, Bool.true_and] at h8'; simp [h8']
        · simp [hk]
      · simp [e], rfl⟩ (by repeat (first | exact Split.nil | (apply Split.cons; (repeat (first | with_reducible exact Take.here | apply Take.there)))))
  · skip   -- 8 F
    refine swp_skip ?_
    refine then_n ?_
    refine swp_seq ?_
    have h8' := not_f h8
    simp only [Bool.and_eq_true, decide_eq_true_eq] at h8'
    obtain ⟨m, rfl⟩ : ∃ m : Nat, k = m := ⟨k.toNat, by omega⟩
    have hmi : m / 64 < ws.length := by omega
    obtain ⟨w, hw⟩ : ∃ w, ws[m / 64]? = some w := ⟨_, List.getElem?_eq_getElem hmi⟩
    refine swp_front (A := own 67 1 v ws.length (wcells ws)) (by repeat (first | with_reducible exact Take.here | apply Take.there)) ?_
    refine swp_own (fun h0 l0 _ => by omega) (fun b cap ex hv h1 h2 h3 h4 => ?_)
    subst hv
    refine swp_draw [3, 7] _ [] (by simp only [List.append_nil]; exact Ent.refl _) (by kernel_rfl) ?_
    refine d_pu 0 rfl (pu_move rfl) (by kernel_rfl) (by kernel_rfl) (by kernel_rfl) ?_
    first | refine d_pu 1 rfl (pu_nilCheck rfl) (by kernel_rfl) (by kernel_rfl) (by kernel_rfl) ?_ | refine d_pu 1 rfl (pu_nilCheck_fn rfl) (by kernel_rfl) (by kernel_rfl) (by kernel_rfl) ?_ | refine d_pu 1 rfl (pu_nilCheck_if rfl) (by kernel_rfl) (by kernel_rfl) (by kernel_rfl) ?_
    first | refine d_pu 2 rfl (pu_fieldAddr0 rfl) (by kernel_rfl) (by kernel_rfl) (by kernel_rfl) ?_ | refine d_pu 2 rfl (pu_fieldAddr rfl) (by kernel_rfl) (by kernel_rfl) (by kernel_rfl) ?_
    refine d_rd 3 rfl (rd_load rfl rfl) rfl (by kernel_rfl) (by kernel_rfl) (by kernel_rfl) ?_
    refine d_pu 4 rfl (pu_move rfl) (by kernel_rfl) (by kernel_rfl) (by kernel_rfl) ?_
    refine d_pu 5 rfl (pu_quo_as ((m / 64 : Nat) : Int) rfl rfl (by omega) (by omega) (by omega) (by omega)) (by kernel_rfl) (by kernel_rfl) (by kernel_rfl) ?_
    refine d_pu 6 rfl (pu_indexAddr (m / 64) rfl rfl (by omega) (by omega) (by omega)) (by kernel_rfl) (by kernel_rfl) (by kernel_rfl) ?_
    refine d_rd 7 rfl (rd_load rfl (wcells_get hw)) rfl (by kernel_rfl) (by kernel_rfl) (by kernel_rfl) ?_
    refine d_pu 8 rfl (pu_move rfl) (by kernel_rfl) (by kernel_rfl) (by kernel_rfl) ?_
    refine d_pu 9 rfl (pu_rem_as ((m % 64 : Nat) : Int) rfl rfl (by omega) (by omega) (by omega)) (by kernel_rfl) (by kernel_rfl) (by kernel_rfl) ?_
    refine d_pu 10 rfl (pu_shl_w (a := 1#64) (m % 64) rfl rfl (by omega)) (by kernel_rfl) (by kernel_rfl) (by kernel_rfl) ?_
    refine d_pu 11 rfl (pu_andNot_w (a := w) rfl rfl) (by kernel_rfl) (by kernel_rfl) (by kernel_rfl) ?_
    refine d_pu 12 rfl (pu_indexAddr (m / 64) rfl rfl (by omega) (by omega) (by omega)) (by kernel_rfl) (by kernel_rfl) (by kernel_rfl) ?_
    first | refine d_fin0t 13 rfl (by kernel_rfl) (by kernel_rfl) (ef_storeP rfl rfl rfl (by rw [List.length_append, wcells_len]; omega)) ?_ | refine d_fin0f 13 rfl (by kernel_rfl) (by kernel_rfl) (ef_storeP rfl rfl rfl (by rw [List.length_append, wcells_len]; omega)) ?_
    refine d_sub _ .nil ?_
    first | refine d_nilt (by kernel_rfl) ?_ | refine d_nilf (by kernel_rfl) ?_
    refine then_n ?_
    refine swp_seq ?_
    refine swp_ent (Split.ent' (K := [blk b 67 ((wcells ws ++ ex).set (m / 64) (wv (w &&& ~~~(1#64 <<< (m % 64))))), blk p 52 [.int .i64 (n : Nat), .slice (some ⟨b, 0, none⟩) ws.length cap]]) (by repeat (first | exact Split.nil | (apply Split.cons; (repeat (first | with_reducible exact Take.here | apply Take.there)))))) ?_
    rw [wcells_set hmi]
    refine swp_region ?_
    refine s_pu (pu_assign rfl) ?_
    refine swl_sub _ (.cons (t := 4) rfl .nil) ?_
    refine swl_nil ?_
    refine then_n ?_
    refine swp_ret ?_
    have hls : (ws.set (m / 64) (w &&& ~~~(1#64 <<< (m % 64)))).length = ws.length := List.length_set
    refine done_retE (opn p n (.slice (some ⟨b, 0, none⟩) ws.length cap) (ws.set (m / 64) (w &&& ~~~(1#64 <<< (m % 64))))) (.tmp rfl .nil) ⟨?_, _, hls, fun j => ?_, rfl⟩ ?_
    · rw [decide_eq_true h8'.1, decide_eq_true h8'.2.1, h8'.2.2]; rfl
    · rw [mem_drop hw, Int.toNat_natCast, decide_eq_true (show (0 : Int) ≤ m ∧ (m : Int) < n from ⟨h8'.1, h8'.2.1⟩), Bool.true_and]
    · have hc := wown_close (b := b) (cap := cap) (ws := ws.set (m / 64) (w &&& ~~~(1#64 <<< (m % 64)))) (ex := ex) (L := [blk p 52 [.int .i64 (n : Nat), .slice (some ⟨b, 0, none⟩) ws.length cap]]) (by omega) h2 (by rw [hls]; exact h4)
      rw [hls] at hc
      show Ent _ [blk p 52 [.int .i64 (n : Nat), .slice (some ⟨b, 0, none⟩) ws.length cap], own 67 1 (.slice (some ⟨b, 0, none⟩) ws.length cap) (ws.set (m / 64) (w &&& ~~~(1#64 <<< (m % 64)))).length (wcells (ws.set (m / 64) (w &&& ~~~(1#64 <<< (m % 64)))))]
      rw [hls]
      exact hc.trans Ent.swap
theorem put_nil (k : Int) : Spec Tryd.prog 31 [.pointer none, .int .i64 k] [] (fun r L => r = .bool false ∧ L = []) := by
  refine Spec.of 31 Tryd.func31 rfl rfl rfl ?_
  refine swp_seq ?_
  refine swp_region ?_
  refine s_pu (pu_assign rfl) ?_
  refine swl_sub _ (.cons (t := 0) rfl (.cons (t := 1) rfl .nil)) ?_
  refine swl_nil ?_
  refine then_n ?_
  refine swp_seq ?_
  refine swp_seq ?_
  refine swp_region ?_
  refine s_pu (pu_move rfl) ?_
  refine s_pu (pu_lss rfl rfl) ?_
  refine s_pu (pu_move rfl) ?_
  refine s_split 7 rfl (fun h7 => ?_) (fun h7 => ?_)
  · skip   -- 7 T
    refine s_off rfl rfl rfl ?_
    refine s_off rfl rfl rfl ?_
    refine s_off rfl rfl rfl ?_
    refine s_off rfl rfl rfl ?_
    first | refine s_pu (pu_pick_t rfl rfl) ?_ | refine s_pu (pu_pick_f rfl rfl) ?_
    refine s_pu (pu_move rfl) ?_
    refine s_off rfl rfl rfl ?_
    refine s_off rfl rfl rfl ?_
    refine s_off rfl rfl rfl ?_
    first | refine s_pu (pu_pick_t rfl rfl) ?_ | refine s_pu (pu_pick_f rfl rfl) ?_
    refine swl_sub _ (.cons (t := 0) rfl (.cons (t := 1) rfl (.cons (t := 17) rfl .nil))) ?_
    refine swl_nil ?_
    refine then_n ?_
    refine swp_cond (b := _) rfl (fun h17 => ?_) (fun h17 => by cases h17)
    refine swp_seq ?_
    refine swp_region ?_
    refine s_pu (pu_assign rfl) ?_
    refine swl_sub _ (.cons (t := 4) rfl .nil) ?_
    refine swl_nil ?_
    refine then_n ?_
    refine swp_ret ?_
    refine then_r ?_
    exact done_ret [] (.tmp rfl .nil) ⟨rfl, rfl⟩ (by repeat (first | exact Split.nil | (apply Split.cons; (repeat (first | with_reducible exact Take.here | apply Take.there)))))
  · skip   -- 7 F
    refine s_on rfl rfl ?_
    refine s_pu (pu_move rfl) ?_
    refine s_on rfl rfl ?_
    refine s_pu (pu_move rfl) ?_
    refine s_on rfl rfl ?_
    refine s_ef (ef_fn size_nil rfl rfl (by repeat (first | exact Split.nil | (apply Split.cons; (repeat (first | with_reducible exact Take.here | apply Take.there)))))) ?_
    rintro v1 L1 ⟨rfl, rfl⟩
    refine swl_app ?_
    refine s_on rfl rfl ?_
    refine s_pu (pu_geq rfl rfl) ?_
    first | refine s_pu (pu_pick_t rfl rfl) ?_ | refine s_pu (pu_pick_f rfl rfl) ?_
    refine s_pu (pu_move rfl) ?_
    refine s_split 13 rfl (fun h13 => ?_) (fun h13 => by have h1 := of_decide_eq_false h13; have h2 := of_decide_eq_false h7; omega)
    refine s_off rfl rfl rfl ?_
    refine s_off rfl rfl rfl ?_
    refine s_off rfl rfl rfl ?_
    first | refine s_pu (pu_pick_t rfl rfl) ?_ | refine s_pu (pu_pick_f rfl rfl) ?_
    refine swl_sub _ (.cons (t := 0) rfl (.cons (t := 1) rfl (.cons (t := 17) rfl .nil))) ?_
    refine swl_nil ?_
    refine then_n ?_
    refine swp_cond (b := _) rfl (fun h17 => ?_) (fun h17 => by cases h17)
    refine swp_seq ?_
    refine swp_region ?_
    refine s_pu (pu_assign rfl) ?_
    refine swl_sub _ (.cons (t := 4) rfl .nil) ?_
    refine swl_nil ?_
    refine then_n ?_
    refine swp_ret ?_
    refine then_r ?_
    exact done_ret [] (.tmp rfl .nil) ⟨rfl, rfl⟩ (by repeat (first | exact Split.nil | (apply Split.cons; (repeat (first | with_reducible exact Take.here | apply Take.there)))))
theorem drop_nil (k : Int) : Spec Tryd.prog 32 [.pointer none, .int .i64 k] [] (fun r L => r = .bool false ∧ L = []) := by
  refine Spec.of 22 Tryd.func32 rfl rfl rfl ?_
  refine swp_seq ?_
  refine swp_region ?_
  refine s_pu (pu_assign rfl) ?_
  refine swl_sub _ (.cons (t := 0) rfl (.cons (t := 1) rfl .nil)) ?_
  refine swl_nil ?_
  refine then_n ?_
  refine swp_seq ?_
  refine swp_seq ?_
  refine swp_region ?_
  refine s_pu (pu_move rfl) ?_
  refine s_pu (pu_move rfl) ?_
  refine s_ef (ef_fn (has_nil k) rfl rfl (by repeat (first | exact Split.nil | (apply Split.cons; (repeat (first | with_reducible exact Take.here | apply Take.there)))))) ?_
  rintro v1 L1 ⟨rfl, rfl⟩
  refine swl_app ?_
  refine s_pu (pu_not rfl) ?_
  refine swl_sub _ (.cons (t := 0) rfl (.cons (t := 1) rfl (.cons (t := 8) rfl .nil))) ?_
  refine swl_nil ?_
  refine then_n ?_
  refine swp_cond (b := _) rfl (fun h8 => ?_) (fun h8 => by cases h8)
  refine swp_seq ?_
  refine swp_region ?_
  refine s_pu (pu_assign rfl) ?_
  refine swl_sub _ (.cons (t := 4) rfl .nil) ?_
  refine swl_nil ?_
  refine then_n ?_
  refine swp_ret ?_
  refine then_r ?_
  exact done_ret [] (.tmp rfl .nil) ⟨rfl, rfl⟩ (by repeat (first | exact Split.nil | (apply Split.cons; (repeat (first | with_reducible exact Take.here | apply Take.there)))))
end SX
namespace SX
open Go Go.Proofs

abbrev opr (p n : Nat) (v : Value) (ws : List (BitVec 64)) (μ : PH) : List Assn := [blk p 52 [.int .i64 (n : Nat), v], own 67 1 v ws.length (wcells ws), ro μ]
def IsNext (S : Nat → Bool) (k r : Int) : Prop := (r = -1 ∧ ∀ j : Nat, k ≤ j → S j = false) ∨ ∃ j : Nat, r = j ∧ k ≤ j ∧ S j = true ∧ ∀ i : Nat, k ≤ i → i < j → S i = false
def IsLast (S : Nat → Bool) (k r : Int) : Prop := (r = -1 ∧ ∀ j : Nat, (j : Int) ≤ k → S j = false) ∨ ∃ j : Nat, r = j ∧ (j : Int) ≤ k ∧ S j = true ∧ ∀ i : Nat, j < i → (i : Int) ≤ k → S i = false
theorem mem_ge {ws : List (BitVec 64)} {k : Nat} (h : 64 * ws.length ≤ k) : mem ws k = false := by
  unfold mem
  rw [List.getD_eq_getElem?_getD, List.getElem?_eq_none (by omega)]
  simp
theorem w_ne {w : BitVec 64} (h : (!decide ((w.toNat : Int) = 0)) = true) : w ≠ 0#64 := fun e => by subst e; simp at h
theorem w_eq {w : BitVec 64} (h : (!decide ((w.toNat : Int) = 0)) = false) : w = 0#64 := by
  have := of_decide_eq_true (not_f h)
  exact BitVec.eq_of_toNat_eq (by simpa using this)

set_option maxHeartbeats 1000000 in
theorem next_o (μ : PH) (p n : Nat) (v : Value) (ws : List (BitVec 64)) (k : Int) (hT : RowAt μ 0 0 tabV) (hl : ws.length = (n + 63) / 64) (hn : n ≤ 1048576) (hS : ∀ j, n ≤ j → mem ws j = false) :
    Spec Tryd.prog 19 [.pointer (some ⟨p, 0, none⟩), .int .i64 k] (opr p n v ws μ) (fun r L => ∃ x, r = .int .i64 x ∧ IsNext (mem ws) k x ∧ L = opr p n v ws μ) := by
  obtain ⟨m, hm⟩ : ∃ m : Nat, max k 0 = m := ⟨(max k 0).toNat, by omega⟩
  refine Spec.of 52 Tryd.func19 rfl rfl rfl ?_
  refine swp_seq ?_
  refine swp_region ?_
  refine s_pu (pu_assign rfl) ?_
  refine swl_sub _ (.cons (t := 0) rfl (.cons (t := 1) rfl .nil)) ?_
  refine swl_nil ?_
  refine then_n ?_
  refine swp_seq ?_
  refine swp_region ?_
  refine s_pu (pu_move rfl) ?_
  refine s_pu (pu_max2 rfl rfl) ?_
  refine s_pu (pu_assign rfl) ?_
  refine swl_sub _ (.cons (t := 0) rfl (.cons (t := 1) rfl .nil)) ?_
  rw [hm]
  refine swl_nil ?_
  refine then_n ?_
  refine swp_seq ?_
  refine swp_seq ?_
  refine swp_region ?_
  refine s_pu (pu_move rfl) ?_
  refine s_pu (pu_move rfl) ?_
  refine s_ef (ef_fn (size_b p n v) rfl rfl (by repeat (first | exact Split.nil | (apply Split.cons; (repeat (first | with_reducible exact Take.here | apply Take.there)))))) ?_
  rintro v1 L1 ⟨rfl, rfl⟩
  refine swl_app ?_
  refine s_pu (pu_geq rfl rfl) ?_
  refine swl_sub _ (.cons (t := 0) rfl (.cons (t := 1) rfl (.cons (t := 12) rfl .nil))) ?_
  refine swl_nil ?_
  refine then_n ?_
  refine swp_cond (b := _) rfl (fun h12 => ?_) (fun h12 => ?_)
  · skip   -- 12 T
    refine swp_seq ?_
    refine swp_region ?_
    refine s_pu (pu_assign rfl) ?_
    refine swl_sub _ (.cons (t := 4) rfl .nil) ?_
    refine swl_nil ?_
    refine then_n ?_
    refine swp_ret ?_
    refine then_r ?_
    have h12' := of_decide_eq_true h12
    exact done_ret (opr p n v ws μ) (.tmp rfl .nil) ⟨-1, rfl, .inl ⟨rfl, fun j hj => hS j (by omega)⟩, rfl⟩ (by repeat (first | exact Split.nil | (apply Split.cons; (repeat (first | with_reducible exact Take.here | apply Take.there)))))
  · skip   -- 12 F
    refine swp_skip ?_
    refine then_n ?_
    refine swp_seq ?_
    have h12' := of_decide_eq_false h12
    have hmi : m / 64 < ws.length := by omega
    obtain ⟨w0, hw0⟩ : ∃ w, ws[m / 64]? = some w := ⟨_, List.getElem?_eq_getElem hmi⟩
    refine swp_front (A := own 67 1 v ws.length (wcells ws)) (by repeat (first | with_reducible exact Take.here | apply Take.there)) ?_
    refine swp_own (fun h0 l0 _ => by omega) (fun b cap ex hv h1 h2 h3 h4 => ?_)
    subst hv
    refine swp_draw [5, 9] _ [] (by simp only [List.append_nil]; exact Ent.refl _) (by kernel_rfl) ?_
    refine d_pu 0 rfl (pu_move rfl) (by kernel_rfl) (by kernel_rfl) (by kernel_rfl) ?_
    refine d_pu 1 rfl (pu_quo_as ((m / 64 : Nat) : Int) rfl rfl (by omega) (by omega) (by omega) (by omega)) (by kernel_rfl) (by kernel_rfl) (by kernel_rfl) ?_
    refine d_pu 2 rfl (pu_move rfl) (by kernel_rfl) (by kernel_rfl) (by kernel_rfl) ?_
    first | refine d_pu 3 rfl (pu_nilCheck rfl) (by kernel_rfl) (by kernel_rfl) (by kernel_rfl) ?_ | refine d_pu 3 rfl (pu_nilCheck_fn rfl) (by kernel_rfl) (by kernel_rfl) (by kernel_rfl) ?_ | refine d_pu 3 rfl (pu_nilCheck_if rfl) (by kernel_rfl) (by kernel_rfl) (by kernel_rfl) ?_
    first | refine d_pu 4 rfl (pu_fieldAddr0 rfl) (by kernel_rfl) (by kernel_rfl) (by kernel_rfl) ?_ | refine d_pu 4 rfl (pu_fieldAddr rfl) (by kernel_rfl) (by kernel_rfl) (by kernel_rfl) ?_
    refine d_rd 5 rfl (rd_load rfl rfl) rfl (by kernel_rfl) (by kernel_rfl) (by kernel_rfl) ?_
    refine d_pu 6 rfl (pu_move rfl) (by kernel_rfl) (by kernel_rfl) (by kernel_rfl) ?_
    refine d_pu 7 rfl (pu_quo_as ((m / 64 : Nat) : Int) rfl rfl (by omega) (by omega) (by omega) (by omega)) (by kernel_rfl) (by kernel_rfl) (by kernel_rfl) ?_
    refine d_pu 8 rfl (pu_indexAddr (m / 64) rfl rfl (by omega) (by omega) (by omega)) (by kernel_rfl) (by kernel_rfl) (by kernel_rfl) ?_
    refine d_rd 9 rfl (rd_load rfl (wcells_get hw0)) rfl (by kernel_rfl) (by kernel_rfl) (by kernel_rfl) ?_
    refine d_pu 10 rfl (pu_move rfl) (by kernel_rfl) (by kernel_rfl) (by kernel_rfl) ?_
    refine d_pu 11 rfl (pu_rem_as ((m % 64 : Nat) : Int) rfl rfl (by omega) (by omega) (by omega)) (by kernel_rfl) (by kernel_rfl) (by kernel_rfl) ?_
    refine d_pu 12 rfl (pu_shr_w (a := w0) (m % 64) rfl rfl (by omega)) (by kernel_rfl) (by kernel_rfl) (by kernel_rfl) ?_
    refine d_pu 13 rfl (pu_move rfl) (by kernel_rfl) (by kernel_rfl) (by kernel_rfl) ?_
    refine d_pu 14 rfl (pu_rem_as ((m % 64 : Nat) : Int) rfl rfl (by omega) (by omega) (by omega)) (by kernel_rfl) (by kernel_rfl) (by kernel_rfl) ?_
    refine d_pu 15 rfl (pu_shl_w (a := w0 >>> (m % 64)) (m % 64) rfl rfl (by omega)) (by kernel_rfl) (by kernel_rfl) (by kernel_rfl) ?_
    refine d_pu 16 rfl (pu_assign rfl) (by kernel_rfl) (by kernel_rfl) (by kernel_rfl) ?_
    refine d_pu 17 rfl (pu_assign rfl) (by kernel_rfl) (by kernel_rfl) (by kernel_rfl) ?_
    refine d_sub _ (.cons (t := 0) rfl (.cons (t := 5) rfl (.cons (t := 6) rfl .nil))) ?_
    first | refine d_nilt (by kernel_rfl) ?_ | refine d_nilf (by kernel_rfl) ?_
    refine then_n ?_
    refine swp_block ?_
    refine swp_loop (ι := Nat × BitVec 64) (fun x env L => env = [(0, .pointer (some ⟨p, 0, none⟩)), (5, .int .i64 (x.1 : Nat)), (6, wv x.2)] ∧ L = [blk b 67 (wcells ws ++ ex), blk p 52 [.int .i64 (n : Nat), .slice (some ⟨b, 0, none⟩) ws.length cap], ro μ] ∧
      m / 64 ≤ x.1 ∧ x.1 < ws.length ∧ (∀ j, m ≤ j → j < 64 * x.1 → mem ws j = false) ∧ (∀ r, r < 64 → x.2.getLsbD r = (mem ws (64 * x.1 + r) && decide (m ≤ 64 * x.1 + r)))) (fun x => ws.length - x.1) (m / 64, (w0 >>> (m % 64)) <<< (m % 64)) ⟨rfl, rfl, Nat.le_refl _, hmi, fun j h1 h2 => by simp only at h2; omega, fun r hr => ?_⟩ ?_
    · show ((w0 >>> (m % 64)) <<< (m % 64)).getLsbD r = _
      rw [BitVec.getLsbD_shiftLeft, BitVec.getLsbD_ushiftRight, mem_at hw0 (k := 64 * (m / 64) + r) (by omega)]
      have e1 : (64 * (m / 64) + r) % 64 = r := by omega
      rw [e1]
      by_cases hrs : r < m % 64
      · have : ¬ m ≤ 64 * (m / 64) + r := by omega
        simp [hrs, this]
      · have : m ≤ 64 * (m / 64) + r := by omega
        have e2 : m % 64 + (r - m % 64) = r := by omega
        simp [hrs, this, hr, e2]
    rintro ⟨i, w⟩ env L ⟨rfl, rfl, him, hi, hlo, hbits⟩
    simp only [] at him hi hlo hbits
    dsimp only
    refine swp_seq ?_
    refine swp_block ?_
    refine swp_seq ?_
    refine swp_seq ?_
    refine swp_region ?_
    refine s_pu (pu_move rfl) ?_
    refine s_pu (pu_neq rfl rfl) ?_
    refine swl_sub _ (.cons (t := 0) rfl (.cons (t := 5) rfl (.cons (t := 6) rfl (.cons (t := 37) rfl .nil)))) ?_
    refine swl_nil ?_
    refine then_n ?_
    refine swp_cond (b := _) rfl (fun h37 => ?_) (fun h37 => ?_)
    · skip   -- 37 T
      have hw := w_ne h37
      obtain ⟨hc1, hc2, hc3⟩ := ctz_spec hw
      refine swp_seq ?_
      refine swp_region ?_
      refine s_pu (pu_move rfl) ?_
      refine s_pu (pu_mul_as ((64 * i : Nat) : Int) rfl rfl (by omega) (by omega) (by omega)) ?_
      refine s_pu (pu_move rfl) ?_
      refine s_ef (ef_fn (tz_spec μ w hT hw) rfl rfl (by repeat (first | exact Split.nil | (apply Split.cons; (repeat (first | with_reducible exact Take.here | apply Take.there)))))) ?_
      rintro v1 L1 ⟨rfl, rfl⟩
      refine swl_app ?_
      refine s_pu (pu_add_as ((64 * i + ctz w : Nat) : Int) rfl rfl (by omega) (by omega) (by omega)) ?_
      refine s_pu (pu_assign rfl) ?_
      refine swl_sub _ (.cons (t := 4) rfl .nil) ?_
      refine swl_nil ?_
      refine then_n ?_
      refine swp_ret ?_
      refine then_r ?_
      refine block_r ?_
      refine then_r ?_
      refine then_r ?_
      refine block_r ?_
      have hb := hbits _ hc1
      rw [hc2] at hb
      have hb1 := (Bool.and_eq_true_iff.1 hb.symm)
      have hb2 := of_decide_eq_true hb1.2
      refine done_retE (opr p n _ ws μ) (.tmp rfl .nil) ⟨_, rfl, .inr ⟨64 * i + ctz w, rfl, by omega, hb1.1, fun j h1 h2 => ?_⟩, rfl⟩
        ((Split.ent' (K := [blk b 67 (wcells ws ++ ex), blk p 52 [.int .i64 (n : Nat), .slice (some ⟨b, 0, none⟩) ws.length cap], ro μ]) (by repeat (first | exact Split.nil | (apply Split.cons; (repeat (first | with_reducible exact Take.here | apply Take.there)))))).trans ((wown_close h1 h2 h4).trans Ent.swap))
      rcases Nat.lt_or_ge j (64 * i) with h | h
      · exact hlo j (by omega) h
      · have hj := hbits (j - 64 * i) (by omega)
        rw [hc3 _ (by omega), show 64 * i + (j - 64 * i) = j by omega, decide_eq_true (show m ≤ j by omega), Bool.and_true] at hj
        exact hj.symm
    · skip   -- 37 F
      have hw := w_eq h37
      have hlo2 : ∀ j, m ≤ j → j < 64 * (i + 1) → mem ws j = false := fun j h1 h2 => by
        rcases Nat.lt_or_ge j (64 * i) with h | h
        · exact hlo j h1 h
        · have hj := hbits (j - 64 * i) (by omega)
          rw [hw, show 64 * i + (j - 64 * i) = j by omega, decide_eq_true h1, Bool.and_true] at hj
          rw [← hj]; simp
      refine swp_skip ?_
      refine then_n ?_
      refine swp_seq ?_
      refine swp_region ?_
      refine s_pu (pu_move rfl) ?_
      refine s_pu (pu_add_as ((i + 1 : Nat) : Int) rfl rfl (by omega) (by omega) (by omega)) ?_
      refine s_pu (pu_assign rfl) ?_
      refine swl_sub _ (.cons (t := 0) rfl (.cons (t := 5) rfl .nil)) ?_
      refine swl_nil ?_
      refine then_n ?_
      refine swp_seq ?_
      refine swp_region ?_
      refine s_pu (pu_move rfl) ?_
      refine s_pu (pu_move rfl) ?_
      first | refine s_pu (pu_nilCheck rfl) ?_ | refine s_pu (pu_nilCheck_fn rfl) ?_ | refine s_pu (pu_nilCheck_if rfl) ?_
      first | refine s_pu (pu_fieldAddr0 rfl) ?_ | refine s_pu (pu_fieldAddr rfl) ?_
      refine s_rd (rd_load rfl rfl) ?_
      refine s_pu (pu_len rfl) ?_
      refine s_pu (pu_eql rfl rfl) ?_
      refine swl_sub _ (.cons (t := 0) rfl (.cons (t := 5) rfl (.cons (t := 51) rfl .nil))) ?_
      refine swl_nil ?_
      refine then_n ?_
      refine swp_cond (b := _) rfl (fun h51 => ?_) (fun h51 => ?_)
      · skip   -- 51 T
        refine swp_seq ?_
        refine swp_region ?_
        refine s_pu (pu_assign rfl) ?_
        refine swl_sub _ (.cons (t := 4) rfl .nil) ?_
        refine swl_nil ?_
        refine then_n ?_
        refine swp_ret ?_
        refine block_r ?_
        refine then_r ?_
        refine then_r ?_
        refine block_r ?_
        have h51' := of_decide_eq_true h51
        exact done_retE (opr p n _ ws μ) (.tmp rfl .nil) ⟨_, rfl, .inl ⟨rfl, fun j hj => by
            rcases Nat.lt_or_ge j (64 * (i + 1)) with h | h
            · exact hlo2 j (by omega) h
            · exact mem_ge (by omega)⟩, rfl⟩
          ((Split.ent' (K := [blk b 67 (wcells ws ++ ex), blk p 52 [.int .i64 (n : Nat), .slice (some ⟨b, 0, none⟩) ws.length cap], ro μ]) (by repeat (first | exact Split.nil | (apply Split.cons; (repeat (first | with_reducible exact Take.here | apply Take.there)))))).trans ((wown_close h1 h2 h4).trans Ent.swap))
      · skip   -- 51 F
        have h51' := of_decide_eq_false h51
        have hi1 : i + 1 < ws.length := by omega
        obtain ⟨w1, hw1⟩ : ∃ w, ws[i + 1]? = some w := ⟨_, List.getElem?_eq_getElem hi1⟩
        refine swp_skip ?_
        refine block_n ?_
        refine then_n ?_
        refine swp_region ?_
        refine s_pu (pu_move rfl) ?_
        first | refine s_pu (pu_nilCheck rfl) ?_ | refine s_pu (pu_nilCheck_fn rfl) ?_ | refine s_pu (pu_nilCheck_if rfl) ?_
        first | refine s_pu (pu_fieldAddr0 rfl) ?_ | refine s_pu (pu_fieldAddr rfl) ?_
        refine s_rd (rd_load rfl rfl) ?_
        refine s_pu (pu_move rfl) ?_
        refine s_pu (pu_indexAddr (i + 1) rfl rfl (by omega) (by omega) (by omega)) ?_
        refine s_rd (rd_load rfl (wcells_get hw1)) ?_
        refine s_pu (pu_assign rfl) ?_
        refine swl_sub _ (.cons (t := 0) rfl (.cons (t := 5) rfl (.cons (t := 6) rfl .nil))) ?_
        refine swl_nil ?_
        refine then_n ⟨(i + 1, w1), ⟨rfl, rfl, by show m / 64 ≤ i + 1; omega, hi1, hlo2, fun r hr => ?_⟩, by show ws.length - (i + 1) < ws.length - i; omega⟩
        show w1.getLsbD r = (mem ws (64 * (i + 1) + r) && decide (m ≤ 64 * (i + 1) + r))
        rw [mem_at hw1 (k := 64 * (i + 1) + r) (by omega), show (64 * (i + 1) + r) % 64 = r by omega]
        have hmle : m ≤ 64 * (i + 1) + r := by
          rcases Nat.lt_or_ge (64 * (i + 1) + r) m with h | h
          · exact absurd h (by omega)
          · exact h
        rw [decide_eq_true hmle, Bool.and_true]
theorem next_nil (k : Int) : Spec Tryd.prog 19 [.pointer none, .int .i64 k] [] (fun r L => r = .int .i64 (-1) ∧ L = []) := by
  refine Spec.of 52 Tryd.func19 rfl rfl rfl ?_
  refine swp_seq ?_
  refine swp_region ?_
  refine s_pu (pu_assign rfl) ?_
  refine swl_sub _ (.cons (t := 0) rfl (.cons (t := 1) rfl .nil)) ?_
  refine swl_nil ?_
  refine then_n ?_
  refine swp_seq ?_
  refine swp_region ?_
  refine s_pu (pu_move rfl) ?_
  refine s_pu (pu_max2 rfl rfl) ?_
  refine s_pu (pu_assign rfl) ?_
  refine swl_sub _ (.cons (t := 0) rfl (.cons (t := 1) rfl .nil)) ?_
  refine swl_nil ?_
  refine then_n ?_
  refine swp_seq ?_
  refine swp_seq ?_
  refine swp_region ?_
  refine s_pu (pu_move rfl) ?_
  refine s_pu (pu_move rfl) ?_
  refine s_ef (ef_fn size_nil rfl rfl (by repeat (first | exact Split.nil | (apply Split.cons; (repeat (first | with_reducible exact Take.here | apply Take.there)))))) ?_
  rintro v1 L1 ⟨rfl, rfl⟩
  refine swl_app ?_
  refine s_pu (pu_geq rfl rfl) ?_
  refine swl_sub _ (.cons (t := 0) rfl (.cons (t := 1) rfl (.cons (t := 12) rfl .nil))) ?_
  refine swl_nil ?_
  refine then_n ?_
  refine swp_cond (b := _) rfl (fun h12 => ?_) (fun h12 => by have := of_decide_eq_false h12; omega)
  refine swp_seq ?_
  refine swp_region ?_
  refine s_pu (pu_assign rfl) ?_
  refine swl_sub _ (.cons (t := 4) rfl .nil) ?_
  refine swl_nil ?_
  refine then_n ?_
  refine swp_ret ?_
  refine then_r ?_
  exact done_ret [] (.tmp rfl .nil) ⟨rfl, rfl⟩ (by repeat (first | exact Split.nil | (apply Split.cons; (repeat (first | with_reducible exact Take.here | apply Take.there)))))

set_option maxHeartbeats 1000000 in
theorem last_o (p n : Nat) (v : Value) (ws : List (BitVec 64)) (k : Int) (hl : ws.length = (n + 63) / 64) (hn : n ≤ 1048576) (hS : ∀ j, n ≤ j → mem ws j = false) :
    Spec Tryd.prog 20 [.pointer (some ⟨p, 0, none⟩), .int .i64 k] (opn p n v ws) (fun r L => ∃ x, r = .int .i64 x ∧ IsLast (mem ws) k x ∧ L = opn p n v ws) := by
  refine Spec.of 51 Tryd.func20 rfl rfl rfl ?_
  refine swp_seq ?_
  refine swp_region ?_
  refine s_pu (pu_assign rfl) ?_
  refine swl_sub _ (.cons (t := 0) rfl (.cons (t := 1) rfl .nil)) ?_
  refine swl_nil ?_
  refine then_n ?_
  refine swp_seq ?_
  refine swp_region ?_
  refine s_pu (pu_move rfl) ?_
  refine s_pu (pu_move rfl) ?_
  refine s_ef (ef_fn (size_b p n v) rfl rfl (by repeat (first | exact Split.nil | (apply Split.cons; (repeat (first | with_reducible exact Take.here | apply Take.there)))))) ?_
  rintro v1 L1 ⟨rfl, rfl⟩
  refine swl_app ?_
  refine s_pu (pu_sub_as ((n : Int) - 1) rfl rfl (by omega) (by omega) (by omega)) ?_
  refine s_pu (pu_min2 rfl rfl) ?_
  refine s_pu (pu_assign rfl) ?_
  refine swl_sub _ (.cons (t := 0) rfl (.cons (t := 1) rfl .nil)) ?_
  refine swl_nil ?_
  refine then_n ?_
  refine swp_seq ?_
  refine swp_seq ?_
  refine swp_region ?_
  refine s_pu (pu_move rfl) ?_
  refine s_pu (pu_lss rfl rfl) ?_
  refine swl_sub _ (.cons (t := 0) rfl (.cons (t := 1) rfl (.cons (t := 14) rfl .nil))) ?_
  refine swl_nil ?_
  refine then_n ?_
  refine swp_cond (b := _) rfl (fun h14 => ?_) (fun h14 => ?_)
  · skip   -- 14 T
    refine swp_seq ?_
    refine swp_region ?_
    refine s_pu (pu_assign rfl) ?_
    refine swl_sub _ (.cons (t := 4) rfl .nil) ?_
    refine swl_nil ?_
    refine then_n ?_
    refine swp_ret ?_
    refine then_r ?_
    have h14' := of_decide_eq_true h14
    exact done_ret (opn p n v ws) (.tmp rfl .nil) ⟨-1, rfl, .inl ⟨rfl, fun j hj => hS j (by omega)⟩, rfl⟩ (by repeat (first | exact Split.nil | (apply Split.cons; (repeat (first | with_reducible exact Take.here | apply Take.there)))))
  · skip   -- 14 F
    refine swp_skip ?_
    refine then_n ?_
    refine swp_seq ?_
    have h14' := of_decide_eq_false h14
    obtain ⟨m, hm⟩ : ∃ m : Nat, min k ((n : Int) - 1) = m := ⟨(min k ((n : Int) - 1)).toNat, by omega⟩
    rw [hm]
    have hmi : m / 64 < ws.length := by omega
    obtain ⟨w0, hw0⟩ : ∃ w, ws[m / 64]? = some w := ⟨_, List.getElem?_eq_getElem hmi⟩
    refine swp_front (A := own 67 1 v ws.length (wcells ws)) (by repeat (first | with_reducible exact Take.here | apply Take.there)) ?_
    refine swp_own (fun h0 l0 _ => by omega) (fun b cap ex hv h1 h2 h3 h4 => ?_)
    subst hv
    refine swp_region ?_
    refine s_pu (pu_move rfl) ?_
    refine s_pu (pu_rem_as ((m % 64 : Nat) : Int) rfl rfl (by omega) (by omega) (by omega)) ?_
    refine s_pu (pu_sub_as ((63 - m % 64 : Nat) : Int) rfl rfl (by omega) (by omega) (by omega)) ?_
    refine s_pu (pu_assign rfl) ?_
    refine swl_sub _ (.cons (t := 0) rfl (.cons (t := 1) rfl (.cons (t := 5) rfl .nil))) ?_
    refine swl_nil ?_
    refine then_n ?_
    refine swp_seq ?_
    refine swp_draw [5, 9] _ [] (by simp only [List.append_nil]; exact Ent.refl _) (by kernel_rfl) ?_
    refine d_pu 0 rfl (pu_move rfl) (by kernel_rfl) (by kernel_rfl) (by kernel_rfl) ?_
    refine d_pu 1 rfl (pu_quo_as ((m / 64 : Nat) : Int) rfl rfl (by omega) (by omega) (by omega) (by omega)) (by kernel_rfl) (by kernel_rfl) (by kernel_rfl) ?_
    refine d_pu 2 rfl (pu_move rfl) (by kernel_rfl) (by kernel_rfl) (by kernel_rfl) ?_
    first | refine d_pu 3 rfl (pu_nilCheck rfl) (by kernel_rfl) (by kernel_rfl) (by kernel_rfl) ?_ | refine d_pu 3 rfl (pu_nilCheck_fn rfl) (by kernel_rfl) (by kernel_rfl) (by kernel_rfl) ?_ | refine d_pu 3 rfl (pu_nilCheck_if rfl) (by kernel_rfl) (by kernel_rfl) (by kernel_rfl) ?_
    first | refine d_pu 4 rfl (pu_fieldAddr0 rfl) (by kernel_rfl) (by kernel_rfl) (by kernel_rfl) ?_ | refine d_pu 4 rfl (pu_fieldAddr rfl) (by kernel_rfl) (by kernel_rfl) (by kernel_rfl) ?_
    refine d_rd 5 rfl (rd_load rfl rfl) rfl (by kernel_rfl) (by kernel_rfl) (by kernel_rfl) ?_
    refine d_pu 6 rfl (pu_move rfl) (by kernel_rfl) (by kernel_rfl) (by kernel_rfl) ?_
    refine d_pu 7 rfl (pu_quo_as ((m / 64 : Nat) : Int) rfl rfl (by omega) (by omega) (by omega) (by omega)) (by kernel_rfl) (by kernel_rfl) (by kernel_rfl) ?_
    refine d_pu 8 rfl (pu_indexAddr (m / 64) rfl rfl (by omega) (by omega) (by omega)) (by kernel_rfl) (by kernel_rfl) (by kernel_rfl) ?_
    refine d_rd 9 rfl (rd_load rfl (wcells_get hw0)) rfl (by kernel_rfl) (by kernel_rfl) (by kernel_rfl) ?_
    refine d_pu 10 rfl (pu_move rfl) (by kernel_rfl) (by kernel_rfl) (by kernel_rfl) ?_
    refine d_pu 11 rfl (pu_shl_w (a := w0) (63 - m % 64) rfl rfl (by omega)) (by kernel_rfl) (by kernel_rfl) (by kernel_rfl) ?_
    refine d_pu 12 rfl (pu_move rfl) (by kernel_rfl) (by kernel_rfl) (by kernel_rfl) ?_
    refine d_pu 13 rfl (pu_shr_w (a := w0 <<< (63 - m % 64)) (63 - m % 64) rfl rfl (by omega)) (by kernel_rfl) (by kernel_rfl) (by kernel_rfl) ?_
    refine d_pu 14 rfl (pu_assign rfl) (by kernel_rfl) (by kernel_rfl) (by kernel_rfl) ?_
    refine d_pu 15 rfl (pu_assign rfl) (by kernel_rfl) (by kernel_rfl) (by kernel_rfl) ?_
    refine d_sub _ (.cons (t := 0) rfl (.cons (t := 6) rfl (.cons (t := 7) rfl .nil))) ?_
    first | refine d_nilt (by kernel_rfl) ?_ | refine d_nilf (by kernel_rfl) ?_
    refine then_n ?_
    refine swp_block ?_
    refine swp_loop (ι := Nat × BitVec 64) (fun x env L => env = [(0, .pointer (some ⟨p, 0, none⟩)), (6, .int .i64 (x.1 : Nat)), (7, wv x.2)] ∧ L = [blk b 67 (wcells ws ++ ex), blk p 52 [.int .i64 (n : Nat), .slice (some ⟨b, 0, none⟩) ws.length cap]] ∧
      x.1 ≤ m / 64 ∧ x.1 < ws.length ∧ (∀ j, j ≤ m → 64 * (x.1 + 1) ≤ j → mem ws j = false) ∧ (∀ r, r < 64 → x.2.getLsbD r = (mem ws (64 * x.1 + r) && decide (64 * x.1 + r ≤ m)))) (fun x => x.1) (m / 64, (w0 <<< (63 - m % 64)) >>> (63 - m % 64)) ⟨rfl, rfl, Nat.le_refl _, hmi, fun j h1 h2 => by simp only at h2; omega, fun r hr => ?_⟩ ?_
    · show ((w0 <<< (63 - m % 64)) >>> (63 - m % 64)).getLsbD r = _
      rw [BitVec.getLsbD_ushiftRight, BitVec.getLsbD_shiftLeft, mem_at hw0 (k := 64 * (m / 64) + r) (by omega)]
      have e1 : (64 * (m / 64) + r) % 64 = r := by omega
      rw [e1]
      by_cases hrs : r ≤ m % 64
      · have : 64 * (m / 64) + r ≤ m := by omega
        have e2 : 63 - m % 64 + r - (63 - m % 64) = r := by omega
        have e3 : 63 - m % 64 + r < 64 := by omega
        have e4 : ¬ (63 - m % 64 + r < 63 - m % 64) := by omega
        simp [this, e2, e3, e4]
      · have : ¬ 64 * (m / 64) + r ≤ m := by omega
        have e3 : ¬ (63 - m % 64 + r < 64) := by omega
        simp [this, e3]
    rintro ⟨i, w⟩ env L ⟨rfl, rfl, him, hi, hlo, hbits⟩
    simp only [] at him hi hlo hbits
    dsimp only
    refine swp_seq ?_
    refine swp_block ?_
    refine swp_seq ?_
    refine swp_seq ?_
    refine swp_region ?_
    refine s_pu (pu_move rfl) ?_
    refine s_pu (pu_neq rfl rfl) ?_
    refine swl_sub _ (.cons (t := 0) rfl (.cons (t := 6) rfl (.cons (t := 7) rfl (.cons (t := 40) rfl .nil)))) ?_
    refine swl_nil ?_
    refine then_n ?_
    refine swp_cond (b := _) rfl (fun h40 => ?_) (fun h40 => ?_)
    · skip   -- 40 T
      have hw := w_ne h40
      obtain ⟨hc0, hc1, hc2, hc3⟩ := bl_spec hw
      refine swp_seq ?_
      refine swp_region ?_
      refine s_pu (pu_move rfl) ?_
      refine s_pu (pu_mul_as ((64 * i : Nat) : Int) rfl rfl (by omega) (by omega) (by omega)) ?_
      refine s_pu (pu_add_as ((64 * i + 63 : Nat) : Int) rfl rfl (by omega) (by omega) (by omega)) ?_
      refine s_pu (pu_move rfl) ?_
      refine s_ef (ef_fn (lz_spec w hw) rfl rfl (by repeat (first | exact Split.nil | (apply Split.cons; (repeat (first | with_reducible exact Take.here | apply Take.there)))))) ?_
      rintro v1 L1 ⟨rfl, rfl⟩
      refine swl_app ?_
      refine s_pu (pu_sub_as ((64 * i + (bl w.toNat - 1) : Nat) : Int) rfl rfl (by omega) (by omega) (by omega)) ?_
      refine s_pu (pu_assign rfl) ?_
      refine swl_sub _ (.cons (t := 4) rfl .nil) ?_
      refine swl_nil ?_
      refine then_n ?_
      refine swp_ret ?_
      refine then_r ?_
      refine block_r ?_
      refine then_r ?_
      refine then_r ?_
      refine block_r ?_
      have hb := hbits (bl w.toNat - 1) (by omega)
      rw [hc2] at hb
      have hb1 := (Bool.and_eq_true_iff.1 hb.symm)
      have hb2 := of_decide_eq_true hb1.2
      refine done_retE (opn p n _ ws) (.tmp rfl .nil) ⟨_, rfl, .inr ⟨64 * i + (bl w.toNat - 1), rfl, by omega, hb1.1, fun j h1 h2 => ?_⟩, rfl⟩
        ((Split.ent' (K := [blk b 67 (wcells ws ++ ex), blk p 52 [.int .i64 (n : Nat), .slice (some ⟨b, 0, none⟩) ws.length cap]]) (by repeat (first | exact Split.nil | (apply Split.cons; (repeat (first | with_reducible exact Take.here | apply Take.there)))))).trans ((wown_close h1 h2 h4).trans Ent.swap))
      by_cases hjm : j ≤ m
      · rcases Nat.lt_or_ge j (64 * (i + 1)) with h | h
        · have hj := hbits (j - 64 * i) (by omega)
          rw [hc3 _ (by omega), show 64 * i + (j - 64 * i) = j by omega, decide_eq_true hjm, Bool.and_true] at hj
          exact hj.symm
        · exact hlo j hjm h
      · exact hS j (by omega)
    · skip   -- 40 F
      have hw := w_eq h40
      have hlo2 : ∀ j, j ≤ m → 64 * i ≤ j → mem ws j = false := fun j h1 h2 => by
        rcases Nat.lt_or_ge j (64 * (i + 1)) with h | h
        · have hj := hbits (j - 64 * i) (by omega)
          rw [hw, show 64 * i + (j - 64 * i) = j by omega, decide_eq_true h1, Bool.and_true] at hj
          rw [← hj]; simp
        · exact hlo j h1 h
      refine swp_skip ?_
      refine then_n ?_
      refine swp_seq ?_
      refine swp_region ?_
      refine s_pu (pu_move rfl) ?_
      refine s_pu (pu_sub_as ((i : Int) - 1) rfl rfl rfl (by omega) (by omega)) ?_
      refine s_pu (pu_assign rfl) ?_
      refine swl_sub _ (.cons (t := 0) rfl (.cons (t := 6) rfl .nil)) ?_
      refine swl_nil ?_
      refine then_n ?_
      refine swp_seq ?_
      refine swp_region ?_
      refine s_pu (pu_move rfl) ?_
      refine s_pu (pu_lss rfl rfl) ?_
      refine swl_sub _ (.cons (t := 0) rfl (.cons (t := 6) rfl (.cons (t := 50) rfl .nil))) ?_
      refine swl_nil ?_
      refine then_n ?_
      refine swp_cond (b := _) rfl (fun h50 => ?_) (fun h50 => ?_)
      · skip   -- 50 T
        refine swp_seq ?_
        refine swp_region ?_
        refine s_pu (pu_assign rfl) ?_
        refine swl_sub _ (.cons (t := 4) rfl .nil) ?_
        refine swl_nil ?_
        refine then_n ?_
        refine swp_ret ?_
        refine block_r ?_
        refine then_r ?_
        refine then_r ?_
        refine block_r ?_
        have h50' := of_decide_eq_true h50
        exact done_retE (opn p n _ ws) (.tmp rfl .nil) ⟨_, rfl, .inl ⟨rfl, fun j hj => by
            by_cases hjm : j ≤ m
            · exact hlo2 j hjm (by omega)
            · exact hS j (by omega)⟩, rfl⟩
          ((Split.ent' (K := [blk b 67 (wcells ws ++ ex), blk p 52 [.int .i64 (n : Nat), .slice (some ⟨b, 0, none⟩) ws.length cap]]) (by repeat (first | exact Split.nil | (apply Split.cons; (repeat (first | with_reducible exact Take.here | apply Take.there)))))).trans ((wown_close h1 h2 h4).trans Ent.swap))
      · skip   -- 50 F
        have h50' := of_decide_eq_false h50
        obtain ⟨i', rfl⟩ : ∃ i', i = i' + 1 := ⟨i - 1, by omega⟩
        obtain ⟨w1, hw1⟩ : ∃ w, ws[i']? = some w := ⟨_, List.getElem?_eq_getElem (by omega)⟩
        have hie : (((i' + 1 : Nat) : Int) - 1) = (i' : Int) := by omega
        rw [hie]
        refine swp_skip ?_
        refine block_n ?_
        refine then_n ?_
        refine swp_region ?_
        refine s_pu (pu_move rfl) ?_
        first | refine s_pu (pu_nilCheck rfl) ?_ | refine s_pu (pu_nilCheck_fn rfl) ?_ | refine s_pu (pu_nilCheck_if rfl) ?_
        first | refine s_pu (pu_fieldAddr0 rfl) ?_ | refine s_pu (pu_fieldAddr rfl) ?_
        refine s_rd (rd_load rfl rfl) ?_
        refine s_pu (pu_move rfl) ?_
        refine s_pu (pu_indexAddr i' rfl rfl (by omega) (by omega) (by omega)) ?_
        refine s_rd (rd_load rfl (wcells_get hw1)) ?_
        refine s_pu (pu_assign rfl) ?_
        refine swl_sub _ (.cons (t := 0) rfl (.cons (t := 6) rfl (.cons (t := 7) rfl .nil))) ?_
        refine swl_nil ?_
        refine then_n ⟨(i', w1), ⟨rfl, rfl, by show i' ≤ m / 64; omega, by show i' < ws.length; omega, hlo2, fun r hr => ?_⟩, by show i' < i' + 1; omega⟩
        show w1.getLsbD r = (mem ws (64 * i' + r) && decide (64 * i' + r ≤ m))
        rw [mem_at hw1 (k := 64 * i' + r) (by omega), show (64 * i' + r) % 64 = r by omega]
        rcases Nat.lt_or_ge m (64 * i' + r) with h | h
        · exact absurd h (by omega)
        · rw [decide_eq_true h, Bool.and_true]
theorem last_nil (k : Int) : Spec Tryd.prog 20 [.pointer none, .int .i64 k] [] (fun r L => r = .int .i64 (-1) ∧ L = []) := by
  refine Spec.of 51 Tryd.func20 rfl rfl rfl ?_
  refine swp_seq ?_
  refine swp_region ?_
  refine s_pu (pu_assign rfl) ?_
  refine swl_sub _ (.cons (t := 0) rfl (.cons (t := 1) rfl .nil)) ?_
  refine swl_nil ?_
  refine then_n ?_
  refine swp_seq ?_
  refine swp_region ?_
  refine s_pu (pu_move rfl) ?_
  refine s_pu (pu_move rfl) ?_
  refine s_ef (ef_fn size_nil rfl rfl (by repeat (first | exact Split.nil | (apply Split.cons; (repeat (first | with_reducible exact Take.here | apply Take.there)))))) ?_
  rintro v1 L1 ⟨rfl, rfl⟩
  refine swl_app ?_
  refine s_pu (pu_sub_as (-1) rfl rfl rfl (by omega) (by omega)) ?_
  refine s_pu (pu_min2 rfl rfl) ?_
  refine s_pu (pu_assign rfl) ?_
  refine swl_sub _ (.cons (t := 0) rfl (.cons (t := 1) rfl .nil)) ?_
  refine swl_nil ?_
  refine then_n ?_
  refine swp_seq ?_
  refine swp_seq ?_
  refine swp_region ?_
  refine s_pu (pu_move rfl) ?_
  refine s_pu (pu_lss rfl rfl) ?_
  refine swl_sub _ (.cons (t := 0) rfl (.cons (t := 1) rfl (.cons (t := 14) rfl .nil))) ?_
  refine swl_nil ?_
  refine then_n ?_
  refine swp_cond (b := _) rfl (fun h14 => ?_) (fun h14 => by have := of_decide_eq_false h14; omega)
  refine swp_seq ?_
  refine swp_region ?_
  refine s_pu (pu_assign rfl) ?_
  refine swl_sub _ (.cons (t := 4) rfl .nil) ?_
  refine swl_nil ?_
  refine then_n ?_
  refine swp_ret ?_
  refine then_r ?_
  exact done_ret [] (.tmp rfl .nil) ⟨rfl, rfl⟩ (by repeat (first | exact Split.nil | (apply Split.cons; (repeat (first | with_reducible exact Take.here | apply Take.there)))))
end SX
