/- A part of the proof: walks of the program's functions, and the rules by which they go. -/
import Derived.Test.YtieggbckcacihaaDoorB7b773094
import Derived.Lib.TrailingZeros
import Derived.MapKept
import Derived.Carry
import Derived.OpenShut
import Derived.ProofKit
import Derived.Deep.SlicePairs
import Derived.Deep.Grids
import Derived.JoinedCond
import Derived.LaidMore
namespace SX
open Go

/-- an integer type -/
class TInt (P : Program) (t : TypeId) (k : outParam IntKind) : Prop where
  und : P.underlying t = some (.int k)
class TStr (P : Program) (t : TypeId) : Prop where
  und : P.underlying t = some .string

theorem ent_appC {L1 L2 L3 K : List Assn} [h : AppC L1 L2 L3] (k : Ent L3 K) : Ent (L1 ++ L2) K := by rw [h.ok]; exact k
section
variable {P : Program} {env : Env}
theorem pu_conv {s t : TypeId} {ks k k' : IntKind} [hs : TInt P s ks] [ht : TInt P t k'] {x : Operand} {n : Int} (hx : evalE env x = some (.int k n)) : Pu P env (.convert s t x) (.int k' (k'.wrap n)) := fun ρ hρ _ _ _ _ _ w => by
  simp [execOp, hρ x _ hx, convert, run_underlying hs.und, run_underlying ht.und, Conv.intToInt]
theorem pu_conv_as {s t : TypeId} {ks k k' : IntKind} [hs : TInt P s ks] [ht : TInt P t k'] {x : Operand} {n : Int} (hx : evalE env x = some (.int k n)) (h : k'.wrap n = n) : Pu P env (.convert s t x) (.int k' n) := by
  have := pu_conv (P := P) (s := s) (t := t) hx; rwa [h] at this
theorem pu_conv_i64 {s t : TypeId} {ks k : IntKind} [hs : TInt P s ks] [ht : TInt P t .i64] {x : Operand} {n : Int} (hx : evalE env x = some (.int k n)) (h1 : -9223372036854775808 ≤ n) (h2 : n ≤ 9223372036854775807) : Pu P env (.convert s t x) (.int .i64 n) := pu_conv_as hx (wrap_i64 h1 h2)
theorem pu_conv_u64 {s t : TypeId} {ks k : IntKind} [hs : TInt P s ks] [ht : TInt P t .u64] {x : Operand} {n : Int} (hx : evalE env x = some (.int k n)) (h1 : 0 ≤ n) (h2 : n ≤ 18446744073709551615) : Pu P env (.convert s t x) (.int .u64 n) := pu_conv_as hx (IntWalk.u64_in n ⟨h1, h2⟩)
/-- between text types -/
theorem pu_conv_str {s t : TypeId} [hs : TStr P s] [ht : TStr P t] {x : Operand} {b : ByteArray} (hx : evalE env x = some (.string b)) : Pu P env (.convert s t x) (.string b) := fun ρ hρ _ _ _ _ _ w => by
  simp [execOp, hρ x _ hx, convert, run_underlying hs.und, run_underlying ht.und]

theorem pu_str_op {t u : TypeId} {op : BinOp} {x y : Operand} {a b : ByteArray} {v : Value} (hx : evalE env x = some (.string a)) (hy : evalE env y = some (.string b)) (hop : binOp op t (.string a) (.string b) = Op.stringOp op a b) (hg : ∀ X Y w, (eqGuard op t X Y (.string a) (.string b)).run P w = .ok () w) (hv : ∀ w, (Op.stringOp op a b).run P w = .ok v w) : Pu P env (.binOp op t x y u) v := fun ρ hρ _ _ _ _ _ w => by
  simp only [execOp, hρ x _ hx, hρ y _ hy, Sem.run_bind, hg, Result.andThen_ok, hop, hv, Sem.run_pure]
theorem eqGuard_str {t : TypeId} {a b : ByteArray} : ∀ op X Y w, (eqGuard op t X Y (.string a) (.string b)).run P w = .ok () w := fun op X Y w => by
  cases op <;> rfl
def strLt (a b : ByteArray) : Bool := Op.bytesLess a.toList b.toList
def strEq (a b : ByteArray) : Bool := a.toList == b.toList
theorem pu_str_eql {t u : TypeId} {x y : Operand} {a b : ByteArray} (hx : evalE env x = some (.string a)) (hy : evalE env y = some (.string b)) : Pu P env (.binOp .eql t x y u) (.bool (strEq a b)) := pu_str_op hx hy rfl (eqGuard_str _) (fun _ => rfl)
theorem pu_str_neq {t u : TypeId} {x y : Operand} {a b : ByteArray} (hx : evalE env x = some (.string a)) (hy : evalE env y = some (.string b)) : Pu P env (.binOp .neq t x y u) (.bool (!strEq a b)) := pu_str_op hx hy rfl (eqGuard_str _) (fun _ => rfl)
theorem pu_str_lss {t u : TypeId} {x y : Operand} {a b : ByteArray} (hx : evalE env x = some (.string a)) (hy : evalE env y = some (.string b)) : Pu P env (.binOp .lss t x y u) (.bool (strLt a b)) := pu_str_op hx hy rfl (eqGuard_str _) (fun _ => rfl)
theorem pu_str_leq {t u : TypeId} {x y : Operand} {a b : ByteArray} (hx : evalE env x = some (.string a)) (hy : evalE env y = some (.string b)) : Pu P env (.binOp .leq t x y u) (.bool (strLt a b || strEq a b)) := pu_str_op hx hy rfl (eqGuard_str _) (fun _ => rfl)
theorem pu_str_gtr {t u : TypeId} {x y : Operand} {a b : ByteArray} (hx : evalE env x = some (.string a)) (hy : evalE env y = some (.string b)) : Pu P env (.binOp .gtr t x y u) (.bool (!(strLt a b || strEq a b))) := pu_str_op hx hy rfl (eqGuard_str _) (fun _ => rfl)
theorem pu_str_geq {t u : TypeId} {x y : Operand} {a b : ByteArray} (hx : evalE env x = some (.string a)) (hy : evalE env y = some (.string b)) : Pu P env (.binOp .geq t x y u) (.bool (!strLt a b)) := pu_str_op hx hy rfl (eqGuard_str _) (fun _ => rfl)
theorem pu_strlen {t : TypeId} [h : TStr P t] {x : Operand} {s : ByteArray} (hx : evalE env x = some (.string s)) : Pu P env (.call { callee := .builtin .len, args := #[x], argTypes := #[t] }) (.int .i64 s.size) := fun ρ hρ _ _ _ _ _ w => by
  simp [execOp, resolve, invoke, builtin, hρ x _ hx, Builtin.len_, run_underlying h.und, goInt]

theorem swl_own {ro : Option Nat} {ops : Array Oper} {Q : Post} {N : Nat} {l0 : List Oper} {e n : Nat} {v : Value} {l : Nat} {xs : List Value} {L0 L : List Assn} (ht : Take (own e n v l xs) L0 L)
    (h0 : v = .slice none 0 0 → l = 0 → xs = [] → swl P ro ops Q N l0 env L)
    (h1 : ∀ b cap ex, v = .slice (some ⟨b, 0, none⟩) l cap → l ≤ cap → cap ≤ maxLen → xs.length = l * n → ex.length = (cap - l) * n → swl P ro ops Q N l0 env (blk b e (xs ++ ex) :: L)) : swl P ro ops Q N l0 env L0 := by
  intro E D a w hd hf hh
  obtain ⟨k1, k2, k3, k4, k5⟩ := hh.ent (Ent.perm ht.perm)
  have k6 : Sat (own e n v l xs :: ((E.add D).X ++ L)) (fun b => w.heap[b]?) := Sat.perm (perm_out (.refl _)) _ k5
  rcases own_open k6 with ⟨a1, a2, a3⟩ | ⟨b, cap, ex, a1, a2, a3, a4, a5, a6⟩
  · exact h0 a1 a2 a3 E D a w hd hf ⟨k1, k2, k3, k4, k6.tail⟩
  · exact h1 b cap ex a1 a2 a3 a4 a5 E D a w hd hf ⟨k1, k2, k3, k4, Sat.perm (perm_out (.refl _)).symm _ a6⟩

/-! ### words -/
abbrev wv (w : BitVec 64) : Value := .int .u64 (w.toNat : Nat)
theorem ofInt_toNat (w : BitVec 64) : BitVec.ofInt 64 (w.toNat : Int) = w := by
  rw [← BitVec.toInt_inj, BitVec.toInt_ofInt]
  rw [BitVec.toInt_eq_toNat_bmod]
theorem wrap_word (w : BitVec 64) : IntKind.u64.wrap (w.toNat : Int) = w.toNat := IntWalk.u64_in _ ⟨by omega, by have := w.isLt; omega⟩
theorem run_bits {op : BinOp} {t u : TypeId} {x y : Operand} {a b c : BitVec 64} (hx : evalE env x = some (.int .u64 (a.toNat : Nat))) (hy : evalE env y = some (.int .u64 (b.toNat : Nat)))
    (hop : binOp op t (.int .u64 (a.toNat : Nat)) (.int .u64 (b.toNat : Nat)) = Op.intBits op .u64 a.toNat b.toNat) (hg : ∀ X Y, eqGuard op t X Y (.int .u64 (a.toNat : Nat)) (.int .u64 (b.toNat : Nat)) = pure ())
    (hc : Op.intBits op .u64 a.toNat b.toNat = pure (.int .u64 (IntKind.u64.wrap (c.toNat : Nat)))) : Pu P env (.binOp op t x y u) (.int .u64 (c.toNat : Nat)) := fun ρ hρ _ _ _ _ _ w => by
  simp only [execOp, hρ x _ hx, hρ y _ hy, Sem.run_bind, hg, Sem.run_pure, Result.andThen_ok, hop, hc, wrap_word]
theorem pu_and_w {t u : TypeId} {x y : Operand} {a b : BitVec 64} (hx : evalE env x = some (.int .u64 (a.toNat : Nat))) (hy : evalE env y = some (.int .u64 (b.toNat : Nat))) : Pu P env (.binOp .and t x y u) (.int .u64 ((a &&& b).toNat : Nat)) :=
  run_bits hx hy (by simp [binOp]) (fun _ _ => by simp [eqGuard]) (by
    show (let a' : BitVec 64 := BitVec.ofInt 64 a.toNat; let b' : BitVec 64 := BitVec.ofInt 64 b.toNat; pure (.int .u64 (IntKind.u64.wrap (a' &&& b').toNat)) : Sem Value) = _
    rw [ofInt_toNat, ofInt_toNat])
theorem pu_or_w {t u : TypeId} {x y : Operand} {a b : BitVec 64} (hx : evalE env x = some (.int .u64 (a.toNat : Nat))) (hy : evalE env y = some (.int .u64 (b.toNat : Nat))) : Pu P env (.binOp .or t x y u) (.int .u64 ((a ||| b).toNat : Nat)) :=
  run_bits hx hy (by simp [binOp]) (fun _ _ => by simp [eqGuard]) (by
    show (let a' : BitVec 64 := BitVec.ofInt 64 a.toNat; let b' : BitVec 64 := BitVec.ofInt 64 b.toNat; pure (.int .u64 (IntKind.u64.wrap (a' ||| b').toNat)) : Sem Value) = _
    rw [ofInt_toNat, ofInt_toNat])
theorem pu_xor_w {t u : TypeId} {x y : Operand} {a b : BitVec 64} (hx : evalE env x = some (.int .u64 (a.toNat : Nat))) (hy : evalE env y = some (.int .u64 (b.toNat : Nat))) : Pu P env (.binOp .xor t x y u) (.int .u64 ((a ^^^ b).toNat : Nat)) :=
  run_bits hx hy (by simp [binOp]) (fun _ _ => by simp [eqGuard]) (by
    show (let a' : BitVec 64 := BitVec.ofInt 64 a.toNat; let b' : BitVec 64 := BitVec.ofInt 64 b.toNat; pure (.int .u64 (IntKind.u64.wrap (a' ^^^ b').toNat)) : Sem Value) = _
    rw [ofInt_toNat, ofInt_toNat])
theorem pu_andNot_w {t u : TypeId} {x y : Operand} {a b : BitVec 64} (hx : evalE env x = some (.int .u64 (a.toNat : Nat))) (hy : evalE env y = some (.int .u64 (b.toNat : Nat))) : Pu P env (.binOp .andNot t x y u) (.int .u64 ((a &&& ~~~b).toNat : Nat)) :=
  run_bits hx hy (by simp [binOp]) (fun _ _ => by simp [eqGuard]) (by
    show (let a' : BitVec 64 := BitVec.ofInt 64 a.toNat; let b' : BitVec 64 := BitVec.ofInt 64 b.toNat; pure (.int .u64 (IntKind.u64.wrap (a' &&& ~~~b').toNat)) : Sem Value) = _
    rw [ofInt_toNat, ofInt_toNat])
/-- shifts of a word, by less than 64 -/
theorem pu_shl_w {t u : TypeId} {x y : Operand} {ky : IntKind} {a : BitVec 64} (n : Nat) (hx : evalE env x = some (.int .u64 (a.toNat : Nat))) (hy : evalE env y = some (.int ky (n : Nat))) (hn : n ≤ 64) : Pu P env (.binOp .shl t x y u) (.int .u64 ((a <<< n).toNat : Nat)) := fun ρ hρ _ _ _ _ _ w => by
  have hm : min n 64 = n := Nat.min_eq_left hn
  have hp : IntKind.u64.wrap ((a.toNat : Int) * 2 ^ n) = ((a <<< n).toNat : Int) := by
    rw [BitVec.toNat_shiftLeft, Nat.shiftLeft_eq]
    have e : ((a.toNat : Int) * 2 ^ n) = ((a.toNat * 2 ^ n : Nat) : Int) := by simp
    rw [e]
    generalize a.toNat * 2 ^ n = m
    show (m : Int) % (2 : Int) ^ 64 = _
    omega
  have hg : ∀ X Y, eqGuard .shl t X Y (.int .u64 (a.toNat : Nat)) (.int ky (n : Nat)) = pure () := fun _ _ => by simp [eqGuard]
  have hb : (binOp .shl t (.int .u64 (a.toNat : Nat)) (.int ky (n : Nat)) : Sem Value) = pure (.int .u64 ((a <<< n).toNat : Nat)) := by
    show Op.shift .shl .u64 _ ky _ = _
    unfold Op.shift
    rw [if_neg (by omega)]
    show (pure (.int .u64 (IntKind.u64.wrap ((a.toNat : Int) * 2 ^ (min (Int.toNat n) 64)))) : Sem Value) = _
    rw [Int.toNat_natCast, hm, hp]
  simp only [execOp, hρ x _ hx, hρ y _ hy, Sem.run_bind, hg, hb, Sem.run_pure, Result.andThen_ok]
theorem pu_shr_w {t u : TypeId} {x y : Operand} {ky : IntKind} {a : BitVec 64} (n : Nat) (hx : evalE env x = some (.int .u64 (a.toNat : Nat))) (hy : evalE env y = some (.int ky (n : Nat))) (hn : n ≤ 64) : Pu P env (.binOp .shr t x y u) (.int .u64 ((a >>> n).toNat : Nat)) := fun ρ hρ _ _ _ _ _ w => by
  have hm : min n 64 = n := Nat.min_eq_left hn
  have hp : Int.fdiv (a.toNat : Int) (2 ^ n) = ((a >>> n).toNat : Int) := by
    rw [BitVec.toNat_ushiftRight, Nat.shiftRight_eq_div_pow, Int.fdiv_eq_ediv_of_nonneg _ (Int.le_of_lt (Int.pow_pos (by decide)))]
    simp
  have hg : ∀ X Y, eqGuard .shr t X Y (.int .u64 (a.toNat : Nat)) (.int ky (n : Nat)) = pure () := fun _ _ => by simp [eqGuard]
  have hb : (binOp .shr t (.int .u64 (a.toNat : Nat)) (.int ky (n : Nat)) : Sem Value) = pure (.int .u64 ((a >>> n).toNat : Nat)) := by
    show Op.shift .shr .u64 _ ky _ = _
    unfold Op.shift
    rw [if_neg (by omega)]
    show (pure (.int .u64 (Int.fdiv (a.toNat : Int) (2 ^ (min (Int.toNat n) 64)))) : Sem Value) = _
    rw [Int.toNat_natCast, hm, hp]
  simp only [execOp, hρ x _ hx, hρ y _ hy, Sem.run_bind, hg, hb, Sem.run_pure, Result.andThen_ok]
/-- an integer's bits: a word out of a Nat -/
theorem wv_ofNat (n : Nat) (h : n < 18446744073709551616) : ((BitVec.ofNat 64 n).toNat : Int) = n := by
  rw [BitVec.toNat_ofNat, Nat.mod_eq_of_lt (by simpa using h)]
theorem pu_add_w {t u : TypeId} {x y : Operand} {a b : BitVec 64} (hx : evalE env x = some (.int .u64 (a.toNat : Nat))) (hy : evalE env y = some (.int .u64 (b.toNat : Nat))) : Pu P env (.binOp .add t x y u) (.int .u64 ((a + b).toNat : Nat)) := by
  have := pu_add (P := P) (t := t) (u := u) hx hy
  have e : IntKind.u64.wrap ((a.toNat : Int) + b.toNat) = ((a + b).toNat : Int) := by
    rw [BitVec.toNat_add]
    show ((a.toNat : Int) + b.toNat) % (2 : Int) ^ 64 = _
    omega
  rwa [e] at this
theorem pu_mul_w {t u : TypeId} {x y : Operand} {a b : BitVec 64} (hx : evalE env x = some (.int .u64 (a.toNat : Nat))) (hy : evalE env y = some (.int .u64 (b.toNat : Nat))) : Pu P env (.binOp .mul t x y u) (.int .u64 ((a * b).toNat : Nat)) := by
  have := pu_mul (P := P) (t := t) (u := u) hx hy
  have e : IntKind.u64.wrap ((a.toNat : Int) * b.toNat) = ((a * b).toNat : Int) := by
    rw [BitVec.toNat_mul]
    rw [show (a.toNat : Int) * b.toNat = ((a.toNat * b.toNat : Nat) : Int) by simp]
    generalize a.toNat * b.toNat = m
    show (m : Int) % (2 : Int) ^ 64 = _
    omega
  rwa [e] at this
theorem pu_sub_w {t u : TypeId} {x y : Operand} {a b : BitVec 64} (hx : evalE env x = some (.int .u64 (a.toNat : Nat))) (hy : evalE env y = some (.int .u64 (b.toNat : Nat))) : Pu P env (.binOp .sub t x y u) (.int .u64 ((a - b).toNat : Nat)) := by
  have := pu_sub (P := P) (t := t) (u := u) hx hy
  have e : IntKind.u64.wrap ((a.toNat : Int) - b.toNat) = ((a - b).toNat : Int) := by
    rw [BitVec.toNat_sub]
    show ((a.toNat : Int) - b.toNat) % (2 : Int) ^ 64 = _
    have := a.isLt; have := b.isLt
    omega
  rwa [e] at this
theorem pu_neg_w {t : TypeId} {x : Operand} {a : BitVec 64} (hx : evalE env x = some (.int .u64 (a.toNat : Nat))) : Pu P env (.unOp .neg t x) (.int .u64 ((-a).toNat : Nat)) := by
  have := pu_neg (P := P) (t := t) hx
  have e : IntKind.u64.wrap (0 - (a.toNat : Int)) = ((-a).toNat : Int) := by
    rw [BitVec.toNat_neg]
    show (0 - (a.toNat : Int)) % (2 : Int) ^ 64 = _
    have := a.isLt
    omega
  rwa [e] at this

/-! ### min and max of integers -/
theorem pu_min2 {k : IntKind} {ts : Array TypeId} {x y : Operand} {a b : Int} (hx : evalE env x = some (.int k a)) (hy : evalE env y = some (.int k b)) : Pu P env (.call { callee := .builtin .min, args := #[x, y], argTypes := ts }) (.int k (min a b)) := fun ρ hρ _ _ _ _ _ w => by
  have e : (if b < a then b else a) = min a b := by omega
  simp [execOp, resolve, invoke, builtin, hρ x _ hx, hρ y _ hy, Builtin.min_, Builtin.min2, e]
theorem pu_max2 {k : IntKind} {ts : Array TypeId} {x y : Operand} {a b : Int} (hx : evalE env x = some (.int k a)) (hy : evalE env y = some (.int k b)) : Pu P env (.call { callee := .builtin .max, args := #[x, y], argTypes := ts }) (.int k (max a b)) := fun ρ hρ _ _ _ _ _ w => by
  have e : (if b > a then b else a) = max a b := by omega
  simp [execOp, resolve, invoke, builtin, hρ x _ hx, hρ y _ hy, Builtin.max_, Builtin.max2, e]
end
end SX
namespace SX
open Go
theorem Spec.exA' {P : Program} {f : FuncId} {args : List Value} {pre : List Assn} {post : Value → List Assn → Prop} {α : Type} {F : α → List Assn} (h : ∀ x, Spec P f args (F x ++ pre) post) : Spec P f args (SX.exA F :: pre) post := fun E w hw => by
  obtain ⟨k1, k2, k3, k4, k5⟩ := hw
  have k6 : Sat (SX.exA F :: (E.X ++ pre)) (fun b => w.heap[b]?) := Sat.perm (perm_out (.refl _)) _ k5
  obtain ⟨x, hx⟩ := exA_open k6
  exact h x E w ⟨k1, k2, k3, k4, Sat.perm (by rw [← List.append_assoc, ← List.append_assoc]; exact List.Perm.append_right _ List.perm_append_comm) _ hx⟩
theorem Spec.ent2 {P : Program} {f : FuncId} {args : List Value} {pre : List Assn} {u : Value} {L1 L2 : List Assn} (h : Spec P f args pre (fun v L => v = u ∧ L = L1)) (e : Ent L1 L2) : Spec P f args pre (fun v L => v = u ∧ L = L2) := fun E w hw =>
  (h E w hw).mono fun _ _ ⟨v, _, a, ⟨b, c⟩, d⟩ => ⟨v, L2, a, ⟨b, rfl⟩, d.ent (c ▸ e)⟩
theorem Spec.fact' {P : Program} {f : FuncId} {args : List Value} {pre : List Assn} {post : Value → List Assn → Prop} {p : Prop} (hp : ∀ m, Sat pre m → p) (h : p → Spec P f args pre post) : Spec P f args pre post := fun E w hw => h (hp _ hw.sat) E w hw
end SX
namespace SX
open Go
theorem Spec.own_cases {P : Program} {f : FuncId} {args : List Value} {L : List Assn} {post : Value → List Assn → Prop} {e n : Nat} {v : Value} {l : Nat} {xs : List Value}
    (h0 : v = .slice none 0 0 → l = 0 → xs = [] → Spec P f args L post)
    (h1 : ∀ b cap ex, v = .slice (some ⟨b, 0, none⟩) l cap → l ≤ cap → cap ≤ maxLen → xs.length = l * n → ex.length = (cap - l) * n → Spec P f args (blk b e (xs ++ ex) :: L) post) : Spec P f args (own e n v l xs :: L) post := by
  intro E w hw
  obtain ⟨k1, k2, k3, k4, k5⟩ := hw
  have k6 : Sat (own e n v l xs :: (E.X ++ L)) (fun b => w.heap[b]?) := Sat.perm (perm_out (.refl _)) _ k5
  rcases own_open k6 with ⟨a1, a2, a3⟩ | ⟨b, cap, ex, a1, a2, a3, a4, a5, a6⟩
  · exact h0 a1 a2 a3 E w ⟨k1, k2, k3, k4, k6.tail⟩
  · exact h1 b cap ex a1 a2 a3 a4 a5 E w ⟨k1, k2, k3, k4, Sat.perm (perm_out (.refl _)).symm _ a6⟩
theorem Spec.ent3 {P : Program} {f : FuncId} {args : List Value} {pre : List Assn} {post post' : Value → List Assn → Prop} (h : Spec P f args pre post) (e : ∀ v L, post v L → ∃ L', Ent L L' ∧ post' v L') : Spec P f args pre post' := fun E w hw =>
  (h E w hw).mono fun _ _ ⟨v, L, a, b, d⟩ => let ⟨L', h1, h2⟩ := e v L b; ⟨v, L', a, h2, d.ent h1⟩
theorem own_nil_ent {e n : Nat} {L : List Assn} : Ent L (own e n (.slice none 0 0) 0 [] :: L) := fun m h => ⟨fun _ => none, m, own_nil _ _ _, h, fun _ => .inl rfl, fun _ _ h => by (cases h), fun _ _ h => h⟩
end SX
namespace SX
open Go
theorem ent_ex1 {α : Type} {F : α → List Assn} (x : α) : Ent (F x) [exA F] := fun m h => exA_close (L := []) x m (by rw [List.append_nil]; exact h)
/-- the i-th of a list, spelled out -/
class NthC (vs : List Value) (i : Nat) (v : outParam Value) : Prop where
  ok : vs[i]? = some v
instance NthC.zero {v : Value} {vs : List Value} : NthC (v :: vs) 0 v := ⟨rfl⟩
instance NthC.succ {u v : Value} {vs : List Value} {i : Nat} [h : NthC vs i v] : NthC (u :: vs) (i + 1) v := ⟨by simpa using h.ok⟩
theorem pu_extractL {P : Program} {env : Env} {x : Operand} {vs : List Value} {i : Nat} {v : Value} (hx : evalE env x = some (.tuple vs.toArray)) [h : NthC vs i v] : Pu P env (.extract x i) v := pu_extract hx (by simpa using h.ok)
end SX
namespace SX

/-- digits of k bits each -/
def Dg (k : Nat) : List Nat → Nat
  | [] => 0
  | d :: ds => d + 2 ^ k * Dg k ds
/-- the mask that takes every other digit -/
def Mk (k : Nat) : Nat → Nat
  | 0 => 0
  | n + 1 => (2 ^ k - 1) + 2 ^ (2 * k) * Mk k n
/-- neighbours added -/
def ps : List Nat → List Nat
  | a :: b :: r => (a + b) :: ps r
  | _ => []

theorem and_split (K : Nat) {a c : Nat} (b d : Nat) (ha : a < 2 ^ K) (hc : c < 2 ^ K) : (a + 2 ^ K * b) &&& (c + 2 ^ K * d) = (a &&& c) + 2 ^ K * (b &&& d) := by
  have h1 : (a &&& c) < 2 ^ K := Nat.and_lt_two_pow a hc
  apply Nat.eq_of_testBit_eq
  intro i
  rw [Nat.testBit_and, Nat.add_comm a, Nat.add_comm c, Nat.add_comm (a &&& c), Nat.testBit_two_pow_mul_add _ ha, Nat.testBit_two_pow_mul_add _ hc, Nat.testBit_two_pow_mul_add _ h1]
  split
  · rw [Nat.testBit_and]
  · rw [Nat.testBit_and]
theorem low_and (k : Nat) {a b : Nat} (ha : a < 2 ^ k) : (a + 2 ^ k * b) &&& (2 ^ k - 1) = a := by
  rw [Nat.and_two_pow_sub_one_eq_mod, Nat.add_mul_mod_self_left, Nat.mod_eq_of_lt ha]
theorem two_mul_pow (k : Nat) : 2 ^ (2 * k) = 2 ^ k * 2 ^ k := by rw [Nat.two_mul, Nat.pow_add]
theorem lt_two {k a b : Nat} (ha : a < 2 ^ k) (hb : b < 2 ^ k) : a + 2 ^ k * b < 2 ^ (2 * k) := by
  rw [two_mul_pow]
  have : 2 ^ k * b + 2 ^ k ≤ 2 ^ k * 2 ^ k := by rw [← Nat.mul_succ]; exact Nat.mul_le_mul_left _ hb
  omega
theorem mk_lt (k : Nat) : 2 ^ k - 1 < 2 ^ (2 * k) := by
  have h1 : 0 < 2 ^ k := Nat.two_pow_pos k
  have h2 : 2 ^ k ≤ 2 ^ (2 * k) := Nat.pow_le_pow_right (by decide) (by omega)
  omega

/-- every other digit, from the first one -/
def evs : List Nat → List Nat
  | a :: _ :: r => a :: evs r
  | _ => []
def ods : List Nat → List Nat
  | _ :: b :: r => b :: ods r
  | _ => []
theorem and_evens (k : Nat) : ∀ (n : Nat) (ds : List Nat), ds.length = 2 * n → (∀ d ∈ ds, d < 2 ^ k) → Dg k ds &&& Mk k n = Dg (2 * k) (evs ds)
  | 0, [], _, _ => by simp [Dg, evs]
  | n + 1, a :: b :: r, hl, hd => by
    have ih := and_evens k n r (by simp at hl; omega) (fun d h => hd d (by simp [h]))
    have ha := hd a (by simp)
    have hb := hd b (by simp)
    have e : Dg k (a :: b :: r) = (a + 2 ^ k * b) + 2 ^ (2 * k) * Dg k r := by
      simp only [Dg]; rw [two_mul_pow, Nat.mul_add, Nat.mul_assoc]; omega
    rw [e, Mk, and_split (2 * k) _ _ (lt_two ha hb) (mk_lt k), low_and k ha, ih]
    rfl
theorem and_odds (k : Nat) : ∀ (n : Nat) (ds : List Nat), ds.length = 2 * n → (∀ d ∈ ds, d < 2 ^ k) → (Dg k ds >>> k) &&& Mk k n = Dg (2 * k) (ods ds)
  | 0, [], _, _ => by simp [Dg, ods]
  | n + 1, a :: b :: r, hl, hd => by
    have ih := and_odds k n r (by simp at hl; omega) (fun d h => hd d (by simp [h]))
    have ha := hd a (by simp)
    have hb := hd b (by simp)
    have e : Dg k (a :: b :: r) >>> k = (b + 2 ^ k * (Dg k r % 2 ^ k)) + 2 ^ (2 * k) * (Dg k r >>> k) := by
      simp only [Dg]
      rw [Nat.shiftRight_eq_div_pow, Nat.shiftRight_eq_div_pow, Nat.add_mul_div_left _ _ (Nat.two_pow_pos k), Nat.div_eq_of_lt ha, Nat.zero_add, two_mul_pow, Nat.mul_assoc, Nat.add_assoc, ← Nat.mul_add]
      congr 2
      exact (Nat.mod_add_div _ _).symm
    rw [e, Mk, and_split (2 * k) _ _ (lt_two hb (Nat.mod_lt _ (Nat.two_pow_pos k))) (mk_lt k), low_and k hb, ih]
    rfl
theorem dg_add (K : Nat) : ∀ ds : List Nat, Dg K (ods ds) + Dg K (evs ds) = Dg K (ps ds)
  | [] => rfl
  | [_] => rfl
  | a :: b :: r => by
    have ih := dg_add K r
    simp only [ods, evs, ps, Dg]
    rw [← ih, Nat.mul_add]; omega
/-- one step of the count -/
theorem pop_step (k n : Nat) (ds : List Nat) (hl : ds.length = 2 * n) (hd : ∀ d ∈ ds, d < 2 ^ k) : ((Dg k ds >>> k) &&& Mk k n) + (Dg k ds &&& Mk k n) = Dg (2 * k) (ps ds) := by
  rw [and_odds k n ds hl hd, and_evens k n ds hl hd, dg_add]
/-- neighbours added, all of them -/
def nb : List Nat → List Nat
  | [] => []
  | [a] => [a]
  | a :: b :: r => (a + b) :: nb (b :: r)
theorem nb_len : ∀ ds : List Nat, (nb ds).length = ds.length
  | [] => rfl
  | [_] => rfl
  | a :: b :: r => by simp only [nb, List.length_cons]; rw [nb_len (b :: r)]; rfl
theorem dg_nb (k : Nat) : ∀ ds : List Nat, (∀ d ∈ ds, d < 2 ^ k) → Dg k ds >>> k + Dg k ds = Dg k (nb ds)
  | [], _ => by simp [Dg, nb]
  | [a], h => by
    have ha := h a (by simp)
    simp [Dg, nb, Nat.shiftRight_eq_div_pow, Nat.div_eq_of_lt ha]
  | a :: b :: r, h => by
    have ha := h a (by simp)
    have ih := dg_nb k (b :: r) (fun d hd => h d (by simp at hd ⊢; right; exact hd))
    have hb := h b (by simp)
    have e1 : Dg k (a :: b :: r) >>> k = Dg k (b :: r) := by
      rw [Dg, Nat.shiftRight_eq_div_pow, Nat.add_mul_div_left _ _ (Nat.two_pow_pos k), Nat.div_eq_of_lt ha, Nat.zero_add]
    have e2 : Dg k (b :: r) >>> k = Dg k r := by
      rw [Dg, Nat.shiftRight_eq_div_pow, Nat.add_mul_div_left _ _ (Nat.two_pow_pos k), Nat.div_eq_of_lt hb, Nat.zero_add]
    rw [e1]
    rw [e2] at ih
    show Dg k (b :: r) + (a + 2 ^ k * Dg k (b :: r)) = (a + b) + 2 ^ k * Dg k (nb (b :: r))
    rw [← ih, Nat.mul_add]
    simp only [Dg]
    omega
theorem evs_nb : ∀ ds : List Nat, ds.length % 2 = 0 → evs (nb ds) = ps ds
  | [], _ => rfl
  | [_], h => by simp at h
  | [a, b], _ => rfl
  | a :: b :: c :: r, h => by
    simp only [nb, evs, ps]
    rw [← evs_nb (c :: r) (by simp at h ⊢; omega)]
theorem ps_len : ∀ ds : List Nat, (ps ds).length = ds.length / 2
  | [] => rfl
  | [_] => by simp [ps]
  | a :: b :: r => by simp only [ps, List.length_cons]; rw [ps_len r]; omega
theorem ps_sum : ∀ ds : List Nat, ds.length % 2 = 0 → (ps ds).sum = ds.sum
  | [], _ => rfl
  | [_], h => by simp at h
  | a :: b :: r, h => by simp only [ps, List.sum_cons]; rw [ps_sum r (by simp at h; omega)]; omega
theorem ps_le (m : Nat) : ∀ ds : List Nat, (∀ d ∈ ds, d ≤ m) → ∀ d ∈ ps ds, d ≤ 2 * m
  | [], _, d, h => by simp [ps] at h
  | [_], _, d, h => by simp [ps] at h
  | a :: b :: r, hd, d, h => by
    simp only [ps, List.mem_cons] at h
    rcases h with rfl | h
    · have := hd a (by simp); have := hd b (by simp); omega
    · exact ps_le m r (fun x hx => hd x (by simp [hx])) d h
theorem nb_le (m : Nat) : ∀ ds : List Nat, (∀ d ∈ ds, d ≤ m) → ∀ d ∈ nb ds, d ≤ 2 * m
  | [], _, d, h => by simp [nb] at h
  | [a], hd, d, h => by simp [nb] at h; subst h; have := hd d (by simp); omega
  | a :: b :: r, hd, d, h => by
    simp only [nb, List.mem_cons] at h
    rcases h with rfl | h
    · have := hd a (by simp); have := hd b (by simp); omega
    · exact nb_le m (b :: r) (fun x hx => hd x (by simp at hx ⊢; right; exact hx)) d h

theorem dg_bits : ∀ (n x : Nat), x < 2 ^ n → x = Dg 1 ((List.range n).map fun i => (x.testBit i).toNat)
  | 0, x, h => by simp at h; subst h; rfl
  | n + 1, x, h => by
    have ih := dg_bits n (x / 2) (by rw [Nat.pow_succ] at h; omega)
    rw [List.range_succ_eq_map, List.map_cons, List.map_map, Dg]
    have e : ((fun i => (x.testBit i).toNat) ∘ Nat.succ) = fun i => ((x / 2).testBit i).toNat := by
      funext i; simp [Nat.testBit_succ]
    rw [e, ← ih, Nat.testBit_zero]
    rcases Nat.mod_two_eq_zero_or_one x with h0 | h0 <;> simp [h0] <;> omega

theorem shr_of {k y : Nat} (lo hi : Nat) (h : y = lo + 2 ^ k * hi) (hlo : lo < 2 ^ k) : y >>> k = hi := by
  rw [h, Nat.shiftRight_eq_div_pow, Nat.add_mul_div_left _ _ (Nat.two_pow_pos k), Nat.div_eq_of_lt hlo, Nat.zero_add]
/-- what math/bits.OnesCount64 reckons -/
def onesN (x : Nat) : Nat :=
  let a := ((x >>> 1) &&& 6148914691236517205) + (x &&& 6148914691236517205)
  let b := ((a >>> 2) &&& 3689348814741910323) + (a &&& 3689348814741910323)
  let c := ((b >>> 4) + b) &&& 1085102592571150095
  let d := c + (c >>> 8)
  let e := d + (d >>> 16)
  let f := e + (e >>> 32)
  f &&& 127
theorem pop_tail (c0 c1 c2 c3 c4 c5 c6 c7 c : Nat) (g0 : c0 ≤ 8) (g1 : c1 ≤ 8) (g2 : c2 ≤ 8) (g3 : c3 ≤ 8) (g4 : c4 ≤ 8) (g5 : c5 ≤ 8) (g6 : c6 ≤ 8) (g7 : c7 ≤ 8)
    (hce : c = c0 + 256 * (c1 + 256 * (c2 + 256 * (c3 + 256 * (c4 + 256 * (c5 + 256 * (c6 + 256 * c7))))))) :
    ∃ d e f : Nat, d = c + (c >>> 8) ∧ e = d + (d >>> 16) ∧ f = e + (e >>> 32) ∧ d < 18446744073709551616 ∧ e < 18446744073709551616 ∧ f < 9223372036854775808 ∧ f &&& 127 = c0 + c1 + c2 + c3 + c4 + c5 + c6 + c7 := by
  obtain ⟨d, hd⟩ : ∃ d, d = c + (c >>> 8) := ⟨_, rfl⟩
  have h8 := shr_of (k := 8) c0 (c1 + 256 * (c2 + 256 * (c3 + 256 * (c4 + 256 * (c5 + 256 * (c6 + 256 * c7)))))) hce (by omega)
  have hd' : d = (c0 + c1) + 256 * ((c1 + c2) + 256 * ((c2 + c3) + 256 * ((c3 + c4) + 256 * ((c4 + c5) + 256 * ((c5 + c6) + 256 * ((c6 + c7) + 256 * c7)))))) := by
    rw [hd, h8, hce]; omega
  obtain ⟨e, he⟩ : ∃ e, e = d + (d >>> 16) := ⟨_, rfl⟩
  have h16 := shr_of (k := 16) (y := d) ((c0 + c1) + 256 * (c1 + c2)) ((c2 + c3) + 256 * ((c3 + c4) + 256 * ((c4 + c5) + 256 * ((c5 + c6) + 256 * ((c6 + c7) + 256 * c7))))) (by rw [hd']; omega) (by omega)
  have he' : e = (c0 + c1 + c2 + c3) + 256 * ((c1 + c2 + c3 + c4) + 256 * ((c2 + c3 + c4 + c5) + 256 * ((c3 + c4 + c5 + c6) + 256 * ((c4 + c5 + c6 + c7) + 256 * ((c5 + c6 + c7) + 256 * ((c6 + c7) + 256 * c7)))))) := by
    rw [he, h16, hd']; omega
  obtain ⟨f, hf⟩ : ∃ f, f = e + (e >>> 32) := ⟨_, rfl⟩
  have h32 := shr_of (k := 32) (y := e) ((c0 + c1 + c2 + c3) + 256 * ((c1 + c2 + c3 + c4) + 256 * ((c2 + c3 + c4 + c5) + 256 * (c3 + c4 + c5 + c6)))) ((c4 + c5 + c6 + c7) + 256 * ((c5 + c6 + c7) + 256 * ((c6 + c7) + 256 * c7))) (by rw [he']; clear hd' h16 h8 hce hd he he'; omega) (by clear hd' h16 h8 hce hd he he'; omega)
  have hf' : f = (c0 + c1 + c2 + c3 + c4 + c5 + c6 + c7) + 256 * ((c1 + c2 + c3 + c4 + c5 + c6 + c7) + 256 * ((c2 + c3 + c4 + c5 + c6 + c7) + 256 * ((c3 + c4 + c5 + c6 + c7) + 256 * ((c4 + c5 + c6 + c7) + 256 * ((c5 + c6 + c7) + 256 * ((c6 + c7) + 256 * c7)))))) := by
    rw [hf, h32, he']; clear hd' h16 h8 h32 hce hd he he' hf; omega
  refine ⟨d, e, f, hd, he, hf, ?_, ?_, ?_, ?_⟩
  · rw [hd']; clear hd' h16 h8 h32 hce hd he he' hf hf'; omega
  · rw [he']; clear hd' h16 h8 h32 hce hd he he' hf hf'; omega
  · rw [hf']; clear hd' h16 h8 h32 hce hd he he' hf hf'; omega
  · have : (127 : Nat) = 2 ^ 7 - 1 := rfl
    rw [this, Nat.and_two_pow_sub_one_eq_mod, hf']
    clear hd' h16 h8 h32 hce hd he he' hf hf' this; omega
theorem mk1 : Mk 1 32 = 6148914691236517205 := by decide
theorem mk2 : Mk 2 16 = 3689348814741910323 := by decide
theorem mk4 : Mk 4 8 = 1085102592571150095 := by decide
theorem onesN_eq (x : Nat) (hx : x < 2 ^ 64) : onesN x = ((List.range 64).map fun i => (x.testBit i).toNat).sum ∧
    (∃ a b c : Nat, a = ((x >>> 1) &&& 6148914691236517205) + (x &&& 6148914691236517205) ∧ b = ((a >>> 2) &&& 3689348814741910323) + (a &&& 3689348814741910323) ∧ c = ((b >>> 4) + b) &&& 1085102592571150095 ∧ a < 2 ^ 64 ∧ (b >>> 4) + b < 2 ^ 64 ∧ b < 2 ^ 64 ∧ c + (c >>> 8) < 2 ^ 64 ∧ (c + (c >>> 8)) + ((c + (c >>> 8)) >>> 16) < 2 ^ 64 ∧ ((c + (c >>> 8)) + ((c + (c >>> 8)) >>> 16)) + (((c + (c >>> 8)) + ((c + (c >>> 8)) >>> 16)) >>> 32) < 2 ^ 64 ∧ ((c + (c >>> 8)) + ((c + (c >>> 8)) >>> 16)) + (((c + (c >>> 8)) + ((c + (c >>> 8)) >>> 16)) >>> 32) < 9223372036854775808) := by
  obtain ⟨bs, hbs⟩ : ∃ bs, bs = (List.range 64).map fun i => (x.testBit i).toNat := ⟨_, rfl⟩
  have hlen : bs.length = 64 := by rw [hbs]; simp
  have hb1 : ∀ d ∈ bs, d ≤ 1 := by
    intro d hd
    rw [hbs] at hd
    obtain ⟨i, _, rfl⟩ := List.mem_map.1 hd
    exact Bool.toNat_le _
  have hxb : x = Dg 1 bs := by rw [hbs]; exact dg_bits 64 x hx
  rw [← hbs]
  have s1 := pop_step 1 32 bs (by omega) (fun d h => by have := hb1 d h; omega)
  have l2 : (ps bs).length = 32 := by rw [ps_len]; omega
  have b2 := ps_le 1 bs hb1
  have s2 := pop_step 2 16 (ps bs) (by omega) (fun d h => by have := b2 d h; omega)
  have l4 : (ps (ps bs)).length = 16 := by rw [ps_len]; omega
  have b4 := ps_le 2 (ps bs) b2
  have s3 := dg_nb 4 (ps (ps bs)) (fun d h => by have := b4 d h; omega)
  have b5 := nb_le 4 (ps (ps bs)) b4
  have s4 := and_evens 4 8 (nb (ps (ps bs))) (by rw [nb_len]; omega) (fun d h => by have := b5 d h; omega)
  rw [evs_nb _ (by omega)] at s4
  have b8 := ps_le 4 (ps (ps bs)) b4
  have l8 : (ps (ps (ps bs))).length = 8 := by rw [ps_len]; omega
  have sum8 : (ps (ps (ps bs))).sum = bs.sum := by rw [ps_sum _ (by omega), ps_sum _ (by omega), ps_sum _ (by omega)]
  rw [mk1] at s1
  rw [mk2] at s2
  rw [mk4] at s4
  have hlt : ∀ (k : Nat) (ds : List Nat), (∀ d ∈ ds, d < 2 ^ k) → Dg k ds < 2 ^ (k * ds.length) := by
    intro k ds
    induction ds with
    | nil => intro _; simp [Dg]
    | cons d ds ih =>
      intro h
      have h1 := ih (fun x hx => h x (by simp [hx]))
      have h2 := h d (by simp)
      rw [List.length_cons, Nat.mul_succ, Nat.pow_add, Nat.mul_comm (2 ^ (k * ds.length))]
      have h3 : 2 ^ k * Dg k ds + 2 ^ k ≤ 2 ^ k * 2 ^ (k * ds.length) := by rw [← Nat.mul_succ]; exact Nat.mul_le_mul_left _ h1
      show d + 2 ^ k * Dg k ds < _
      omega
  have ea : ((x >>> 1) &&& 6148914691236517205) + (x &&& 6148914691236517205) = Dg 2 (ps bs) := by rw [hxb]; exact s1
  have eb : ((Dg 2 (ps bs) >>> 2) &&& 3689348814741910323) + (Dg 2 (ps bs) &&& 3689348814741910323) = Dg 4 (ps (ps bs)) := s2
  have ec : ((Dg 4 (ps (ps bs)) >>> 4) + Dg 4 (ps (ps bs))) &&& 1085102592571150095 = Dg 8 (ps (ps (ps bs))) := by rw [s3]; exact s4
  have la : Dg 2 (ps bs) < 2 ^ 64 := by have := hlt 2 (ps bs) (fun d h => by have := b2 d h; omega); rwa [l2] at this
  have lb : Dg 4 (ps (ps bs)) < 2 ^ 64 := by have := hlt 4 (ps (ps bs)) (fun d h => by have := b4 d h; omega); rwa [l4] at this
  have lb' : (Dg 4 (ps (ps bs)) >>> 4) + Dg 4 (ps (ps bs)) < 2 ^ 64 := by
    rw [s3]
    have := hlt 4 (nb (ps (ps bs))) (fun d h => by have := b5 d h; omega)
    rwa [nb_len, l4] at this
  obtain ⟨cs, hcs⟩ : ∃ cs, cs = ps (ps (ps bs)) := ⟨_, rfl⟩
  rw [← hcs] at ec l8 sum8 b8
  have h8 : ∃ c0 c1 c2 c3 c4 c5 c6 c7, cs = [c0, c1, c2, c3, c4, c5, c6, c7] := by
    match cs, l8 with
    | [c0, c1, c2, c3, c4, c5, c6, c7], _ => exact ⟨c0, c1, c2, c3, c4, c5, c6, c7, rfl⟩
  obtain ⟨c0, c1, c2, c3, c4, c5, c6, c7, rfl⟩ := h8
  have g0 := b8 c0 (by simp)
  have g1 := b8 c1 (by simp)
  have g2 := b8 c2 (by simp)
  have g3 := b8 c3 (by simp)
  have g4 := b8 c4 (by simp)
  have g5 := b8 c5 (by simp)
  have g6 := b8 c6 (by simp)
  have g7 := b8 c7 (by simp)
  have hs : c0 + c1 + c2 + c3 + c4 + c5 + c6 + c7 = bs.sum := by rw [← sum8]; simp only [List.sum_cons, List.sum_nil]; omega
  obtain ⟨c, hc⟩ : ∃ c, c = Dg 8 [c0, c1, c2, c3, c4, c5, c6, c7] := ⟨_, rfl⟩
  have hce : c = c0 + 256 * (c1 + 256 * (c2 + 256 * (c3 + 256 * (c4 + 256 * (c5 + 256 * (c6 + 256 * c7)))))) := by rw [hc]; simp [Dg]
  rw [← hc] at ec
  clear hc s1 s2 s3 s4 b2 b4 b5 hlt hb1 b8
  obtain ⟨d, e, f, hd, he, hf, ld, le, lf, hpop⟩ := pop_tail c0 c1 c2 c3 c4 c5 c6 c7 c g0 g1 g2 g3 g4 g5 g6 g7 hce
  refine ⟨?_, Dg 2 (ps bs), Dg 4 (ps (ps bs)), c, ea.symm, eb.symm, ec.symm, la, lb', lb, by rw [← hd]; exact ld, by rw [← hd, ← he]; exact le, by rw [← hd, ← he, ← hf]; exact Nat.lt_trans lf (by decide), by rw [← hd, ← he, ← hf]; exact lf⟩
  unfold onesN
  simp only [ea, eb, ec]
  rw [← hd, ← he, ← hf, hpop, hs]
end SX
namespace SX
open Go

section
variable {P : Program} {env : Env}
/-- an array type: its length, its element, the element's cells -/
class TArr (P : Program) (t : TypeId) (len : outParam Nat) (e : outParam TypeId) (n : outParam Nat) : Prop where
  und : P.underlying t = some (.array len e)
  inf : (P.info? e).map (·.size) = some n
theorem pu_indexAddr_arr {t len e n : Nat} [h : TArr P t len e n] {x y : Operand} {b o : Nat} {ki : IntKind} {i : Int} (k : Nat) (hx : evalE env x = some (.pointer (some ⟨b, o, none⟩))) (hy : evalE env y = some (.int ki i)) (h0 : 0 ≤ i) (hl : i < len) (hk : o + i.toNat * n = k) :
    Pu P env (.indexAddr t x y) (.pointer (some ⟨b, k, none⟩)) := fun ρ hρ _ _ _ _ _ w => by
  have hs := run_sizeOf h.inf w
  simp [execOp, hρ x _ hx, hρ y _ hy, Instr.indexAt, asIntOf, run_underlying h.und, h0, hl, Instr.sureAddr, hs, addr_add, hk]
theorem pu_index_str {t : TypeId} [h : TStr P t] {x y : Operand} {s : ByteArray} {ki : IntKind} {i : Int} {b : UInt8} (hx : evalE env x = some (.string s)) (hy : evalE env y = some (.int ki i)) (h0 : 0 ≤ i) (hb : s[i.toNat]? = some b) :
    Pu P env (.index t x y) (.int .u8 (b.toNat : Nat)) := fun ρ hρ _ _ _ _ _ w => by
  simp [execOp, hρ x _ hx, hρ y _ hy, Instr.index, asIntOf, run_underlying h.und, h0, hb]
theorem pu_and_nat {t u : TypeId} {x y : Operand} (a b : Nat) (hx : evalE env x = some (.int .i64 (a : Nat))) (hy : evalE env y = some (.int .i64 (b : Nat))) (ha : a < 9223372036854775808) (hb : b < 9223372036854775808) : Pu P env (.binOp .and t x y u) (.int .i64 ((a &&& b : Nat) : Int)) := fun ρ hρ _ _ _ _ _ w => by
  have hg : ∀ X Y, eqGuard .and t X Y (.int .i64 (a : Nat)) (.int .i64 (b : Nat)) = pure () := fun _ _ => by simp [eqGuard]
  have hle : a &&& b ≤ a := Nat.and_le_left
  have hb' : (binOp .and t (.int .i64 (a : Nat)) (.int .i64 (b : Nat)) : Sem Value) = pure (.int .i64 ((a &&& b : Nat) : Int)) := by
    have e : (binOp .and t (.int .i64 (a : Nat)) (.int .i64 (b : Nat)) : Sem Value) = Op.intBits .and .i64 a b := by simp [binOp]
    rw [e]
    show (let a' : BitVec 64 := BitVec.ofInt 64 a; let b' : BitVec 64 := BitVec.ofInt 64 b; pure (.int .i64 (IntKind.i64.wrap (a' &&& b').toNat)) : Sem Value) = _
    have e1 : (BitVec.ofInt 64 (a : Int)).toNat = a := by rw [BitVec.ofInt_natCast, BitVec.toNat_ofNat]; exact Nat.mod_eq_of_lt (by omega)
    have e2 : (BitVec.ofInt 64 (b : Int)).toNat = b := by rw [BitVec.ofInt_natCast, BitVec.toNat_ofNat]; exact Nat.mod_eq_of_lt (by omega)
    simp only [BitVec.toNat_and, e1, e2]
    rw [wrap_i64 (by omega) (by omega)]
  simp only [execOp, hρ x _ hx, hρ y _ hy, Sem.run_bind, hg, hb', Sem.run_pure, Result.andThen_ok]
end

section
variable {P : Program} {env : Env}
class TBool (P : Program) (t : TypeId) : Prop where
  und : P.underlying t = some .bool
theorem eqGuard_bool {t : TypeId} {a b : Bool} : ∀ op X Y w, (eqGuard op t X Y (.bool a) (.bool b)).run P w = .ok () w := fun op X Y w => by
  cases op <;> rfl
theorem pu_bool_eq {t u : TypeId} [h : TBool P t] {x y : Operand} {a b : Bool} (hx : evalE env x = some (.bool a)) (hy : evalE env y = some (.bool b)) : Pu P env (.binOp .eql t x y u) (.bool (a == b)) :=
  pu_eq_of hx hy eqGuard_bool rfl (fun d w => by simp [Op.equalIn, run_underlying h.und])
theorem pu_bool_ne {t u : TypeId} [h : TBool P t] {x y : Operand} {a b : Bool} (hx : evalE env x = some (.bool a)) (hy : evalE env y = some (.bool b)) : Pu P env (.binOp .neq t x y u) (.bool (!(a == b))) :=
  pu_ne_of hx hy eqGuard_bool rfl (fun d w => by simp [Op.equalIn, run_underlying h.und])
end

/-! ### how many -/
def popc (w : BitVec 64) : Nat := ((List.range 64).filter fun i => w.getLsbD i).length
theorem sum_toNat (f : Nat → Bool) (l : List Nat) : (l.map fun i => (f i).toNat).sum = (l.filter f).length := by
  induction l with
  | nil => rfl
  | cons a l ih =>
    rw [List.map_cons, List.sum_cons, ih, List.filter_cons]
    cases f a <;> simp <;> omega
def onesB (w : BitVec 64) : BitVec 64 :=
  let a := ((w >>> 1) &&& 6148914691236517205#64) + (w &&& 6148914691236517205#64)
  let b := ((a >>> 2) &&& 3689348814741910323#64) + (a &&& 3689348814741910323#64)
  let c := ((b >>> 4) + b) &&& 1085102592571150095#64
  let d := c + (c >>> 8)
  let e := d + (d >>> 16)
  e + (e >>> 32)
theorem onesB_eq (w : BitVec 64) : (onesB w).toNat &&& 127 = popc w ∧ (onesB w).toNat < 9223372036854775808 := by
  obtain ⟨h1, a, b, c, ha, hb, hc, la, lb', lb, ld, le, lf, lf2⟩ := onesN_eq w.toNat (by have := w.isLt; omega)
  have hA : (((w >>> 1) &&& 6148914691236517205#64) + (w &&& 6148914691236517205#64)).toNat = a := by
    rw [BitVec.toNat_add, BitVec.toNat_and, BitVec.toNat_and, BitVec.toNat_ushiftRight, ha]
    exact Nat.mod_eq_of_lt (by rw [ha] at la; exact la)
  generalize hAA : ((w >>> 1) &&& 6148914691236517205#64) + (w &&& 6148914691236517205#64) = A at hA
  have hB : (((A >>> 2) &&& 3689348814741910323#64) + (A &&& 3689348814741910323#64)).toNat = b := by
    rw [BitVec.toNat_add, BitVec.toNat_and, BitVec.toNat_and, BitVec.toNat_ushiftRight, hA, hb]
    exact Nat.mod_eq_of_lt (by rw [hb] at lb; exact lb)
  generalize hBB : ((A >>> 2) &&& 3689348814741910323#64) + (A &&& 3689348814741910323#64) = B at hB
  have hC : (((B >>> 4) + B) &&& 1085102592571150095#64).toNat = c := by
    rw [BitVec.toNat_and, BitVec.toNat_add, BitVec.toNat_ushiftRight, hB, hc, Nat.mod_eq_of_lt lb']; rfl
  generalize hCC : ((B >>> 4) + B) &&& 1085102592571150095#64 = C at hC
  have hD : (C + (C >>> 8)).toNat = c + (c >>> 8) := by
    rw [BitVec.toNat_add, BitVec.toNat_ushiftRight, hC]; exact Nat.mod_eq_of_lt ld
  generalize hDD : C + (C >>> 8) = D at hD
  have hE : (D + (D >>> 16)).toNat = (c + (c >>> 8)) + ((c + (c >>> 8)) >>> 16) := by
    rw [BitVec.toNat_add, BitVec.toNat_ushiftRight, hD]; exact Nat.mod_eq_of_lt le
  generalize hEE : D + (D >>> 16) = E at hE
  have hF : (E + (E >>> 32)).toNat = ((c + (c >>> 8)) + ((c + (c >>> 8)) >>> 16)) + (((c + (c >>> 8)) + ((c + (c >>> 8)) >>> 16)) >>> 32) := by
    rw [BitVec.toNat_add, BitVec.toNat_ushiftRight, hE]; exact Nat.mod_eq_of_lt lf
  have hO : onesB w = E + (E >>> 32) := by
    unfold onesB
    simp only [hAA, hBB, hCC, hDD, hEE]
  rw [hO, hF]
  refine ⟨?_, lf2⟩
  have h2 : onesN w.toNat = (((c + (c >>> 8)) + ((c + (c >>> 8)) >>> 16)) + (((c + (c >>> 8)) + ((c + (c >>> 8)) >>> 16)) >>> 32)) &&& 127 := by
    unfold onesN
    simp only [← ha, ← hb, ← hc]
  rw [← h2, h1, sum_toNat]
  rfl

/-! ### the lowest bit -/
def ctz (w : BitVec 64) : Nat := Lib.ctz 64 w.toNat
theorem ctz_spec {w : BitVec 64} (h : w ≠ 0#64) : ctz w < 64 ∧ w.getLsbD (ctz w) = true ∧ ∀ j, j < ctz w → w.getLsbD j = false := by
  have h0 : w.toNat ≠ 0 := fun e => h (BitVec.eq_of_toNat_eq (by simpa using e))
  obtain ⟨m, hm, hk⟩ := Lib.ctzFrom_spec 64 w.toNat (by omega) (by have := w.isLt; omega)
  have e : ctz w = Lib.ctzFrom 64 w.toNat := by simp [ctz, Lib.ctz, h0]
  rw [e]
  generalize Lib.ctzFrom 64 w.toNat = k at *
  have hb : ∀ j, w.getLsbD j = (2 ^ k * (2 * m + 1)).testBit j := fun j => by rw [← hm]; rfl
  refine ⟨hk, ?_, fun j hj => ?_⟩
  · rw [hb, Nat.mul_comm, Nat.testBit_mul_two_pow]
    simp [Nat.testBit_zero]
  · rw [hb, Nat.mul_comm, Nat.testBit_mul_two_pow]
    simp [show ¬ k ≤ j by omega]
theorem ctz_idx {w : BitVec 64} (h : w ≠ 0#64) : (((w &&& -w) * 285870213051353865#64) >>> 58).toNat < 64 ∧ Lib.deBruijn64tab.getD (((w &&& -w) * 285870213051353865#64) >>> 58).toNat 0 = ctz w := by
  have h0 : w.toNat ≠ 0 := fun e => h (BitVec.eq_of_toNat_eq (by simpa using e))
  obtain ⟨hlow, hk⟩ := Lib.lowest_bit 64 w.toNat h0 (by have := w.isLt; omega)
  have hat := Lib.deBruijn64_at _ hk
  have e : (((w &&& -w) * 285870213051353865#64) >>> 58).toNat = 2 ^ Lib.ctz 64 w.toNat * 285870213051353865 % 18446744073709551616 / 288230376151711744 := by
    rw [BitVec.toNat_ushiftRight, BitVec.toNat_mul, BitVec.toNat_and, BitVec.toNat_neg, Nat.shiftRight_eq_div_pow]
    rw [Nat.mod_eq_of_lt (a := 2 ^ 64 - w.toNat) (by have := w.isLt; omega), hlow]
    rfl
  rw [e]
  exact hat

/-! ### the highest bit -/
/-- how many bits a number takes -/
def bl (x : Nat) : Nat := if x = 0 then 0 else Nat.log2 x + 1
theorem bl_of {x n : Nat} (h1 : x < 2 ^ n) (h2 : n = 0 ∨ 2 ^ (n - 1) ≤ x) : bl x = n := by
  unfold bl
  split
  · rename_i h; subst h
    rcases h2 with h2 | h2
    · exact h2.symm
    · have := Nat.two_pow_pos (n - 1); omega
  · rename_i h
    rcases h2 with rfl | h2
    · simp at h1; omega
    · have a1 := (Nat.log2_lt h).2 h1
      have a2 := (Nat.le_log2 h).2 h2
      by_cases hn : n = 0
      · omega
      · omega
theorem bl_lt (x : Nat) : x < 2 ^ bl x ∧ (bl x = 0 ∨ 2 ^ (bl x - 1) ≤ x) := by
  unfold bl
  split
  · rename_i h; subst h; exact ⟨by decide, .inl rfl⟩
  · rename_i h
    exact ⟨(Nat.log2_lt h).1 (by omega), .inr (by rw [Nat.add_sub_cancel]; exact (Nat.le_log2 h).1 (Nat.le_refl _))⟩
theorem bl_shr {x k : Nat} (h : 2 ^ k ≤ x) : bl x = bl (x >>> k) + k := by
  obtain ⟨h1, h2⟩ := bl_lt (x >>> k)
  rw [Nat.shiftRight_eq_div_pow] at *
  have hp := Nat.two_pow_pos k
  have hq : 1 ≤ x / 2 ^ k := (Nat.le_div_iff_mul_le hp).2 (by omega)
  refine bl_of ?_ ?_
  · rw [Nat.pow_add]; exact (Nat.div_lt_iff_lt_mul hp).1 h1
  · right
    rcases h2 with h2 | h2
    · rw [h2] at h1; simp at h1; omega
    · have hb : bl (x / 2 ^ k) ≠ 0 := fun e => by rw [e] at h1; simp at h1; omega
      rw [show bl (x / 2 ^ k) + k - 1 = (bl (x / 2 ^ k) - 1) + k by omega, Nat.pow_add]
      exact (Nat.le_div_iff_mul_le hp).1 h2
theorem bl_spec {w : BitVec 64} (h : w ≠ 0#64) : 1 ≤ bl w.toNat ∧ bl w.toNat ≤ 64 ∧ w.getLsbD (bl w.toNat - 1) = true ∧ ∀ j, bl w.toNat - 1 < j → w.getLsbD j = false := by
  have h0 : w.toNat ≠ 0 := fun e => h (BitVec.eq_of_toNat_eq (by simpa using e))
  obtain ⟨h1, h2⟩ := bl_lt w.toNat
  have hb : bl w.toNat ≠ 0 := fun e => by rw [e] at h1; simp at h1; omega
  have h2' : 2 ^ (bl w.toNat - 1) ≤ w.toNat := h2.resolve_left hb
  refine ⟨by omega, ?_, ?_, fun j hj => ?_⟩
  · have hlt := w.isLt
    have : 2 ^ (bl w.toNat - 1) < 2 ^ 64 := by omega
    have := (Nat.pow_lt_pow_iff_right (by decide : 1 < 2)).1 this
    omega
  · show w.toNat.testBit _ = true
    rw [Nat.testBit_eq_decide_div_mod_eq]
    have e : 2 ^ bl w.toNat = 2 ^ (bl w.toNat - 1) * 2 := by rw [← Nat.pow_succ]; congr 1; omega
    rw [e] at h1
    have hd : w.toNat / 2 ^ (bl w.toNat - 1) = 1 := by
      apply Nat.div_eq_of_lt_le
      · omega
      · omega
    simp [hd]
  · show w.toNat.testBit _ = false
    exact Nat.testBit_lt_two_pow (Nat.lt_of_lt_of_le h1 (Nat.pow_le_pow_right (by decide) (by omega)))
end SX
namespace SX
open Go Go.MapKept

section
variable {κ : Type} [DecidableEq κ]
abbrev Ents (κ : Type) := List (κ × Value × Nat)
def mke (kv : κ → Value) (x : κ × Value × Nat) : MapEntry := { key := kv x.1, val := x.2.1, born := x.2.2 }
def mlook : Ents κ → κ → Option Value
  | [], _ => none
  | x :: l, a => if x.1 = a then some x.2.1 else mlook l a
/-- where a key stands -/
def place : Ents κ → κ → Option Nat
  | [], _ => none
  | x :: l, a => if x.1 = a then some 0 else (place l a).map (· + 1)
def upd : Ents κ → Nat → κ → Value → Ents κ
  | [], c, a, v => [(a, v, c)]
  | x :: l, c, a, v => if x.1 = a then (x.1, v, x.2.2) :: l else x :: upd l c a v
/-- the clock behind an update -/
def updC (l : Ents κ) (c : Nat) (a : κ) : Nat := if (mlook l a).isSome then c else c + 1
theorem mlook_upd (l : Ents κ) (c : Nat) (a : κ) (v : Value) (x : κ) : mlook (upd l c a v) x = if a = x then some v else mlook l x := by
  induction l with
  | nil => rfl
  | cons y l ih =>
    unfold upd
    by_cases h : y.1 = a
    · rw [if_pos h]
      show (if y.1 = x then some v else mlook l x) = _
      rw [h]
      by_cases hx : a = x
      · rw [if_pos hx, if_pos hx]
      · rw [if_neg hx, if_neg hx]
        show _ = (if y.1 = x then some y.2.1 else mlook l x)
        rw [h, if_neg hx]
    · rw [if_neg h]
      show (if y.1 = x then some y.2.1 else mlook (upd l c a v) x) = _
      rw [ih]
      show _ = (if a = x then some v else (if y.1 = x then some y.2.1 else mlook l x))
      by_cases hx : a = x
      · subst hx; rw [if_neg h, if_pos rfl, if_pos rfl]
      · rw [if_neg hx, if_neg hx]
/-- the keys of a type -/
class TKey (P : Program) (kt : TypeId) (kv : outParam (κ → Value)) : Prop where
  ok : ∃ d, P.underlying kt = some d ∧ (∀ a, IsKey d (kv a)) ∧ ∀ a b, Instr.sameNow d (kv a) (kv b) = some (decide (a = b))
class TMap (P : Program) (t : TypeId) (kt et : outParam TypeId) : Prop where
  und : P.underlying t = some (.map kt et)
/-- a map's block -/
def mpe (b : Nat) (kv : κ → Value) (l : Ents κ) (c : Nat) : Assn := one b (.map (l.map (mke kv)).toArray c)

theorem find_place {kv : κ → Value} {d : TypeDesc} (hs : ∀ a b, Instr.sameNow d (kv a) (kv b) = some (decide (a = b))) (a : κ) : ∀ (l : Ents κ) (i : Nat),
    (mlook l a = none ∧ Instr.findNow d (kv a) (l.map (mke kv)) i = some none ∧ place l a = none) ∨ ∃ j v, mlook l a = some v ∧ Instr.findNow d (kv a) (l.map (mke kv)) i = some (some (i + j, v)) ∧ place l a = some j ∧ j < l.length ∧ (l[j]?).map (·.1) = some a
  | [], i => .inl ⟨rfl, rfl, rfl⟩
  | x :: l, i => by
    by_cases h : x.1 = a
    · refine .inr ⟨0, x.2.1, by simp [mlook, h], ?_, by simp [place, h], by simp, by simp [h]⟩
      simp [Instr.findNow, mke, hs, h]
    · have hd : decide (a = x.1) = false := decide_eq_false (fun e => h e.symm)
      rcases find_place hs a l (i + 1) with ⟨h1, h2, h3⟩ | ⟨j, v, h1, h2, h3, h4, h5⟩
      · refine .inl ⟨by simp [mlook, h, h1], ?_, by simp [place, h, h3]⟩
        simp [Instr.findNow, mke, hs, hd, h2]
      · refine .inr ⟨j + 1, v, by simp [mlook, h, h1], ?_, by simp [place, h, h3], by simp [h4], by simpa using h5⟩
        simp only [List.map_cons, Instr.findNow, mke, hs, hd]
        rw [show i + (j + 1) = i + 1 + j by omega]
        exact h2
theorem upd_at {kv : κ → Value} (a : κ) (c : Nat) (v : Value) : ∀ (l : Ents κ) (j : Nat), place l a = some j → (upd l c a v).map (mke kv) = (l.map (mke kv)).modify j fun e => { e with key := kv a, val := v }
  | [], j, h => by cases h
  | x :: l, j, h => by
    unfold place at h
    unfold upd
    by_cases e : x.1 = a
    · rw [if_pos e] at h
      obtain rfl := Option.some.inj h
      rw [if_pos e]
      simp [mke, e]
    · rw [if_neg e] at h
      obtain ⟨j', h1, rfl⟩ := Option.map_eq_some_iff.1 h
      rw [if_neg e]
      simp [upd_at a c v l j' h1]
theorem upd_new {kv : κ → Value} (a : κ) (c : Nat) (v : Value) : ∀ (l : Ents κ), mlook l a = none → (upd l c a v).map (mke kv) = l.map (mke kv) ++ [{ key := kv a, val := v, born := c }]
  | [], _ => rfl
  | x :: l, h => by
    unfold mlook at h
    unfold upd
    by_cases e : x.1 = a
    · rw [if_pos e] at h; cases h
    · rw [if_neg e] at h
      rw [if_neg e]
      simp [upd_new a c v l h]
variable {P : Program} {env : Env} {L : List Assn}
theorem run_look {w : World} {t kt et b c : Nat} {kv : κ → Value} {l : Ents κ} {z : Value} (hm : TMap P t kt et) (hk : TKey P kt kv) (hz : (zeroValue et).run P w = .ok z w) (hb : w.heap[b]? = some (.map (l.map (mke kv)).toArray c)) (a : κ) (ok : Bool) :
    (Instr.lookup t (.map (some b)) (kv a) ok).run P w = .ok (if ok then .tuple #[(mlook l a).getD z, .bool (mlook l a).isSome] else (mlook l a).getD z) w := by
  obtain ⟨d, hd, hik, hs⟩ := hk.ok
  have hck : ∀ e, (Instr.checkKey e 10000 kt (kv a)).run P w = .ok () w := fun e => run_checkKey (P := P) (w := w) hd (hik a) e 9999
  rcases find_place hs a l 0 with ⟨h1, h2, _⟩ | ⟨j, v, h1, h2, _⟩
  · have hf := run_findKey (P := P) (w := w) (l := l.map (mke kv)) hd h2
    rw [h1]
    cases ok <;> simp [Instr.lookup, run_underlying hm.und, run_getObj_map hb, hck, hf, hz, Result.andThen]
  · have hf := run_findKey (P := P) (w := w) (l := l.map (mke kv)) hd h2
    rw [h1]
    cases ok <;> simp [Instr.lookup, run_underlying hm.und, run_getObj_map hb, hck, hf, Result.andThen]

theorem run_upd {w : World} {t kt et b c : Nat} {kv : κ → Value} {l : Ents κ} (hm : TMap P t kt et) (hk : TKey P kt kv) (hb : w.heap[b]? = some (.map (l.map (mke kv)).toArray c)) (a : κ) (v : Value) :
    (Instr.mapUpdate t (.map (some b)) (kv a) v).run P w = .ok () { w with heap := w.heap.setIfInBounds b (.map ((upd l c a v).map (mke kv)).toArray (updC l c a)) } := by
  obtain ⟨d, hd, hik, hs⟩ := hk.ok
  have hck : ∀ e, (Instr.checkKey e 10000 kt (kv a)).run P w = .ok () w := fun e => run_checkKey (P := P) (w := w) hd (hik a) e 9999
  rcases find_place hs a l 0 with ⟨h1, h2, _⟩ | ⟨j, u, h1, h2, h3, h4, h5⟩
  · have hf := run_findKey (P := P) (w := w) (l := l.map (mke kv)) hd h2
    have e := upd_new (kv := kv) a c v l h1
    simp [Instr.mapUpdate, run_underlying hm.und, run_getObj_map hb, hck, hf, run_setObj_map _ hb, Result.andThen, updC, h1, e]
  · have hf := run_findKey (P := P) (w := w) (l := l.map (mke kv)) hd h2
    have e := upd_at (kv := kv) a c v l j h3
    have hkey : (Option.map ((fun x : MapEntry => x.key) ∘ mke kv) l[j]?).getD (kv a) = kv a := by
      cases hx : l[j]? with
      | none => rfl
      | some x => rw [hx] at h5; simp only [Option.map_some, Option.some.injEq] at h5; simp [mke, h5]
    have hst := run_keyThatStays (P := P) (w := w) (hik a)
    simp only [Nat.zero_add] at hf
    simp [Instr.mapUpdate, run_underlying hm.und, run_getObj_map hb, hck, hf, run_setObj_map _ hb, Result.andThen, updC, h1, e, hkey, hst]
class InM (b : Nat) (L : List Assn) (kv : outParam (κ → Value)) (l : outParam (Ents κ)) (c : outParam Nat) : Prop where
  ok : ∃ R, Take (mpe b kv l c) L R
instance InM.here {b c : Nat} {kv : κ → Value} {l : Ents κ} {L : List Assn} : InM b (mpe b kv l c :: L) kv l c := ⟨L, .here⟩
instance (priority := low) InM.there {b c : Nat} {kv : κ → Value} {l : Ents κ} {A : Assn} {L : List Assn} [h : InM b L kv l c] : InM b (A :: L) kv l c := ⟨A :: h.ok.choose, .there h.ok.choose_spec⟩
class TZv (P : Program) (t : TypeId) (z : outParam Value) : Prop where
  ok : (P.info? t).bind (·.zero) = some z
theorem TZv.run {t : TypeId} {z : Value} (h : TZv P t z) (w : World) : (zeroValue t).run P w = .ok z w := by
  have h := h.ok
  cases hi : P.info? t with
  | none => rw [hi] at h; cases h
  | some i => rw [hi] at h; simp [zeroValue, typeInfo, hi, show i.zero = some z from h]
theorem rd_mlook {t kt et b c : Nat} {kv : κ → Value} {l : Ents κ} {z : Value} [hm : TMap P t kt et] [hk : TKey P kt kv] [hz : TZv P et z] {m x : Operand} [hb : InM b L kv l c] (a : κ) (hx : evalE env m = some (.map (some b))) (hy : evalE env x = some (kv a)) : Rd P env L (.lookup t m x false) ((mlook l a).getD z) := by
  intro ρ hρ dst ty pos af g E w hh
  obtain ⟨R, ht⟩ := hb.ok
  have hob := hh.one_get ht
  have hr := run_look hm hk (hz.run w) hob a false
  simp only [Bool.false_eq_true, if_false] at hr
  simp [execOp, hρ m _ hx, hρ x _ hy, hr]
theorem rd_mlook2 {t kt et b c : Nat} {kv : κ → Value} {l : Ents κ} {z : Value} [hm : TMap P t kt et] [hk : TKey P kt kv] [hz : TZv P et z] {m x : Operand} [hb : InM b L kv l c] (a : κ) (hx : evalE env m = some (.map (some b))) (hy : evalE env x = some (kv a)) : Rd P env L (.lookup t m x true) (.tuple #[(mlook l a).getD z, .bool (mlook l a).isSome]) := by
  intro ρ hρ dst ty pos af g E w hh
  obtain ⟨R, ht⟩ := hb.ok
  have hob := hh.one_get ht
  have hr := run_look hm hk (hz.run w) hob a true
  simp only [if_true] at hr
  simp [execOp, hρ m _ hx, hρ x _ hy, hr]
theorem ef_upd {t kt et b c : Nat} {kv : κ → Value} {l : Ents κ} {R : List Assn} [hm : TMap P t kt et] [hk : TKey P kt kv] {m x y : Operand} (a : κ) {v : Value} (hx : evalE env m = some (.map (some b))) (hy : evalE env x = some (kv a)) (hv : evalE env y = some v) (hL : Split L [mpe b kv l c] R) :
    Ef P env L (.mapUpdate t m x y) (fun k => k undef (mpe b kv (upd l c a v) (updC l c a) :: R)) := by
  intro ro dst tt pos af g N E a' w next Q k hf hh hk' hn
  have h2 := hh.ent hL.ent
  have hob := h2.one_get .here
  have hu := run_upd hm hk hob a v
  have hlt : b < w.heap.size := (Array.getElem?_eq_some_iff.1 hob).1
  have hrun : (execOp a'.eval ⟨dst, .mapUpdate t m x y, tt, pos, af, g⟩).run P w = .ok .skip { w with heap := w.heap.setIfInBounds b (.map ((upd l c a v).map (mke kv)).toArray (updC l c a)) } := by
    simp [execOp, hf.ev m _ hx, hf.ev x _ hy, hf.ev y _ hv, hu]
  refine wpIn_skip_op hrun (hn undef _ _ hk' (h2.upd (b := b) .here _ rfl rfl rfl (by simp) ?_ ?_))
  · simp [hlt]
  · intro k hne
    simp [Ne.symm hne]
omit [DecidableEq κ] in
theorem ef_makeMap {t : TypeId} {kv : κ → Value} : Ef P env L (.makeMap t none) (fun k => ∀ b, k (.map (some b)) (mpe b kv [] 0 :: L)) :=
  ef_new_of (f := fun b => .map (some b)) (o := .map #[] 0) fun ρ hρ dst ty pos af g w => by
    simp [execOp, Instr.makeMap]
def ikv (a : Int) : Value := .int .i64 a
def skv (a : ByteArray) : Value := .string a
instance TKey.int {kt : TypeId} [h : TInt P kt .i64] : TKey P kt ikv := ⟨_, h.und, fun _ => rfl, fun a b => by simp [ikv, Instr.sameNow]; rw [Bool.eq_iff_iff]; simp⟩
instance TKey.str {kt : TypeId} [h : TStr P kt] : TKey P kt skv := ⟨_, h.und, fun _ => trivial, fun a b => by simp [skv, Instr.sameNow]; rw [Bool.eq_iff_iff, bytes_beq]; simp⟩
end
end SX
namespace SX
open Go Go.RowKit Go.WideShapes Go.ChangeShapes

section
variable {H0 : Type} {enc : TypeId × Value → H0} {P : Program}
theorem stays_all (hl : laidOutB P = true) {W W' : World} (hb : Below W.heap.size W W') {sp : Nat → Bool} : ∀ {ts : List TypeId} {vs : List Value} {ds : List (DataW H0)} {ps : List MemPlace},
    (ts.all fun t => P.readableRec t && decide (t < P.types.size)) = true → DataW.TrodAll enc P W 0 (fun _ => true) true ts vs ds ps → (∀ x ∈ ps, x.block < W.heap.size) → (∀ x ∈ ps, sp x.block = true) → DataW.TrodAll enc P W' 0 sp true ts vs ds ps
  | [], [], [], _, _, h, _, _ => h
  | t :: ts, _ :: _, _ :: _, _, hT, ⟨p, q, h1, h2, e⟩, hlt, hs => by
    simp only [List.all_cons, Bool.and_eq_true, decide_eq_true_eq] at hT
    obtain ⟨⟨r1, r2⟩, r3⟩ := hT
    refine ⟨p, q, WideElems.Trod_stays hl r1 r2 h1 (fun x hx => hb.same (hlt x (by rw [e]; exact List.mem_append_left _ hx))) (fun x hx => hs x (by rw [e]; exact List.mem_append_left _ hx)), ?_, e⟩
    exact stays_all hl hb (by simpa using r3) h2 (fun x hx => hlt x (by rw [e]; exact List.mem_append_right _ hx)) (fun x hx => hs x (by rw [e]; exact List.mem_append_right _ hx))

/-- true, and the arguments as they were -/
theorem law_post {f : Func} {s : ChangeSpec} {apart fresh handsOn again : Bool} {tb : TypeId} {W W' : World} {args : Array Value} {ds : List (DataW H0)} {before : List MemPlace}
    (hl : laidOutB P = true) (hpar : (f.params.toList.all fun t => P.readableRec t && decide (t < P.types.size)) = true) (hv : s.vars = []) (hrt : f.resultTypes = #[tb]) (htb : P.underlying tb = some .bool)
    (hW : DataW.Whole enc P f.params.toList s.vars apart W args.toList ds [] before) (hb : Below W.heap.size W W')
    (hfn : s.fn H0 (ds ++ []) = { results := [.lit (.bool true)], args := ds }) : s.post enc P f apart fresh handsOn again W args (.bool true) W' := by
  have hW' := hW
  obtain ⟨p, q, hA, hV, hpq, hfz, hnd⟩ := hW
  rw [hv] at hV
  obtain ⟨_, rfl⟩ := trodVars_none hV
  have lt : ∀ x ∈ p, x.block < W.heap.size := fun x hx => hW'.lt x (by rw [hpq]; exact List.mem_append_left _ hx)
  refine post_old (pa := p) (pv := []) hb hpq hW' (fun b sp hd => ?_) (fun sp hsp => ?_) (fun sp hsp => ?_) (ok_one hrt rfl (okWide_bool_mk htb true))
  · rw [hfn, hrt]; exact trodAll_cons_mk (shut_bool htb _) trodAll_mk0
  · rw [hfn]; exact stays_all hl hb hpar hA lt (fun x hx => hsp x (by rw [hpq]; exact List.mem_append_left _ hx))
  · rw [hfn, hv]; rfl
end

/-! ### How arguments read -/
def icsk (k : IntKind) (n : Int) : List Value := [.int k n]
theorem icsk_len (k : IntKind) (n : Int) : (icsk k n).length = 1 := rfl
theorem spot_of_cell {w : World} {a : Addr} {v : Value} (h : w.cell? a = some v) : a = ⟨a.block, a.off, none⟩ ∧ CellAt (fun b => w.heap[b]?) a.block a.off v := by
  obtain ⟨b, o, s⟩ := a
  unfold World.cell? at h
  simp only at h
  split at h
  · rename_i cs t fr hh
    cases s with
    | none => exact ⟨rfl, cs, t, fr, hh, by simpa using h⟩
    | some s => simp at h
  · cases h
section
variable {H0 : Type} {enc : TypeId × Value → H0} {P : Program} {W : World} {base : Nat}
/-- a slice of integers -/
theorem arg_ints {t e : TypeId} {k : IntKind} {v : Value} {d : DataW H0} {ps : List MemPlace} {r : Reach} {b0 : Nat} (ht : P.underlying t = some (.slice e)) (he : P.underlying e = some (.int k)) (hc : P.cellsOf e = 1)
    (hv : Value.okWide P W r b0 t v) (h : DataW.Trod enc P W 0 (fun _ => true) true t v d ps) :
    ∃ xs : List Int, Row (fun b => W.heap[b]?) v 1 xs.length (xs.flatMap (icsk k)) ∧ (∀ x ∈ xs, (Lit.int k x).wf = true) ∧ ((d = .nil ∧ xs = []) ∨ ∃ spare, d = .slice (lits k xs) spare) := by
  obtain ⟨a0, len, cap, rfl⟩ := okWide_slice ht hv
  obtain ⟨fuel, hf⟩ := h
  rcases open_ints ht he hc hf with ⟨hcs, hx⟩ | ⟨a, len', cap', zs, hcs, _, hl, hm, hz, hx, hcell, hwz⟩
  · simp only [Value.cells, List.cons.injEq, Value.slice.injEq, and_true] at hcs
    obtain ⟨rfl, rfl, rfl⟩ := hcs
    cases hx
    exact ⟨[], Row.nil _ _, by simp, .inl ⟨rfl, rfl⟩⟩
  · simp only [Value.cells, List.cons.injEq, Value.slice.injEq, and_true] at hcs
    obtain ⟨rfl, rfl, rfl⟩ := hcs
    simp only [if_true] at hz
    have hlen : (zs.take len).length = len := by rw [List.length_take]; omega
    refine ⟨zs.take len, ?_, fun x hx' => hwz x (List.mem_of_mem_take hx'), .inr ⟨lits k (zs.drop len), by cases hx; rfl⟩⟩
    rw [hlen]
    refine ⟨by rw [flat_length (icsk_len k), hlen], some a, cap, rfl, hl, hm, fun h => (by cases h), fun hpos => ?_⟩
    have h0 := hcell 0 (by omega)
    rw [show a.add 0 = a by simp [Addr.add]] at h0
    have ha := (spot_of_cell h0).1
    refine ⟨a.block, a.off, by rw [← ha], fun j u hj => ?_⟩
    have hj' : j < len := by
      have := (List.getElem?_eq_some_iff.1 hj).1
      rw [flat_length (icsk_len k), hlen] at this; omega
    obtain ⟨z, hzj⟩ : ∃ z, (zs.take len)[j]? = some z := ⟨_, List.getElem?_eq_getElem (by omega)⟩
    have hu := flat_get (icsk_len k) (zs.take len) [] j z hzj 0 (.int k z) rfl
    rw [List.append_nil, Nat.mul_one, Nat.add_zero] at hu
    rw [hu] at hj
    cases hj
    have hc2 := (spot_of_cell (hcell j (by omega))).2
    rw [addr_block, addr_off] at hc2
    have : zs.getD j 0 = z := by
      rw [List.getElem?_take, if_pos hj'] at hzj
      simp [List.getD, hzj]
    rw [this] at hc2
    exact hc2
/-- a slice of structs of two integers -/
def vnum : Value → Int
  | .int _ n => n
  | _ => 0
def pcs (k0 k1 : IntKind) (o : Int × Int) : List Value := [.int k0 o.1, .int k1 o.2]
theorem pcs_len (k0 k1 : IntKind) (o : Int × Int) : (pcs k0 k1 o).length = 2 := rfl
theorem arg_int_pairs {t e : TypeId} {f0 f1 : Field} {k0 k1 : IntKind} {v : Value} {d : DataW H0} {ps : List MemPlace} {r : Reach} {b0 : Nat} (ht : P.underlying t = some (.slice e)) (he : P.underlying e = some (.struct #[f0, f1]))
    (ce : P.cellsOf e = 2) (o0 : f0.offset = 0) (o1 : f1.offset = 1) (c0 : P.cellsOf f0.type = 1) (c1 : P.cellsOf f1.type = 1) (u0 : P.underlying f0.type = some (.int k0)) (u1 : P.underlying f1.type = some (.int k1))
    (hv : Value.okWide P W r b0 t v) (h : DataW.Trod enc P W 0 (fun _ => true) true t v d ps) :
    ∃ xs : List (Int × Int), Row (fun b => W.heap[b]?) v 2 xs.length (xs.flatMap (pcs k0 k1)) ∧ ((d = .nil ∧ xs = []) ∨ ∃ elems spare, d = .slice elems spare ∧ elems.length = xs.length) := by
  obtain ⟨a0, len, cap, rfl⟩ := okWide_slice ht hv
  obtain ⟨fuel, hf⟩ := h
  rcases Go.Deep.open_slice_pairs ht he ce o0 o1 c0 c1 hf with ⟨hcs, hx⟩ | ⟨a, len', cap', m, n, V0, V1, D0, D1, P0, P1, hcs, _, hl, hm, hmm, hx, hi⟩
  · simp only [Value.cells, List.cons.injEq, Value.slice.injEq, and_true] at hcs
    obtain ⟨rfl, rfl, rfl⟩ := hcs
    cases hx
    exact ⟨[], Row.nil _ _, .inl ⟨rfl, rfl⟩⟩
  · simp only [Value.cells, List.cons.injEq, Value.slice.injEq, and_true] at hcs
    obtain ⟨rfl, rfl, rfl⟩ := hcs
    simp only [if_true] at hmm
    have e0 : ∀ i, i < m → V0 i = .int k0 (vnum (V0 i)) := fun i him => by
      obtain ⟨_, _, h3, _⟩ := hi i him
      obtain ⟨x, hx0, _⟩ := DataW.trod_int u0 h3
      simp only [List.cons.injEq, and_true] at hx0
      rw [hx0]; rfl
    have e1 : ∀ i, i < m → V1 i = .int k1 (vnum (V1 i)) := fun i him => by
      obtain ⟨_, _, _, h4⟩ := hi i him
      obtain ⟨x, hx0, _⟩ := DataW.trod_int u1 h4
      simp only [List.cons.injEq, and_true] at hx0
      rw [hx0]; rfl
    refine ⟨(List.range len).map fun i => (vnum (V0 i), vnum (V1 i)), ?_, .inr ⟨_, _, by cases hx; rfl, by simp⟩⟩
    have hlen : ((List.range len).map fun i => (vnum (V0 i), vnum (V1 i))).length = len := by simp
    rw [hlen]
    refine ⟨by rw [flat_length (pcs_len k0 k1), hlen], some a, cap, rfl, hl, hm, fun h => (by cases h), fun hpos => ?_⟩
    have h0 := (hi 0 (by omega)).1
    rw [show a.add (0 * 2) = a by simp [Addr.add]] at h0
    have ha := (spot_of_cell h0).1
    refine ⟨a.block, a.off, by rw [← ha], fun j u hj => ?_⟩
    have hj2 : j < len * 2 := by
      have := (List.getElem?_eq_some_iff.1 hj).1
      rw [flat_length (pcs_len k0 k1), hlen] at this; omega
    have hjm : j / 2 < m := by omega
    obtain ⟨h1, h2, _, _⟩ := hi (j / 2) hjm
    have hg : ((List.range len).map fun i => (vnum (V0 i), vnum (V1 i)))[j / 2]? = some (vnum (V0 (j / 2)), vnum (V1 (j / 2))) := by
      rw [List.getElem?_map, List.getElem?_range (by omega)]; rfl
    have hmod : j % 2 = 0 ∨ j % 2 = 1 := by omega
    rcases hmod with hm0 | hm1
    · have hu := flat_get (pcs_len k0 k1) _ [] (j / 2) _ hg 0 (.int k0 (vnum (V0 (j / 2)))) rfl
      rw [List.append_nil, Nat.add_zero, show j / 2 * 2 = j by omega] at hu
      rw [hu] at hj
      cases hj
      rw [e0 _ hjm, show j / 2 * 2 = j by omega] at h1
      have hc2 := (spot_of_cell h1).2
      rw [addr_block, addr_off] at hc2
      exact hc2
    · have hu := flat_get (pcs_len k0 k1) _ [] (j / 2) _ hg 1 (.int k1 (vnum (V1 (j / 2)))) rfl
      rw [List.append_nil, show j / 2 * 2 + 1 = j by omega] at hu
      rw [hu] at hj
      cases hj
      rw [e1 _ hjm, show j / 2 * 2 + 1 = j by omega] at h2
      have hc2 := (spot_of_cell h2).2
      rw [addr_block, addr_off] at hc2
      exact hc2
end
end SX
namespace SX
open Go Go.RowKit Go.WideShapes Go.ChangeShapes Go.Deep

section
variable {H0 : Type} {enc : TypeId × Value → H0} {P : Program} {W : World}
/-- the cells of a slice, element by element -/
theorem trod_slice {α : Type} [Inhabited α] {f : α → List Value} {n : Nat} (hn : 0 < n) (hf : ∀ a, (f a).length = n) (R : α → DataW H0 → Prop) {t e : TypeId} (ht : P.underlying t = some (.slice e)) (hc : P.cellsOf e = n)
    (hel : ∀ fuel cs D Pl, DataW.trod enc P W 0 (fun _ => true) true fuel e cs = some (D, Pl) → ∃ a, cs = f a ∧ R a D)
    {fuel : Nat} {cs : List Value} {d : DataW H0} {ps : List MemPlace} (h : DataW.trod enc P W 0 (fun _ => true) true fuel t cs = some (d, ps)) :
    ∃ (v : Value) (xs : List α), cs = [v] ∧ Row (fun b => W.heap[b]?) v n xs.length (xs.flatMap f) ∧ ((d = .nil ∧ xs = []) ∨ ∃ (Ds sp : List (DataW H0)), d = .slice Ds sp ∧ Ds.length = xs.length ∧ ∀ (i : Nat) (a : α) (D : DataW H0), xs[i]? = some a → Ds[i]? = some D → R a D) := by
  rcases open_slice ht h with ⟨rfl, hx⟩ | ⟨a, len, cap, m, n', D, Pl, rfl, _, hl, hm, hmm, hx, hall⟩
  · cases hx
    exact ⟨_, [], rfl, Row.nil _ _, .inl ⟨rfl, rfl⟩⟩
  simp only [if_true] at hmm
  subst hmm
  cases hx
  obtain ⟨A, hA⟩ := choose_lt (α := α) (n := m) (p := fun i x => W.cells? 0 (a.add (i * P.cellsOf e)) (P.cellsOf e) = some (f x) ∧ R x (D i)) (fun i hi => by
    obtain ⟨cs', h1, h2⟩ := hall i hi
    obtain ⟨a', rfl, hR⟩ := hel _ _ _ _ h2
    exact ⟨a', h1, hR⟩)
  have hlen : ((List.range len).map A).length = len := by simp
  have hcell : ∀ i j v, i < m → (f (A i))[j]? = some v → W.cell? (a.add (i * n + j)) = some v := by
    intro i j v hi hv
    obtain ⟨h2, _⟩ := hA i hi
    obtain ⟨_, _, h3⟩ := World.cells?_some h2
    have hj : j < (f (A i)).length := (List.getElem?_eq_some_iff.1 hv).1
    rw [hf] at hj
    have := h3 j (by rw [hc]; exact hj)
    rw [hc] at this
    have e : (a.add (i * n)).add j = a.add (i * n + j) := by
      obtain ⟨b, o, s⟩ := a
      unfold Addr.add
      split <;> split <;> simp_all [Nat.add_assoc]
    rw [e] at this
    rw [this]; exact hv
  refine ⟨_, (List.range len).map A, rfl, ?_, .inr ⟨_, _, rfl, by simp, fun i a' D' hi hD => ?_⟩⟩
  · rw [hlen]
    refine ⟨by rw [flat_length hf, hlen], some a, m, rfl, hl, hm, fun h => (by cases h), fun hpos => ?_⟩
    obtain ⟨v0, hv0⟩ : ∃ v, (f (A 0))[0]? = some v := ⟨_, List.getElem?_eq_getElem (by rw [hf]; exact hn)⟩
    have h0 := hcell 0 0 v0 (by omega) hv0
    rw [Nat.zero_mul, Nat.zero_add, show a.add 0 = a by simp [Addr.add]] at h0
    have ha := (spot_of_cell h0).1
    refine ⟨a.block, a.off, by rw [← ha], fun j u hj => ?_⟩
    have hj2 : j < len * n := by
      have := (List.getElem?_eq_some_iff.1 hj).1
      rwa [flat_length hf, hlen] at this
    have hq : j / n < len := Nat.div_lt_of_lt_mul (by rw [Nat.mul_comm]; exact hj2)
    have hr : j % n < n := Nat.mod_lt _ hn
    have hg : ((List.range len).map A)[j / n]? = some (A (j / n)) := by rw [List.getElem?_map, List.getElem?_range hq]; rfl
    obtain ⟨v, hv⟩ : ∃ v, (f (A (j / n)))[j % n]? = some v := ⟨_, List.getElem?_eq_getElem (by rw [hf]; exact hr)⟩
    have hu := flat_get hf _ [] (j / n) _ hg (j % n) v hv
    rw [List.append_nil, Nat.div_add_mod'] at hu
    rw [hu] at hj
    cases hj
    have hc2 := (spot_of_cell (hcell (j / n) (j % n) _ (by omega) hv)).2
    rw [addr_block, addr_off, Nat.div_add_mod'] at hc2
    exact hc2
  · have hi' : i < len := by
      have := (List.getElem?_eq_some_iff.1 hi).1
      simpa using this
    simp [hi'] at hi hD
    subst hi hD
    exact (hA i (by omega)).2

theorem wf_u8 {x : Int} (h : (Lit.int .u8 x).wf = true) : 0 ≤ x ∧ x ≤ 255 := by
  simp only [Lit.wf, Bool.and_eq_true, decide_eq_true_eq] at h
  exact h
theorem wf_u16 {x : Int} (h : (Lit.int .u16 x).wf = true) : 0 ≤ x ∧ x ≤ 65535 := by
  simp only [Lit.wf, Bool.and_eq_true, decide_eq_true_eq] at h
  exact h
theorem wf_u32 {x : Int} (h : (Lit.int .u32 x).wf = true) : 0 ≤ x ∧ x ≤ 4294967295 := by
  simp only [Lit.wf, Bool.and_eq_true, decide_eq_true_eq] at h
  exact h
theorem wf_i64 {x : Int} (h : (Lit.int .i64 x).wf = true) : -9223372036854775808 ≤ x ∧ x ≤ 9223372036854775807 := by
  simp only [Lit.wf, Bool.and_eq_true, decide_eq_true_eq] at h
  exact h
def bcsv (b : Bool) : List Value := [.bool b]
theorem bcsv_len (b : Bool) : (bcsv b).length = 1 := rfl
/-- a slice of bools -/
theorem arg_bools {t e : TypeId} {v : Value} {d : DataW H0} {ps : List MemPlace} {r : Reach} {b0 : Nat} (ht : P.underlying t = some (.slice e)) (he : P.underlying e = some .bool) (hc : P.cellsOf e = 1)
    (hv : Value.okWide P W r b0 t v) (h : DataW.Trod enc P W 0 (fun _ => true) true t v d ps) :
    ∃ xs : List Bool, Row (fun b => W.heap[b]?) v 1 xs.length (xs.flatMap bcsv) ∧ ((d = .nil ∧ xs = []) ∨ ∃ (Ds sp : List (DataW H0)), d = .slice Ds sp ∧ Ds.length = xs.length) := by
  obtain ⟨a0, len, cap, rfl⟩ := okWide_slice ht hv
  obtain ⟨fuel, hf⟩ := h
  obtain ⟨v', xs, hcs, hrow, hd⟩ := trod_slice (f := bcsv) (by decide) bcsv_len (fun _ _ => True) ht hc (fun fuel cs D Pl h => by
    obtain ⟨b, rfl, _⟩ := DataW.trod_bool he h
    exact ⟨b, rfl, trivial⟩) hf
  simp only [Value.cells, List.cons.injEq, and_true] at hcs
  subst hcs
  exact ⟨xs, hrow, hd.imp id fun ⟨Ds, sp, h1, h2, _⟩ => ⟨Ds, sp, h1, h2⟩⟩
def scsv (s : ByteArray) : List Value := [.string s]
theorem scsv_len (s : ByteArray) : (scsv s).length = 1 := rfl
/-- a slice of texts -/
theorem arg_strings {t e : TypeId} {v : Value} {d : DataW H0} {ps : List MemPlace} {r : Reach} {b0 : Nat} (ht : P.underlying t = some (.slice e)) (he : P.underlying e = some .string) (hc : P.cellsOf e = 1)
    (hv : Value.okWide P W r b0 t v) (h : DataW.Trod enc P W 0 (fun _ => true) true t v d ps) :
    ∃ xs : List ByteArray, Row (fun b => W.heap[b]?) v 1 xs.length (xs.flatMap scsv) ∧ (∀ x ∈ xs, x.size ≤ maxLen) ∧ ((d = .nil ∧ xs = []) ∨ ∃ (Ds sp : List (DataW H0)), d = .slice Ds sp ∧ Ds.length = xs.length) := by
  obtain ⟨a0, len, cap, rfl⟩ := okWide_slice ht hv
  obtain ⟨fuel, hf⟩ := h
  obtain ⟨v', xs, hcs, hrow, hd⟩ := trod_slice (f := scsv) (by decide) scsv_len (fun s _ => s.size ≤ maxLen) ht hc (fun fuel cs D Pl h => by
    obtain ⟨b, rfl, _, hl⟩ := DataW.trod_string he h
    exact ⟨b, rfl, hl⟩) hf
  simp only [Value.cells, List.cons.injEq, and_true] at hcs
  subst hcs
  refine ⟨xs, hrow, fun x hx => ?_, hd.imp id fun ⟨Ds, sp, h1, h2, _⟩ => ⟨Ds, sp, h1, h2⟩⟩
  rcases hd with ⟨_, rfl⟩ | ⟨Ds, sp, h1, h2, h3⟩
  · cases hx
  · obtain ⟨i, hi⟩ := List.getElem?_of_mem hx
    have hlt := (List.getElem?_eq_some_iff.1 hi).1
    exact h3 i x Ds[i] hi (List.getElem?_eq_getElem (by omega))
/-- a slice of slices of integers -/
def gcs (a : Value × List Int) : List Value := [a.1]
theorem gcs_len (a : Value × List Int) : (gcs a).length = 1 := rfl
instance : Inhabited (Value × List Int) := ⟨(.bool false, [])⟩
theorem arg_graph {t e q : TypeId} {k : IntKind} {v : Value} {d : DataW H0} {ps : List MemPlace} {r : Reach} {b0 : Nat} (ht : P.underlying t = some (.slice e)) (he : P.underlying e = some (.slice q)) (hq : P.underlying q = some (.int k)) (hc : P.cellsOf e = 1) (hcq : P.cellsOf q = 1)
    (hv : Value.okWide P W r b0 t v) (h : DataW.Trod enc P W 0 (fun _ => true) true t v d ps) :
    ∃ xs : List (Value × List Int), Row (fun b => W.heap[b]?) v 1 xs.length (xs.flatMap gcs) ∧
      (∀ x ∈ xs, Row (fun b => W.heap[b]?) x.1 1 x.2.length (x.2.flatMap (icsk k)) ∧ ∀ y ∈ x.2, (Lit.int k y).wf = true) ∧
      ((d = .nil ∧ xs = []) ∨ ∃ (Ds sp : List (DataW H0)), d = .slice Ds sp ∧ Ds.length = xs.length ∧ ∀ (i : Nat) (a : Value × List Int) (D : DataW H0), xs[i]? = some a → Ds[i]? = some D → (D = .nil ∧ a.2 = []) ∨ ∃ (Ds sp : List (DataW H0)), D = .slice Ds sp ∧ Ds.length = a.2.length) := by
  obtain ⟨a0, len, cap, rfl⟩ := okWide_slice ht hv
  obtain ⟨fuel, hf⟩ := h
  obtain ⟨v', xs, hcs, hrow, hd⟩ := trod_slice (f := gcs) (by decide) gcs_len (fun x D => (Row (fun b => W.heap[b]?) x.1 1 x.2.length (x.2.flatMap (icsk k)) ∧ ∀ y ∈ x.2, (Lit.int k y).wf = true) ∧ ((D = .nil ∧ x.2 = []) ∨ ∃ (Ds sp : List (DataW H0)), D = .slice Ds sp ∧ Ds.length = x.2.length)) ht hc (fun fuel cs D Pl h => by
    obtain ⟨v2, ys, rfl, hr2, hd2⟩ := trod_slice (f := icsk k) (by decide) (icsk_len k) (fun y _ => (Lit.int k y).wf = true) he hcq (fun fuel cs D Pl h => by
      obtain ⟨y, rfl, _, hw⟩ := DataW.trod_int hq h
      exact ⟨y, rfl, hw⟩) h
    refine ⟨(v2, ys), rfl, ⟨hr2, fun y hy => ?_⟩, hd2.imp id fun ⟨Ds, sp, h1, h2, _⟩ => ⟨Ds, sp, h1, h2⟩⟩
    rcases hd2 with ⟨_, rfl⟩ | ⟨Ds, sp, h1, h2, h3⟩
    · cases hy
    · obtain ⟨i, hi⟩ := List.getElem?_of_mem hy
      have hlt := (List.getElem?_eq_some_iff.1 hi).1
      have h2' : Ds.length = ys.length := h2
      have hlt' : i < ys.length := hlt
      exact h3 i y (Ds[i]'(by omega)) hi (List.getElem?_eq_getElem (by omega))) hf
  simp only [Value.cells, List.cons.injEq, and_true] at hcs
  subst hcs
  refine ⟨xs, hrow, fun x hx => ?_, hd.imp id fun ⟨Ds, sp, h1, h2, h3⟩ => ⟨Ds, sp, h1, h2, fun i a D ha hD => (h3 i a D ha hD).2⟩⟩
  rcases hd with ⟨_, rfl⟩ | ⟨Ds, sp, h1, h2, h3⟩
  · cases hx
  · obtain ⟨i, hi⟩ := List.getElem?_of_mem hx
    have hlt := (List.getElem?_eq_some_iff.1 hi).1
    exact (h3 i x Ds[i] hi (List.getElem?_eq_getElem (by omega))).1
end
end SX
namespace Hp

/-- asymmetric, and 'not ahead' goes on -/
structure Ord {β : Type} (ah : β → β → Bool) : Prop where
  asym : ∀ a b, ah a b = true → ah b a = false
  trans : ∀ a b c, ah b a = false → ah c b = false → ah c a = false

section
variable {β : Type} {ah : β → β → Bool}
theorem Ord.irrefl (h : Ord ah) (a : β) : ah a a = false := by
  cases e : ah a a with
  | false => rfl
  | true => exact (h.asym a a e).symm.trans e |>.symm ▸ rfl

def up (ah : β → β → Bool) : Nat → List β → Nat → List β
  | 0, es, _ => es
  | f + 1, es, i => if i = 0 then es else match es[i]?, es[(i - 1) / 2]? with
    | some a, some b => if ah a b then up ah f ((es.set i b).set ((i - 1) / 2) a) ((i - 1) / 2) else es
    | _, _ => es

def better (ah : β → β → Bool) (es : List β) (k i : Nat) : Nat := match es[k]?, es[i]? with
  | some a, some b => if ah a b then k else i
  | _, _ => i
def best (ah : β → β → Bool) (es : List β) (i : Nat) : Nat := better ah es (2 * i + 2) (better ah es (2 * i + 1) i)
def down (ah : β → β → Bool) : Nat → List β → Nat → List β
  | 0, es, _ => es
  | f + 1, es, i => if best ah es i = i then es else match es[i]?, es[best ah es i]? with
    | some a, some b => down ah f ((es.set i b).set (best ah es i) a) (best ah es i)
    | _, _ => es

def Heap (ah : β → β → Bool) (es : List β) : Prop := ∀ i a p, 0 < i → es[i]? = some a → es[(i - 1) / 2]? = some p → ah a p = false
/-- a heap but at i, which may stand too low -/
def HU (ah : β → β → Bool) (es : List β) (i : Nat) : Prop :=
  (∀ j a p, 0 < j → j ≠ i → es[j]? = some a → es[(j - 1) / 2]? = some p → ah a p = false) ∧
  (∀ j a p, 0 < j → 0 < i → (j - 1) / 2 = i → es[j]? = some a → es[(i - 1) / 2]? = some p → ah a p = false)
/-- a heap but at i, which may stand too high -/
def HD (ah : β → β → Bool) (es : List β) (i : Nat) : Prop :=
  (∀ j a p, 0 < j → (j - 1) / 2 ≠ i → es[j]? = some a → es[(j - 1) / 2]? = some p → ah a p = false) ∧
  (∀ j a p, 0 < j → 0 < i → (j - 1) / 2 = i → es[j]? = some a → es[(i - 1) / 2]? = some p → ah a p = false)

theorem get_swap (es : List β) {i p : Nat} {a b : β} (ha : es[i]? = some a) (hb : es[p]? = some b) (_ : i ≠ p) (j : Nat) :
    ((es.set i b).set p a)[j]? = if j = p then some a else if j = i then some b else es[j]? := by
  have hi : i < es.length := (List.getElem?_eq_some_iff.1 ha).1
  have hp : p < es.length := (List.getElem?_eq_some_iff.1 hb).1
  rw [List.getElem?_set]
  by_cases h1 : p = j
  · subst h1; simp [hp]
  · rw [if_neg h1, if_neg (Ne.symm h1), List.getElem?_set]
    by_cases h2 : i = j
    · subst h2; simp [hi]
    · rw [if_neg h2, if_neg (Ne.symm h2)]

theorem swap_perm (es : List β) {i p : Nat} {a b : β} (ha : es[i]? = some a) (hb : es[p]? = some b) (_ : i ≠ p) : ((es.set i b).set p a).Perm es := by
  have hi : i < es.length := (List.getElem?_eq_some_iff.1 ha).1
  have hp : p < es.length := (List.getElem?_eq_some_iff.1 hb).1
  have ea : es[i] = a := (List.getElem?_eq_some_iff.1 ha).2
  have eb : es[p] = b := (List.getElem?_eq_some_iff.1 hb).2
  subst ea; subst eb
  exact List.set_set_perm hi hp

theorem up_zero (f : Nat) (es : List β) : up ah f es 0 = es := by cases f <;> simp [up]
theorem up_enough : ∀ (f g : Nat) (es : List β) (i : Nat), i ≤ f → i ≤ g → up ah f es i = up ah g es i
  | 0, g, es, i, hf, _ => by
    obtain rfl : i = 0 := by omega
    rw [up_zero, up_zero]
  | f + 1, 0, es, i, _, hg => by
    obtain rfl : i = 0 := by omega
    rw [up_zero, up_zero]
  | f + 1, g + 1, es, i, hf, hg => by
    unfold up
    by_cases hi : i = 0
    · rw [if_pos hi, if_pos hi]
    · rw [if_neg hi, if_neg hi]
      cases es[i]? with
      | none => rfl
      | some a => cases es[(i - 1) / 2]? with
        | none => rfl
        | some b =>
          simp only []
          cases ah a b with
          | false => rfl
          | true => exact up_enough f g _ _ (by omega) (by omega)
theorem up_stop {f : Nat} {es : List β} {i : Nat} {a b : β} (ha : es[i]? = some a) (hb : es[(i - 1) / 2]? = some b) (h : ah a b = false) : up ah f es i = es := by
  cases f with
  | zero => rfl
  | succ f =>
    unfold up
    split
    · rfl
    · rw [ha, hb]; simp [h]
theorem up_step {es : List β} {i : Nat} {a b : β} (hi : 0 < i) (ha : es[i]? = some a) (hb : es[(i - 1) / 2]? = some b) (h : ah a b = true) :
    up ah i es i = up ah ((i - 1) / 2) ((es.set i b).set ((i - 1) / 2) a) ((i - 1) / 2) := by
  obtain ⟨k, rfl⟩ : ∃ k, i = k + 1 := ⟨i - 1, by omega⟩
  conv => lhs; unfold up
  rw [if_neg (by omega), ha, hb]
  simp only [h, if_true]
  exact up_enough _ _ _ _ (by omega) (Nat.le_refl _)
theorem up_perm (f : Nat) : ∀ (es : List β) (i : Nat), (up ah f es i).Perm es := by
  induction f with
  | zero => exact fun _ _ => .refl _
  | succ f ih =>
    intro es i
    unfold up
    split
    · exact .refl _
    · rename_i hi
      split
      · rename_i a b ha hb
        split
        · exact (ih _ _).trans (swap_perm es ha hb (by omega))
        · exact .refl _
      · exact .refl _

theorem up_heap (o : Ord ah) (f : Nat) : ∀ (es : List β) (i : Nat), i ≤ f → HU ah es i → Heap ah (up ah f es i) := by
  induction f with
  | zero =>
    intro es i hi h j a p hj ha hp
    obtain rfl : i = 0 := by omega
    exact h.1 j a p hj (by omega) ha hp
  | succ f ih =>
    intro es i hif h
    unfold up
    split
    · rename_i hi
      subst hi
      intro j a p hj ha hp
      exact h.1 j a p hj (by omega) ha hp
    · rename_i hi
      split
      · rename_i a b ha hb
        have hne : i ≠ (i - 1) / 2 := by omega
        split
        · rename_i hab
          have g := get_swap es ha hb hne
          refine ih _ _ (by omega) ⟨?_, ?_⟩
          · intro j x y hj hjp hx hy
            rw [g] at hx hy
            rw [if_neg hjp] at hx
            by_cases hji : j = i
            · subst hji
              rw [if_pos rfl] at hx hy
              cases hx; cases hy
              exact o.asym _ _ hab
            · rw [if_neg hji] at hx
              by_cases hpi : (j - 1) / 2 = i
              · rw [if_neg (by omega), if_pos hpi] at hy
                cases hy
                exact h.2 j x b hj (by omega) hpi hx hb
              · by_cases hpp : (j - 1) / 2 = (i - 1) / 2
                · rw [if_pos hpp] at hy
                  cases hy
                  exact o.trans a b x (o.asym _ _ hab) (h.1 j x b hj hji hx (by rw [hpp]; exact hb))
                · rw [if_neg hpp, if_neg hpi] at hy
                  exact h.1 j x y hj hji hx hy
          · intro j x y hj hp0 hjp hx hy
            rw [g] at hx hy
            rw [if_neg (by omega), if_neg (by omega)] at hy
            rw [if_neg (by omega)] at hx
            have hby : ah b y = false := h.1 ((i - 1) / 2) b y hp0 (by omega) hb hy
            by_cases hji : j = i
            · rw [if_pos hji] at hx
              cases hx; exact hby
            · rw [if_neg hji] at hx
              exact o.trans y b x hby (h.1 j x b hj hji hx (by rw [hjp]; exact hb))
        · rename_i hab
          intro j x y hj hx hy
          by_cases hji : j = i
          · subst hji
            rw [ha] at hx; rw [hb] at hy
            cases hx; cases hy
            simpa using hab
          · exact h.1 j x y hj hji hx hy
      · rename_i hno
        intro j x y hj hx hy
        by_cases hji : j = i
        · subst hji; exact (hno x y hx hy).elim
        · exact h.1 j x y hj hji hx hy

theorem better_cases (es : List β) (k i : Nat) : (better ah es k i = i ∧ ∀ a b, es[k]? = some a → es[i]? = some b → ah a b = false) ∨
    (better ah es k i = k ∧ ∃ a b, es[k]? = some a ∧ es[i]? = some b ∧ ah a b = true) := by
  unfold better
  cases ha : es[k]? with
  | none => exact .inl ⟨rfl, fun _ _ h => by cases h⟩
  | some a =>
    cases hb : es[i]? with
    | none => exact .inl ⟨rfl, fun _ _ _ h => by cases h⟩
    | some b =>
      cases h : ah a b with
      | true => exact .inr ⟨by simp [h], a, b, rfl, rfl, h⟩
      | false => exact .inl ⟨by simp [h], fun x y hx hy => by cases hx; cases hy; exact h⟩

/-- the best of i and its children: no child is ahead of it; it is i or a child that is ahead of i -/
theorem best_spec (o : Ord ah) (es : List β) (i : Nat) {c : β} (hi : es[i]? = some c) :
    ∃ m, es[best ah es i]? = some m ∧ (∀ j a, j = 2 * i + 1 ∨ j = 2 * i + 2 → es[j]? = some a → ah a m = false) ∧
      ((best ah es i = i ∧ m = c) ∨ ((best ah es i = 2 * i + 1 ∨ best ah es i = 2 * i + 2) ∧ ah m c = true)) := by
  unfold best
  rcases better_cases (ah := ah) es (2 * i + 1) i with ⟨e1, h1⟩ | ⟨e1, a, b, ha, hb, h1⟩
  · rw [e1]
    rcases better_cases (ah := ah) es (2 * i + 2) i with ⟨e2, h2⟩ | ⟨e2, a, b, ha, hb, h2⟩
    · rw [e2]
      exact ⟨c, hi, fun j x hj hx => by
        rcases hj with rfl | rfl
        · exact h1 x c hx hi
        · exact h2 x c hx hi, .inl ⟨rfl, rfl⟩⟩
    · rw [e2]
      have : b = c := Option.some.inj (hb.symm.trans hi)
      subst this
      exact ⟨a, ha, fun j x hj hx => by
        rcases hj with rfl | rfl
        · exact o.trans a b x (o.asym _ _ h2) (h1 x b hx hi)
        · have : x = a := Option.some.inj (hx.symm.trans ha)
          subst this; exact o.irrefl x, .inr ⟨.inr rfl, h2⟩⟩
  · rw [e1]
    have : b = c := Option.some.inj (hb.symm.trans hi)
    subst this
    rcases better_cases (ah := ah) es (2 * i + 2) (2 * i + 1) with ⟨e2, h2⟩ | ⟨e2, a', b', ha', hb', h2⟩
    · rw [e2]
      exact ⟨a, ha, fun j x hj hx => by
        rcases hj with rfl | rfl
        · have : x = a := Option.some.inj (hx.symm.trans ha)
          subst this; exact o.irrefl x
        · exact h2 x a hx ha, .inr ⟨.inl rfl, h1⟩⟩
    · rw [e2]
      have : b' = a := Option.some.inj (hb'.symm.trans ha)
      subst this
      refine ⟨a', ha', fun j x hj hx => ?_, .inr ⟨.inr rfl, ?_⟩⟩
      · rcases hj with rfl | rfl
        · have : x = b' := Option.some.inj (hx.symm.trans ha)
          subst this; exact o.asym _ _ h2
        · have : x = a' := Option.some.inj (hx.symm.trans ha')
          subst this; exact o.irrefl x
      · cases hc : ah a' b with
        | true => rfl
        | false => exact (o.trans b a' b' hc (o.asym _ _ h2)).symm.trans h1 |>.symm ▸ rfl

theorem down_enough : ∀ (f g : Nat) (es : List β) (i : Nat), es.length ≤ f + i → es.length ≤ g + i → down ah f es i = down ah g es i := by
  intro f
  induction f with
  | zero =>
    intro g es i hf hg
    cases g with
    | zero => rfl
    | succ g =>
      have hn : es[i]? = none := List.getElem?_eq_none_iff.2 (by omega)
      have hb : best ah es i = i := by
        have h1 : es[2 * i + 1]? = none := List.getElem?_eq_none_iff.2 (by omega)
        have h2 : es[2 * i + 2]? = none := List.getElem?_eq_none_iff.2 (by omega)
        simp [best, better, h1, h2]
      simp [down, hb]
  | succ f ih =>
    intro g es i hf hg
    cases g with
    | zero =>
      have hb : best ah es i = i := by
        have h1 : es[2 * i + 1]? = none := List.getElem?_eq_none_iff.2 (by omega)
        have h2 : es[2 * i + 2]? = none := List.getElem?_eq_none_iff.2 (by omega)
        simp [best, better, h1, h2]
      simp [down, hb]
    | succ g =>
      unfold down
      by_cases hb : best ah es i = i
      · rw [if_pos hb, if_pos hb]
      · rw [if_neg hb, if_neg hb]
        have hgt : i < best ah es i := by
          unfold best
          rcases better_cases (ah := ah) es (2 * i + 1) i with ⟨e1, _⟩ | ⟨e1, _⟩ <;> rw [e1]
          · rcases better_cases (ah := ah) es (2 * i + 2) i with ⟨e2, _⟩ | ⟨e2, _⟩
            · exact absurd (by unfold best; rw [e1]; exact e2) hb
            · rw [e2]; omega
          · rcases better_cases (ah := ah) es (2 * i + 2) (2 * i + 1) with ⟨e2, _⟩ | ⟨e2, _⟩ <;> rw [e2] <;> omega
        cases es[i]? with
        | none => rfl
        | some a => cases es[best ah es i]? with
          | none => rfl
          | some b => exact ih _ _ _ (by simp; omega) (by simp; omega)
theorem down_stop {f : Nat} {es : List β} {i : Nat} (h : best ah es i = i) : down ah f es i = es := by
  cases f with
  | zero => rfl
  | succ f => simp [down, h]
theorem best_gt {es : List β} {i : Nat} (h : best ah es i ≠ i) : i < best ah es i ∧ best ah es i < es.length := by
  have hb : ∀ k m, m ≤ k → better ah es k m = m ∨ (better ah es k m = k ∧ k < es.length) := fun k m _ => by
    rcases better_cases (ah := ah) es k m with ⟨e, _⟩ | ⟨e, a, b, ha, _⟩
    · exact .inl e
    · exact .inr ⟨e, (List.getElem?_eq_some_iff.1 ha).1⟩
  unfold best at *
  rcases hb (2 * i + 1) i (by omega) with h1 | ⟨h1, l1⟩
  · rw [h1] at h ⊢
    rcases hb (2 * i + 2) i (by omega) with h2 | ⟨h2, l2⟩
    · exact absurd h2 h
    · rw [h2]; omega
  · rw [h1] at h ⊢
    rcases hb (2 * i + 2) (2 * i + 1) (by omega) with h2 | ⟨h2, l2⟩ <;> rw [h2] <;> omega
theorem down_step {n : Nat} {es : List β} {i : Nat} {a b : β} (hn : es.length ≤ n) (hne : best ah es i ≠ i) (ha : es[i]? = some a) (hb : es[best ah es i]? = some b) :
    down ah n es i = down ah n ((es.set i b).set (best ah es i) a) (best ah es i) := by
  have hlt := best_gt hne
  cases n with
  | zero => omega
  | succ n =>
    conv => lhs; unfold down
    rw [if_neg hne, ha, hb]
    exact down_enough _ _ _ _ (by simp; omega) (by simp; omega)
theorem down_perm (f : Nat) : ∀ (es : List β) (i : Nat), (down ah f es i).Perm es := by
  induction f with
  | zero => exact fun _ _ => .refl _
  | succ f ih =>
    intro es i
    unfold down
    split
    · exact .refl _
    · rename_i hi
      split
      · rename_i a b ha hb
        exact (ih _ _).trans (swap_perm es ha hb (Ne.symm hi))
      · exact .refl _

theorem down_heap (o : Ord ah) (f : Nat) : ∀ (es : List β) (i : Nat), es.length ≤ f + i → HD ah es i → Heap ah (down ah f es i) := by
  induction f with
  | zero =>
    intro es i hl h
    show Heap ah es
    intro j a p hj ha hp
    by_cases hpi : (j - 1) / 2 = i
    · have := (List.getElem?_eq_some_iff.1 hp).1
      omega
    · exact h.1 j a p hj hpi ha hp
  | succ f ih =>
    intro es i hl h
    unfold down
    cases hc : es[i]? with
    | none =>
      have hge : es.length ≤ i := List.getElem?_eq_none_iff.1 hc
      have hheap : Heap ah es := fun j a p hj ha hp => by
        by_cases hpi : (j - 1) / 2 = i
        · have := (List.getElem?_eq_some_iff.1 hp).1
          omega
        · exact h.1 j a p hj hpi ha hp
      split
      · exact hheap
      · exact hheap
    | some c =>
      obtain ⟨m, hm, hall, hcase⟩ := best_spec o es i hc
      rcases hcase with ⟨hb, rfl⟩ | ⟨hb, hmc⟩
      · rw [if_pos hb]
        intro j a p hj ha hp
        by_cases hpi : (j - 1) / 2 = i
        · rw [hpi, hc] at hp
          cases hp
          exact hall j a (by omega) ha
        · exact h.1 j a p hj hpi ha hp
      · have hne : best ah es i ≠ i := by omega
        rw [if_neg hne]
        rw [hm]
        simp only []
        have hgt : i < best ah es i := by omega
        have hpar : (best ah es i - 1) / 2 = i := by omega
        generalize hk : best ah es i = k at *
        have g := get_swap es hc hm (Ne.symm hne)
        refine ih _ _ (by simp; omega) ⟨?_, ?_⟩
        · intro j x y hj hjk hx hy
          rw [g] at hx hy
          rw [if_neg hjk] at hy
          by_cases hjk2 : j = k
          · subst hjk2
            rw [if_pos rfl] at hx
            rw [hpar, if_pos rfl] at hy
            cases hx; cases hy
            exact o.asym _ _ hmc
          · rw [if_neg hjk2] at hx
            by_cases hji : j = i
            · subst hji
              rw [if_pos rfl] at hx
              rw [if_neg (by omega)] at hy
              cases hx
              exact h.2 k m y (by omega) hj hpar hm hy
            · rw [if_neg hji] at hx
              by_cases hpi : (j - 1) / 2 = i
              · rw [if_pos hpi] at hy
                cases hy
                exact hall j x (by omega) hx
              · rw [if_neg hpi] at hy
                exact h.1 j x y hj hpi hx hy
        · intro j x y hj hk0 hjk hx hy
          rw [g] at hx hy
          rw [hpar, if_neg (by omega), if_pos rfl] at hy
          rw [if_neg (by omega), if_neg (by omega)] at hx
          cases hy
          exact h.1 j x m hj (by omega) hx (by rw [hjk]; exact hm)

/-- nobody is ahead of the first -/
theorem Heap.first (o : Ord ah) {es : List β} (h : Heap ah es) {z : β} (hz : es[0]? = some z) : ∀ (i : Nat) (a : β), es[i]? = some a → ah a z = false := by
  intro i
  induction i using Nat.strongRecOn with
  | _ i ih =>
    intro a ha
    by_cases hi : i = 0
    · subst hi
      rw [hz] at ha; cases ha; exact o.irrefl z
    · have hlt : (i - 1) / 2 < es.length := by have := (List.getElem?_eq_some_iff.1 ha).1; omega
      have hp : es[(i - 1) / 2]? = some es[(i - 1) / 2] := List.getElem?_eq_getElem hlt
      exact o.trans z _ a (ih _ (by omega) _ hp) (h i a _ (by omega) ha hp)
theorem up_length (f : Nat) (es : List β) (i : Nat) : (up ah f es i).length = es.length := (up_perm f es i).length_eq
theorem down_length (f : Nat) (es : List β) (i : Nat) : (down ah f es i).length = es.length := (down_perm f es i).length_eq
end
end Hp
namespace Hp
section
variable {β : Type} {ah : β → β → Bool}

def Rep (ah : β → β → Bool) (es S : List β) : Prop := es.Perm S ∧ Heap ah es ∧ S.Pairwise (fun a b => ah a b = true)

def ins (ah : β → β → Bool) (x : β) : List β → List β
  | [] => [x]
  | y :: S => if ah x y then x :: y :: S else y :: ins ah x S
theorem ins_perm (x : β) : ∀ S : List β, (ins ah x S).Perm (x :: S)
  | [] => .refl _
  | y :: S => by
    unfold ins
    split
    · exact .refl _
    · exact (List.Perm.cons y (ins_perm x S)).trans (.swap _ _ _)
theorem mem_ins {x y : β} {S : List β} : y ∈ ins ah x S ↔ y = x ∨ y ∈ S := by rw [(ins_perm x S).mem_iff, List.mem_cons]
theorem ins_sorted (o : Ord ah) (ht : ∀ a b c, ah a b = true → ah b c = true → ah a c = true) {x : β} : ∀ {S : List β}, S.Pairwise (fun a b => ah a b = true) → (∀ y ∈ S, ah x y = false → ah y x = true) → (ins ah x S).Pairwise (fun a b => ah a b = true)
  | [], _, _ => by simp [ins]
  | y :: S, h, hx => by
    obtain ⟨h1, h2⟩ := List.pairwise_cons.1 h
    unfold ins
    split
    · rename_i hxy
      refine List.pairwise_cons.2 ⟨fun z hz => ?_, h⟩
      rcases List.mem_cons.1 hz with rfl | hz
      · exact hxy
      · exact ht _ _ _ hxy (h1 z hz)
    · rename_i hxy
      refine List.pairwise_cons.2 ⟨fun z hz => ?_, ins_sorted o ht h2 (fun w hw => hx w (List.mem_cons_of_mem _ hw))⟩
      rcases mem_ins.1 hz with rfl | hz
      · exact hx y (List.mem_cons_self) (by simpa using hxy)
      · exact h1 z hz

theorem Rep.nil : Rep ah [] [] := ⟨.refl _, fun i a p _ h => by simp at h, .nil⟩
theorem Rep.length {es S : List β} (h : Rep ah es S) : es.length = S.length := h.1.length_eq

theorem heap_push {es : List β} (h : Heap ah es) (x : β) : HU ah (es ++ [x]) es.length := by
  refine ⟨fun j a p hj hne ha hp => ?_, fun j a p hj hl hjl ha hp => ?_⟩
  · have hlt : j < (es ++ [x]).length := (List.getElem?_eq_some_iff.1 ha).1
    simp at hlt
    rw [List.getElem?_append_left (by omega)] at ha hp
    exact h j a p hj ha hp
  · have hlt : j < (es ++ [x]).length := (List.getElem?_eq_some_iff.1 ha).1
    simp at hlt; omega

theorem Rep.push (o : Ord ah) (ht : ∀ a b c, ah a b = true → ah b c = true → ah a c = true) {es S : List β} (h : Rep ah es S) {x : β} (hx : ∀ y ∈ S, ah x y = false → ah y x = true) : Rep ah (up ah es.length (es ++ [x]) es.length) (ins ah x S) := by
  refine ⟨(up_perm _ _ _).trans ?_, up_heap o _ _ _ (Nat.le_refl _) (heap_push h.2.1 x), ins_sorted o ht h.2.2 hx⟩
  refine List.Perm.trans ?_ (ins_perm x S).symm
  exact List.perm_append_comm.trans (List.Perm.cons x h.1)

theorem Rep.head (o : Ord ah) {es S : List β} {s z : β} (h : Rep ah es (s :: S)) (hz : es[0]? = some z) : z = s := by
  have hs : s ∈ es := h.1.mem_iff.2 List.mem_cons_self
  obtain ⟨i, hi⟩ := List.getElem?_of_mem hs
  have h1 := h.2.1.first o hz i s hi
  have hzm : z ∈ s :: S := h.1.mem_iff.1 (List.mem_of_getElem? hz)
  rcases List.mem_cons.1 hzm with h2 | h2
  · exact h2
  · have := (List.pairwise_cons.1 h.2.2).1 z h2
    rw [h1] at this; cases this

/-- what is left when the first is taken: the last in its place, and down -/
def pop (ah : β → β → Bool) (es : List β) : List β := match es.getLast? with
  | none => []
  | some l => down ah es.length ((es.set 0 l).dropLast) 0

theorem dropLast_perm : ∀ {es : List β} {z l : β}, es[0]? = some z → es.getLast? = some l → (z :: (es.set 0 l).dropLast).Perm es
  | [], _, _, h, _ => by simp at h
  | [a], z, l, h, hl => by simp at h hl; subst h; subst hl; simp
  | a :: b :: t, z, l, h, hl => by
    simp at h; subst h
    have hl' : (b :: t).getLast? = some l := by simpa using hl
    have hne : b :: t ≠ [] := by simp
    have e : (b :: t) = (b :: t).dropLast ++ [l] := by
      rw [List.getLast?_eq_some_getLast hne, Option.some.injEq] at hl'
      rw [← hl', List.dropLast_concat_getLast]
    have : ((a :: b :: t).set 0 l).dropLast = l :: (b :: t).dropLast := by simp
    rw [this]
    refine List.Perm.cons a ?_
    conv => rhs; rw [e]
    exact (List.perm_append_comm (l₁ := [l])).trans (.refl _)

theorem heap_dropLast {es : List β} (h : Heap ah es) (l : β) : HD ah ((es.set 0 l).dropLast) 0 := by
  have get : ∀ (j : Nat) (a : β), 0 < j → ((es.set 0 l).dropLast)[j]? = some a → es[j]? = some a := fun j a hj ha => by
    rw [List.getElem?_dropLast] at ha
    split at ha
    · rwa [List.getElem?_set_ne (by omega)] at ha
    · cases ha
  refine ⟨fun j a p hj hne ha hp => h j a p hj (get j a hj ha) (get _ p (by omega) hp), fun j a p hj h0 => by omega⟩

theorem Rep.pop (o : Ord ah) {es S : List β} {s : β} (h : Rep ah es (s :: S)) : Rep ah (pop ah es) S := by
  have hlen := h.1.length_eq
  simp at hlen
  cases hes : es with
  | nil => simp [hes] at hlen
  | cons z t =>
    have hz : es[0]? = some z := by simp [hes]
    have hzs := h.head o hz
    subst hzs
    cases hl : es.getLast? with
    | none => simp [hes] at hl
    | some l =>
      have e : Hp.pop ah es = down ah es.length ((es.set 0 l).dropLast) 0 := by unfold Hp.pop; rw [hl]
      rw [← hes, e]
      refine ⟨(down_perm _ _ _).trans ?_, down_heap o _ _ _ (by simp) (heap_dropLast h.2.1 l), (List.pairwise_cons.1 h.2.2).2⟩
      exact List.Perm.cons_inv ((dropLast_perm hz hl).trans h.1)
end

/-! ### things that were pushed at a time -/
section
variable {α : Type} (lt : α → α → Bool)
def ahd (a b : α × Nat) : Bool := lt a.1 b.1 || (!lt b.1 a.1 && decide (a.2 < b.2))
variable {lt}
theorem ahd_ord (h : Ord lt) : Ord (ahd lt) := by
  refine ⟨fun a b hab => ?_, fun a b c hba hcb => ?_⟩
  · unfold ahd at *
    cases h1 : lt a.1 b.1 with
    | true => simp [h.asym _ _ h1]
    | false =>
      simp [h1] at hab ⊢
      refine ⟨hab.1, ?_⟩
      omega
  · unfold ahd at *
    simp only [Bool.or_eq_false_iff, Bool.and_eq_false_iff, Bool.not_eq_false', decide_eq_false_iff_not, Nat.not_lt] at *
    obtain ⟨h1, h2⟩ := hba
    obtain ⟨h3, h4⟩ := hcb
    refine ⟨h.trans _ _ _ h1 h3, ?_⟩
    rcases h2 with h2 | h2
    · -- a before b strictly
      left
      cases hac : lt a.1 c.1 with
      | true => rfl
      | false =>
        have hx := h.trans b.1 c.1 a.1 h3 hac
        rw [h2] at hx; cases hx
    · rcases h4 with h4 | h4
      · left
        cases hac : lt a.1 c.1 with
        | true => rfl
        | false =>
          have hy := h.trans c.1 a.1 b.1 hac h1
          rw [h4] at hy; cases hy
      · exact .inr (Nat.le_trans h2 h4)
theorem ahd_total {a b : α × Nat} (hne : a.2 ≠ b.2) (h : ahd lt a b = false) : ahd lt b a = true := by
  unfold ahd at *
  cases h1 : lt a.1 b.1 <;> cases h2 : lt b.1 a.1 <;> simp [h1, h2] at * ; omega
theorem ahd_trans (h : Ord lt) (a b c : α × Nat) (h1 : ahd lt a b = true) (h2 : ahd lt b c = true) : ahd lt a c = true := by
  have o := ahd_ord h
  cases h3 : ahd lt a c with
  | true => rfl
  | false =>
    -- c <= a, a <= b: c <= b, against b ahead of c
    have := o.trans c a b h3 (o.asym _ _ h1)
    rw [h2] at this; cases this
end
end Hp
namespace SX
open Go
/-- the bools of a set of n -/
def rbs (n : Nat) (S : Nat → Bool) : List Value := (List.range n).map fun k => .bool (S k)
theorem rbs_len (n : Nat) (S : Nat → Bool) : (rbs n S).length = n := by simp [rbs]
theorem rbs_get {n k : Nat} (S : Nat → Bool) (h : k < n) : (rbs n S)[k]? = some (.bool (S k)) := by simp [rbs, h]
theorem Row.sl {μ : PH} {v : Value} {n l : Nat} {xs : List Value} (h : Row μ v n l xs) : ∃ A cap, v = .slice A l cap := by
  obtain ⟨_, A, cap, e, _⟩ := h; exact ⟨A, cap, e⟩
theorem rbs_ext {n : Nat} {S T : Nat → Bool} (h : ∀ j, j < n → S j = T j) : rbs n S = rbs n T := by
  unfold rbs
  apply List.map_congr_left
  intro k hk
  rw [h k (List.mem_range.1 hk)]
theorem rbs_set {n i : Nat} {S T : Nat → Bool} {c : Bool} (h : ∀ j, j < n → T j = if j = i then c else S j) : (rbs n S).set i (.bool c) = rbs n T := by
  apply List.ext_getElem?
  intro j
  rw [List.getElem?_set, rbs_len]
  rcases Nat.lt_or_ge j n with hj | hj
  · rw [rbs_get T hj, rbs_get S hj, h j hj]
    by_cases e : i = j
    · subst e; simp [hj]
    · simp [e, Ne.symm e]
  · rw [List.getElem?_eq_none (l := rbs n S) (by rw [rbs_len]; exact hj), List.getElem?_eq_none (l := rbs n T) (by rw [rbs_len]; exact hj)]
    split
    · rw [if_neg (by omega)]
    · rfl
/-- a graph: its rows, and what each row reads as -/
def Graph (μ : PH) (v : Value) (G : List (Value × List Int)) : Prop := Row μ v 1 G.length (G.flatMap gcs) ∧ ∀ x ∈ G, Row μ x.1 1 x.2.length (x.2.flatMap (icsk .i64))
theorem Graph.le {μ μ' : PH} {v : Value} {G : List (Value × List Int)} (h : Graph μ v G) (k : Le μ μ') : Graph μ' v G := ⟨h.1.le k, fun x hx => (h.2 x hx).le k⟩
theorem Row.small {μ : PH} {v : Value} {n l : Nat} {xs : List Value} (h : Row μ v n l xs) : l ≤ 9223372036854775807 := by
  obtain ⟨_, _, _, _, h1, h2, _⟩ := h; simp only [maxLen] at h2; omega
/-- what is wrong with one commit's parents -/
def rowErr (c : Nat) (s : List Int) : List Int → Int
  | [] => 0
  | p :: l => if p < 0 then 1 else if (c : Int) ≤ p then 10 else if p ∈ s then 11 else rowErr c (s ++ [p]) l
def chkFrom : Nat → List (List Int) → Int
  | _, [] => 0
  | c, l :: g => if rowErr c [] l = 0 then chkFrom (c + 1) g else rowErr c [] l
theorem rowErr_at {c : Nat} {l : List Int} {j : Nat} {p : Int} (h : l[j]? = some p) : rowErr c (l.take j) (l.drop j) = if p < 0 then 1 else if (c : Int) ≤ p then 10 else if p ∈ l.take j then 11 else rowErr c (l.take (j + 1)) (l.drop (j + 1)) := by
  have hlt := (List.getElem?_eq_some_iff.1 h).1
  rw [List.drop_eq_getElem_cons hlt, List.take_add_one, h]
  have e : l[j] = p := by rw [List.getElem?_eq_getElem hlt] at h; exact Option.some.inj h
  rw [e]; rfl
theorem chkFrom_at {g : List (List Int)} {i : Nat} {l : List Int} (h : g[i]? = some l) : chkFrom i (g.drop i) = if rowErr i [] l = 0 then chkFrom (i + 1) (g.drop (i + 1)) else rowErr i [] l := by
  have hlt := (List.getElem?_eq_some_iff.1 h).1
  rw [List.drop_eq_getElem_cons hlt]
  have e : g[i] = l := by rw [List.getElem?_eq_getElem hlt] at h; exact Option.some.inj h
  rw [e]; rfl
/-- the graph's numbers -/
abbrev nums (G : List (Value × List Int)) : List (List Int) := G.map (·.2)
theorem rd_mlookE {κ : Type} [DecidableEq κ] {P : Program} {env : Env} {L : List Assn} {t kt et b c : Nat} {kv : κ → Value} {l : Ents κ} {z v : Value} [hm : TMap P t kt et] [hk : TKey P kt kv] [hz : TZv P et z] {m x : Operand} [hb : InM b L kv l c] (a : κ) (hx : evalE env m = some (.map (some b))) (hy : evalE env x = some (kv a)) (h : (mlook l a).getD z = v) : Rd P env L (.lookup t m x false) v :=
  h ▸ rd_mlook a hx hy
def rowOf (g : List (List Int)) (c : Nat) : List Int := g.getD c []
def stepUp (g : List (List Int)) (c : Nat) (S : Nat → Bool) : Nat → Bool := fun j => S j || (S c && decide ((j : Int) ∈ rowOf g c))
def upF (g : List (List Int)) : Nat → (Nat → Bool) → (Nat → Bool)
  | 0, S => S
  | c + 1, S => upF g c (stepUp g c S)
/-- a commit's ancestors -/
def up (g : List (List Int)) (a : Nat) : Nat → Bool := upF g (a + 1) (fun j => decide (j = a))
/-- parents come first -/
def Good (g : List (List Int)) : Prop := ∀ (c : Nat) (l : List Int), g[c]? = some l → ∀ p ∈ l, 0 ≤ p ∧ p < c
theorem rowErr_good {c : Nat} : ∀ {l s : List Int}, rowErr c s l = 0 → ∀ p ∈ l, 0 ≤ p ∧ p < c
  | [], _, _, p, hp => by cases hp
  | q :: l, s, h, p, hp => by
    unfold rowErr at h
    split at h
    · cases h
    · split at h
      · cases h
      · split at h
        · cases h
        · rcases List.mem_cons.1 hp with rfl | hp
          · omega
          · exact rowErr_good h p hp
theorem chkFrom_good : ∀ {g : List (List Int)} {c : Nat}, chkFrom c g = 0 → ∀ (i : Nat) (l : List Int), g[i]? = some l → ∀ p ∈ l, 0 ≤ p ∧ p < ((c + i : Nat) : Int)
  | [], _, _, i, l, hl => by cases hl
  | r :: g, c, h, i, l, hl => by
    unfold chkFrom at h
    split at h
    · rename_i h0
      cases i with
      | zero => obtain rfl : r = l := by simpa using hl
                exact rowErr_good h0
      | succ i =>
        intro p hp
        have := chkFrom_good h i l (by simpa using hl) p hp
        rwa [show c + (i + 1) = c + 1 + i by omega]
    · rename_i h0; exact absurd h h0
theorem chk_good {g : List (List Int)} (h : chkFrom 0 g = 0) : Good g := fun c l hl p hp => by
  have := chkFrom_good h c l hl p hp
  rwa [Nat.zero_add] at this
theorem rowOf_at {g : List (List Int)} {c : Nat} {l : List Int} (h : g[c]? = some l) : rowOf g c = l := by unfold rowOf; rw [List.getD_eq_getElem?_getD, h]; rfl
/-- the errors that come first -/
def askE (g : List (List Int)) (a b : Int) : Int := if chkFrom 0 g ≠ 0 then 1 else if a < 0 ∨ (g.length : Int) ≤ a ∨ b < 0 ∨ (g.length : Int) ≤ b then 9 else 0
theorem askE_ok {g : List (List Int)} {a b : Int} (h : askE g a b = 0) : Good g ∧ ∃ i j : Nat, a = i ∧ b = j ∧ i < g.length ∧ j < g.length := by
  unfold askE at h
  split at h
  · cases h
  · rename_i h1
    split at h
    · cases h
    · rename_i h2
      exact ⟨chk_good (by simpa using h1), a.toNat, b.toNat, by omega, by omega, by omega, by omega⟩
/-- which of S are no parent of one of them -/
def bestT (g : List (List Int)) (S : Nat → Bool) (c : Nat) : Nat → Bool := fun j => S j && !((List.range c).any fun y => S y && decide ((j : Int) ∈ rowOf g y))
theorem bestT_succ (g : List (List Int)) (S : Nat → Bool) (c j : Nat) : bestT g S (c + 1) j = (bestT g S c j && !(S c && decide ((j : Int) ∈ rowOf g c))) := by
  unfold bestT
  rw [List.range_succ, List.any_append, List.any_cons, List.any_nil, Bool.or_false, Bool.not_or, Bool.and_assoc]
theorem graph_rows {μ : PH} {gb off cap : Nat} {G : List (Value × List Int)} (hG : Graph μ (.slice (some ⟨gb, off, none⟩) G.length cap) G) (hg : Good (nums G)) (hr : RowAt μ gb off (G.flatMap gcs)) :
    ∀ c : Nat, c < G.length → ∃ x, G[c]? = some x ∧ CellAt μ gb (off + c * 1) x.1 ∧ Row μ x.1 1 x.2.length (x.2.flatMap (icsk .i64)) ∧ rowOf (nums G) c = x.2 ∧ ∀ p ∈ x.2, 0 ≤ p ∧ p < c := fun c hc => by
  have hx : G[c]? = some G[c] := List.getElem?_eq_getElem hc
  have hn : (nums G)[c]? = some G[c].2 := by rw [List.getElem?_map, hx]; rfl
  exact ⟨G[c], hx, (hr.elem gcs_len hx).cell, hG.2 _ (List.mem_of_getElem? hx), rowOf_at hn, hg c _ hn⟩
theorem rbs_false (n : Nat) : List.replicate n (Value.bool false) = rbs n (fun _ => false) := by
  apply List.ext_getElem?
  intro j
  simp [rbs, List.getElem?_replicate]
  split <;> simp_all
theorem rbs_one (n : Nat) (S : Nat → Bool) : (rbs n S).all Value.oneCell' = true := by unfold rbs; simp [Value.oneCell']
def stepDn (g : List (List Int)) (c : Nat) (S : Nat → Bool) : Nat → Bool := fun j => S j || (decide (j = c) && (rowOf g c).any fun p => S p.toNat)
/-- d rows from c on -/
def dnF (g : List (List Int)) (S : Nat → Bool) (c : Nat) : Nat → (Nat → Bool)
  | 0 => S
  | d + 1 => stepDn g (c + d) (dnF g S c d)
def dn (g : List (List Int)) (a : Nat) : Nat → Bool := dnF g (fun j => decide (j = a)) (a + 1) (g.length - (a + 1))
/-- by definition: itself, or by a parent -/
inductive Reach (g : List (List Int)) : Nat → Nat → Prop
  | refl (a : Nat) : Reach g a a
  | step {a p j : Nat} (h : (p : Int) ∈ rowOf g a) (k : Reach g p j) : Reach g a j
theorem row_good {g : List (List Int)} (hg : Good g) {a : Nat} {p : Int} (h : p ∈ rowOf g a) : 0 ≤ p ∧ p < a ∧ a < g.length := by
  unfold rowOf at h
  rw [List.getD_eq_getElem?_getD] at h
  cases hc : g[a]? with
  | none => rw [hc] at h; cases h
  | some l => rw [hc] at h; exact ⟨(hg a l hc p h).1, (hg a l hc p h).2, (List.getElem?_eq_some_iff.1 hc).1⟩
theorem Reach.le {g : List (List Int)} (hg : Good g) {a j : Nat} (h : Reach g a j) : j ≤ a := by
  induction h with
  | refl => exact Nat.le_refl _
  | step h _ ih => have := row_good hg h; omega
theorem Reach.trans {g : List (List Int)} {a b c : Nat} (h : Reach g a b) (k : Reach g b c) : Reach g a c := by
  induction h with
  | refl => exact k
  | step h _ ih => exact .step h (ih k)
theorem Reach.last {g : List (List Int)} {a j : Nat} (h : Reach g a j) : a = j ∨ ∃ z, Reach g a z ∧ (j : Int) ∈ rowOf g z := by
  induction h with
  | refl => exact .inl rfl
  | @step a p j h _ ih =>
    right
    rcases ih with rfl | ⟨z, h1, h2⟩
    · exact ⟨a, .refl _, h⟩
    · exact ⟨z, .step h h1, h2⟩
theorem Reach.lt {g : List (List Int)} (hg : Good g) {a j : Nat} (h : Reach g a j) (hne : a ≠ j) : j < a ∧ a < g.length := by
  cases h with
  | refl => exact absurd rfl hne
  | step h k => have := row_good hg h; have := k.le hg; omega
theorem upF_iff {g : List (List Int)} (hg : Good g) : ∀ (c : Nat) (S : Nat → Bool), (∀ i, c ≤ i → S i = true → ∀ p : Nat, (p : Int) ∈ rowOf g i → S p = true) → ∀ j, upF g c S j = true ↔ ∃ i, S i = true ∧ Reach g i j
  | 0, S, hS, j => by
    refine ⟨fun h => ⟨j, h, .refl _⟩, ?_⟩
    rintro ⟨i, hi, hr⟩
    show S j = true
    induction hr with
    | refl => exact hi
    | step h _ ih => exact ih (hS _ (Nat.zero_le _) hi _ h)
  | c + 1, S, hS, j => by
    have hst : ∀ i, stepUp g c S i = true ↔ S i = true ∨ (S c = true ∧ (i : Int) ∈ rowOf g c) := fun i => by unfold stepUp; simp
    have h1 : ∀ i, c ≤ i → stepUp g c S i = true → ∀ p : Nat, (p : Int) ∈ rowOf g i → stepUp g c S p = true := fun i hi hs p hp => by
      rw [hst] at hs ⊢
      by_cases e : i = c
      · subst e
        rcases hs with hs | ⟨hs, _⟩
        · exact .inr ⟨hs, hp⟩
        · exact .inr ⟨hs, hp⟩
      · rcases hs with hs | ⟨_, hs⟩
        · exact .inl (hS i (by omega) hs p hp)
        · have := row_good hg hs; omega
    show upF g c (stepUp g c S) j = true ↔ _
    rw [upF_iff hg c _ h1 j]
    constructor
    · rintro ⟨i, hi, hr⟩
      rcases (hst i).1 hi with h | ⟨h, hm⟩
      · exact ⟨i, h, hr⟩
      · exact ⟨c, h, .step hm hr⟩
    · rintro ⟨i, hi, hr⟩
      exact ⟨i, (hst i).2 (.inl hi), hr⟩
theorem up_iff {g : List (List Int)} (hg : Good g) (a j : Nat) : up g a j = true ↔ Reach g a j := by
  unfold up
  rw [upF_iff hg (a + 1) _ (fun i hi h => by have := of_decide_eq_true h; omega) j]
  exact ⟨fun ⟨i, hi, hr⟩ => by obtain rfl := of_decide_eq_true hi; exact hr, fun h => ⟨a, decide_eq_true rfl, h⟩⟩
theorem up_refl {g : List (List Int)} (hg : Good g) (a : Nat) : up g a a = true := (up_iff hg a a).2 (.refl _)
theorem up_row {g : List (List Int)} (hg : Good g) {a p : Nat} (h : (p : Int) ∈ rowOf g a) : up g a p = true := (up_iff hg a p).2 (.step h (.refl _))
theorem up_le {g : List (List Int)} (hg : Good g) {a j : Nat} (h : up g a j = true) : j ≤ a := ((up_iff hg a j).1 h).le hg
theorem up_trans {g : List (List Int)} (hg : Good g) {a b c : Nat} (h : up g a b = true) (k : up g b c = true) : up g a c = true := (up_iff hg a c).2 (((up_iff hg a b).1 h).trans ((up_iff hg b c).1 k))
theorem up_through {g : List (List Int)} (hg : Good g) (a b : Nat) : up g a b = (decide (a = b) || (rowOf g a).any fun p => up g p.toNat b) := by
  rw [Bool.eq_iff_iff, up_iff hg]
  simp only [Bool.or_eq_true, decide_eq_true_eq, List.any_eq_true]
  constructor
  · intro h
    cases h with
    | refl => exact .inl rfl
    | @step _ p _ h k => exact .inr ⟨p, h, by rw [Int.toNat_natCast]; exact (up_iff hg p b).2 k⟩
  · rintro (rfl | ⟨p, hp, h⟩)
    · exact .refl _
    · have := row_good hg hp
      obtain ⟨q, rfl⟩ : ∃ q : Nat, p = q := ⟨p.toNat, by omega⟩
      rw [Int.toNat_natCast] at h
      exact .step hp ((up_iff hg q b).1 h)
/-- descendants the other way about -/
theorem dnF_iff {g : List (List Int)} (hg : Good g) (a : Nat) : ∀ (d : Nat), a + 1 + d ≤ g.length → ∀ j, dnF g (fun j => decide (j = a)) (a + 1) d j = true ↔ j < a + 1 + d ∧ Reach g j a
  | 0, _, j => by
    show decide (j = a) = true ↔ _
    rw [decide_eq_true_eq]
    exact ⟨fun h => by subst h; exact ⟨by omega, .refl _⟩, fun ⟨h1, h2⟩ => by have := h2.le hg; omega⟩
  | d + 1, hd, j => by
    have ih := dnF_iff hg a d (by omega)
    show stepDn g (a + 1 + d) _ j = true ↔ _
    unfold stepDn
    simp only [Bool.or_eq_true, Bool.and_eq_true, decide_eq_true_eq, List.any_eq_true]
    rw [ih j]
    constructor
    · rintro (⟨h1, h2⟩ | ⟨rfl, p, hp, h⟩)
      · exact ⟨by omega, h2⟩
      · have := row_good hg hp
        obtain ⟨q, rfl⟩ : ∃ q : Nat, p = q := ⟨p.toNat, by omega⟩
        rw [Int.toNat_natCast] at h
        exact ⟨by omega, .step hp ((ih q).1 h).2⟩
    · rintro ⟨h1, h2⟩
      by_cases e : j = a + 1 + d
      · right
        refine ⟨e, ?_⟩
        cases h2 with
        | refl => omega
        | @step _ p _ h k =>
          have := row_good hg h
          exact ⟨p, e ▸ h, by rw [Int.toNat_natCast]; exact (ih p).2 ⟨by omega, k⟩⟩
      · exact .inl ⟨by omega, h2⟩
theorem dn_iff {g : List (List Int)} (hg : Good g) {a j : Nat} (ha : a < g.length) (hj : j < g.length) : dn g a j = up g j a := by
  rw [Bool.eq_iff_iff, up_iff hg]
  unfold dn
  rw [dnF_iff hg a _ (by omega)]
  exact ⟨fun h => h.2, fun h => ⟨by omega, h⟩⟩
/-- a set with all that its commits reach -/
def Down (g : List (List Int)) (S : Nat → Bool) : Prop := ∀ i j, S i = true → up g i j = true → S j = true
theorem best_iff {g : List (List Int)} {S : Nat → Bool} {n j : Nat} : bestT g S n j = true ↔ S j = true ∧ ∀ y, y < n → S y = true → ¬ (j : Int) ∈ rowOf g y := by
  unfold bestT
  simp only [Bool.and_eq_true, Bool.not_eq_true', List.any_eq_false, List.mem_range, decide_eq_true_eq]
  exact ⟨fun ⟨h1, h2⟩ => ⟨h1, fun y hy hs hm => h2 y hy ⟨hs, hm⟩⟩, fun ⟨h1, h2⟩ => ⟨h1, fun y hy h => h2 y hy h.1 h.2⟩⟩
/-- no best one reaches another -/
theorem best_apart {g : List (List Int)} (hg : Good g) {S : Nat → Bool} (hS : Down g S) {x y : Nat} (hx : bestT g S g.length x = true) (hy : bestT g S g.length y = true) (h : up g x y = true) : x = y := by
  rcases ((up_iff hg x y).1 h).last with e | ⟨z, h1, h2⟩
  · exact e
  · exact absurd h2 ((best_iff.1 hy).2 z (row_good hg h2).2.2 (hS x z (best_iff.1 hx).1 ((up_iff hg x z).2 h1)))
/-- each is reached by a best one -/
theorem best_reach {g : List (List Int)} (hg : Good g) {S : Nat → Bool} : ∀ (k x : Nat), g.length - x ≤ k → x < g.length → S x = true → ∃ y, y < g.length ∧ bestT g S g.length y = true ∧ up g y x = true
  | 0, x, hk, hx, _ => by omega
  | k + 1, x, hk, hx, hs => by
    by_cases h : bestT g S g.length x = true
    · exact ⟨x, hx, h, up_refl hg x⟩
    · rw [best_iff] at h
      obtain ⟨z, hz, hsz, hm⟩ : ∃ z, z < g.length ∧ S z = true ∧ (x : Int) ∈ rowOf g z := by
        apply Classical.byContradiction
        intro hno
        exact h ⟨hs, fun y hy hsy hm => hno ⟨y, hy, hsy, hm⟩⟩
      have := row_good hg hm
      obtain ⟨y, h1, h2, h3⟩ := best_reach hg k z (by omega) hz hsz
      exact ⟨y, h1, h2, up_trans hg h3 (up_row hg hm)⟩
theorem both_down {g : List (List Int)} (hg : Good g) (a b : Nat) : Down g (fun j => up g a j && up g b j) := fun i j hi h => by
  simp only [Bool.and_eq_true] at hi ⊢
  exact ⟨up_trans hg hi.1 h, up_trans hg hi.2 h⟩
section
variable {P : Program} {tI : TypeId} [TOne P tI]
theorem Split.all : ∀ {L : List Assn}, Split L L []
  | [] => .nil
  | _ :: _ => .cons .here Split.all
theorem Split.skip {A : Assn} {L K R : List Assn} (h : Split L K R) : Split (A :: L) K (A :: R) := by
  induction h with
  | nil => exact .nil
  | cons h _ ih => exact .cons (.there h) ih
theorem Ld.weak {P : Program} {A : Assn} {L : List Assn} {t : TypeId} {ad : Addr} {v : Value} (h : Ld P L t ad v) : Ld P (A :: L) t ad v := fun E w hh => h ⟨E.w, E.X ++ [A]⟩ w (H.hide (L := L) (R := [A]) (hh.ent (Ent.perm (List.perm_append_comm (l₁ := [A])))))
/-- a slice of integers may be read -/
def Ints (P : Program) (tI : TypeId) (L : List Assn) (v : Value) (xs : List Int) : Prop := ∃ A cap, v = .slice A xs.length cap ∧ xs.length ≤ 9223372036854775807 ∧ (0 < xs.length → ∃ b off, A = some ⟨b, off, none⟩ ∧ ∀ (j : Nat) (x : Int), xs[j]? = some x → Ld P L tI ⟨b, off + j, none⟩ (.int .i64 x))
omit [TOne P tI] in
theorem Ints.weak {A : Assn} {L : List Assn} {v : Value} {xs : List Int} (h : Ints P tI L v xs) : Ints P tI (A :: L) v xs := by
  obtain ⟨B, cap, h1, h2, h3⟩ := h
  refine ⟨B, cap, h1, h2, fun h => ?_⟩
  obtain ⟨b, off, e, k⟩ := h3 h
  exact ⟨b, off, e, fun j x hx => (k j x hx).weak⟩
theorem Ints.row {μ : PH} {v : Value} {xs : List Int} {L : List Assn} [InR L μ] (h : Row μ v 1 xs.length (xs.flatMap (icsk .i64))) : Ints P tI L v xs := by
  obtain ⟨A, cap, hv⟩ := h.sl
  refine ⟨A, cap, hv, h.small, fun h0 => ?_⟩
  obtain ⟨b, off, cap', hv', c1, c2, hr⟩ := h.pos h0
  subst hv
  injection hv' with e1 _ _
  exact ⟨b, off, e1, fun j x hx => by
    have := (hr.elem (icsk_len .i64) hx).cell
    rw [Nat.mul_one] at this
    exact ld_ro this⟩
theorem ints_blk {b : Nat} {cs : List Int} {n : Nat} (hn : n = cs.length) (hs : cs.length ≤ 9223372036854775807) {L : List Assn} [InB b L tI (cs.flatMap (icsk .i64))] : Ints P tI L (.slice (some ⟨b, 0, none⟩) n n) cs := by
  subst hn
  refine ⟨_, _, rfl, hs, fun _ => ⟨b, 0, rfl, fun j x hx => ld_one (ty := tI) (cs := cs.flatMap (icsk .i64)) ?_⟩⟩
  have := flat_get (icsk_len .i64) cs [] j x hx 0 (.int .i64 x) rfl
  rw [List.append_nil, Nat.mul_one] at this
  rw [Nat.zero_add]; exact this
omit [TOne P tI] in
theorem ints_nil {L : List Assn} : Ints P tI L (.slice none 0 0) [] := ⟨none, 0, rfl, by decide, fun h => by simp at h⟩
def Shape (v : Value) (l : Nat) : Prop := (v = .slice none 0 0 ∧ l = 0) ∨ ∃ b cap, v = .slice (some ⟨b, 0, none⟩) l cap ∧ l ≤ cap ∧ cap ≤ maxLen
theorem own_shape {e n : Nat} {v : Value} {l : Nat} {xs : List Value} {L L' : List Assn} (ht : Take (own e n v l xs) L L') {m : PH} (h : Sat L m) : Shape v l := by
  have h := Sat.perm ht.perm _ h
  rcases own_open h with ⟨rfl, rfl, _⟩ | ⟨b, cap, ex, rfl, h1, h2, _⟩
  · exact .inl ⟨rfl, rfl⟩
  · exact .inr ⟨b, cap, rfl, h1, h2⟩
theorem H.take {A : Assn} {E : Ctx} {w : World} {L L' : List Assn} (h : H E w L) (t : Take A L L') : H E w (A :: L') := h.ent (Ent.perm t.perm)
theorem ld_own {L L' : List Assn} {b cap l : Nat} {xs : List Value} {e : TypeId} (t : Take (own e 1 (.slice (some ⟨b, 0, none⟩) l cap) l xs) L L') {ty : TypeId} [TOne P ty] {j : Nat} {v : Value} (hv : xs[j]? = some v) : Ld P L ty ⟨b, j, none⟩ v := by
  intro E w hh
  obtain ⟨k1, k2, k3, k4, k5⟩ := hh.take t
  have k6 : Sat (own e 1 (.slice (some ⟨b, 0, none⟩) l cap) l xs :: (E.X ++ L')) (fun b => w.heap[b]?) := Sat.perm (perm_out (.refl _)) _ k5
  rcases own_open k6 with ⟨a1, a2, a3⟩ | ⟨b', cap', ex, a1, a2, a3, a4, a5, a6⟩
  · cases a1
  · injection a1 with e1 e2 e3
    injection e1 with e1
    injection e1 with e1
    subst e1
    exact ld_one (L := blk b e (xs ++ ex) :: L') (ty := e) (cs := xs ++ ex) (by rw [List.getElem?_append_left (List.getElem?_eq_some_iff.1 hv).1]; exact hv) E w ⟨k1, k2, k3, k4, Sat.perm (perm_out (.refl _)).symm _ a6⟩
theorem ints_own {L L' : List Assn} {v : Value} {xs : List Int} (hs : Shape v xs.length) (t : Take (own tI 1 v xs.length (xs.flatMap (icsk .i64))) L L') : Ints P tI L v xs := by
  rcases hs with ⟨rfl, h0⟩ | ⟨b, cap, rfl, h1, h2⟩
  · obtain rfl := List.eq_nil_of_length_eq_zero h0
    exact ints_nil
  · simp only [maxLen] at h2
    refine ⟨_, _, rfl, by omega, fun _ => ⟨b, 0, rfl, fun j x hx => ?_⟩⟩
    rw [Nat.zero_add]
    refine ld_own t ?_
    have := flat_get (icsk_len .i64) xs [] j x hx 0 (.int .i64 x) rfl
    rwa [List.append_nil, Nat.mul_one] at this
end
section
variable {P : Program} {tG : TypeId}
theorem flat_take {β : Type} {f : β → List Value} (hf : ∀ e, (f e).length = 1) : ∀ (es : List β) (k : Nat), (es.flatMap f).take k = (es.take k).flatMap f
  | [], k => by simp
  | e :: es, 0 => by simp
  | e :: es, k + 1 => by
    rw [List.flatMap_cons, List.take_succ_cons, List.flatMap_cons, ← flat_take hf es k]
    have := hf e
    rw [List.take_append, this, Nat.add_sub_cancel, List.take_of_length_le (by omega)]
theorem graph_take {e by_ : Nat} [TSl P tG e 1 by_] {μ : PH} {v : Value} {G : List (Value × List Int)} (hG : Graph μ v G) (k : Nat) (hk : k ≤ G.length) :
    ∃ v', Graph μ v' (G.take k) ∧ ∀ (env : Env) (x y : Operand) (ki : IntKind) (hi : Int), evalE env x = some v → evalE env y = some (.int ki hi) → hi = (k : Int) → Pu P env (.slice tG x none (some y) none) v' := by
  obtain ⟨v', hr, hp⟩ := Row.hi (P := P) (t := tG) hG.1 k hk
  refine ⟨v', ⟨?_, fun x hx => hG.2 x (List.mem_of_mem_take hx)⟩, hp⟩
  rw [Nat.mul_one, flat_take gcs_len] at hr
  rwa [List.length_take, Nat.min_eq_left hk]
theorem icsk_one (xs : List Int) : (xs.flatMap (icsk .i64)).all Value.oneCell' = true := by
  rw [List.all_flatMap]; simp [icsk, Value.oneCell']
theorem pointer_one (G : List (Value × List Int)) (h : ∀ x ∈ G, ∃ A l c, x.1 = .slice A l c) : (G.flatMap gcs).all Value.oneCell' = true := by
  rw [List.all_flatMap, List.all_eq_true]
  intro x hx
  obtain ⟨A, l, c, e⟩ := h x hx
  simp [gcs, e, Value.oneCell']
end
theorem row_of_blk {μ : PH} {b t n l : Nat} {cs : List Value} (h : μ b = some (.cells cs.toArray t (0, 0))) (hl : cs.length = l * n) (hm : l ≤ maxLen) : Row μ (.slice (some ⟨b, 0, none⟩) l l) n l cs :=
  ⟨hl, _, _, rfl, Nat.le_refl _, hm, fun h => (by cases h), fun _ => ⟨b, 0, rfl, fun j u hj => ⟨cs.toArray, t, (0, 0), h, by rw [Nat.zero_add]; simpa using hj⟩⟩⟩
theorem idx {a b n : Nat} (hb : b < n) : (a * n + b) / n = a ∧ (a * n + b) % n = b := by
  have h0 : 0 < n := by omega
  constructor
  · rw [Nat.mul_comm, Nat.mul_add_div h0, Nat.div_eq_of_lt hb, Nat.add_zero]
  · rw [Nat.mul_comm, Nat.mul_add_mod, Nat.mod_eq_of_lt hb]
theorem idx_lt {a b n : Nat} (ha : a < n) (hb : b < n) : a * n + b < n * n := by
  have h1 : (a + 1) * n ≤ n * n := Nat.mul_le_mul_right n ha
  rw [Nat.succ_mul] at h1; omega
theorem Row.at_ {μ : PH} {v : Value} {xs : List Int} (h : Row μ v 1 xs.length (xs.flatMap (icsk .i64))) {i : Nat} {x : Int} (hi : xs[i]? = some x) : ∃ b off cap, v = .slice (some ⟨b, off, none⟩) xs.length cap ∧ CellAt μ b (off + i * 1) (.int .i64 x) := by
  have hl := (List.getElem?_eq_some_iff.1 hi).1
  obtain ⟨b, off, cap, hv, _, _, hr⟩ := h.pos (by omega)
  exact ⟨b, off, cap, hv, (hr.elem (icsk_len .i64) hi).cell⟩
/-- a row of numbers -/
def ncs (n : Nat) (c : Nat → Int) : List Value := (List.range n).map fun k => .int .i64 (c k)
theorem ncs_len (n : Nat) (c : Nat → Int) : (ncs n c).length = n := by simp [ncs]
theorem ncs_get {n k : Nat} (c : Nat → Int) (h : k < n) : (ncs n c)[k]? = some (.int .i64 (c k)) := by simp [ncs, h]
theorem ncs_zero (n : Nat) : List.replicate n (Value.int .i64 0) = ncs n (fun _ => 0) := by
  apply List.ext_getElem?
  intro j
  simp [ncs, List.getElem?_replicate]
  split <;> simp_all
theorem ncs_set {n x : Nat} {c d : Nat → Int} {v : Int} (h : ∀ k, d k = if k = x then v else c k) : (ncs n c).set x (.int .i64 v) = ncs n d := by
  apply List.ext_getElem?
  intro j
  by_cases hj : j < n
  · rw [ncs_get d hj, h]
    by_cases e : j = x
    · subst e; rw [List.getElem?_set_self (by rw [ncs_len]; exact hj), if_pos rfl]
    · rw [List.getElem?_set_ne (fun h => e h.symm), ncs_get c hj, if_neg e]
  · rw [List.getElem?_eq_none (by rw [List.length_set, ncs_len]; omega), List.getElem?_eq_none (by rw [ncs_len]; omega)]
theorem count_nodup {l : List Int} (h : l.Nodup) (a : Int) : l.count a = if a ∈ l then 1 else 0 := by
  induction l with
  | nil => simp
  | cons x l ih =>
    rw [List.nodup_cons] at h
    rw [List.count_cons, ih h.2]
    by_cases e : x = a
    · subst e; simp [h.1]
    · have e' : ¬ a = x := fun h => e h.symm
      simp [e, e']
theorem flat_len_le {l : List (Value × List Int)} {m : Nat} (h : ∀ x ∈ l, x.2.length ≤ m) : (l.flatMap (·.2)).length ≤ m * l.length := by
  induction l with
  | nil => simp
  | cons x l ih =>
    rw [List.flatMap_cons, List.length_append, List.length_cons, Nat.mul_succ]
    have := h x (List.mem_cons_self ..)
    have := ih fun y hy => h y (List.mem_cons_of_mem _ hy)
    omega
theorem own_empty {e n b : Nat} {L : List Assn} : Ent (blk b e [] :: L) (own e n (.slice (some ⟨b, 0, none⟩) 0 0) 0 [] :: L) :=
  own_close (e := e) (n := n) (b := b) (l := 0) (cap := 0) (xs := []) (ex := []) (by simp) (by simp) (Nat.le_refl _) (Nat.zero_le _) (L := L)
end SX
namespace SX
open Go

def cnt (n : Int) : Int := if 1023 < n then 1024 else max n 1
def hiG (l : List Int) : Int := l.foldl (fun h p => max h (cnt p)) 0
/-- one above the parents -/
def nxt (l : List Int) : Int := if 1023 ≤ hiG l then hiG l else hiG l + 1
def mayG (a b : Int) : Bool := if cnt a = 1024 then true else if cnt b = 1024 then false else if cnt a = 1023 then true else decide (cnt b < cnt a)
def inR (n : Nat) (p : Int) : Bool := decide (0 ≤ p) && decide (p < n)
def okRow (n : Nat) (l : List Int) : Bool := l.all (inR n) && decide l.Nodup
def valsG (all l : List Int) : List Int := l.map fun p => all.getD p.toNat 0
def moreG : List Int → List (List Int) → Option (List Int)
  | all, [] => some all
  | all, r :: g => if okRow all.length r = true then moreG (all ++ [nxt (valsG all r)]) g else none

theorem cnt_range (n : Int) : 1 ≤ cnt n ∧ cnt n ≤ 1024 := by unfold cnt; split <;> omega
theorem hiG_append (l : List Int) (p : Int) : hiG (l ++ [p]) = max (hiG l) (cnt p) := by unfold hiG; rw [List.foldl_append]; rfl
theorem hiG_range : ∀ l : List Int, 0 ≤ hiG l ∧ hiG l ≤ 1024 := fun l => by
  have key : ∀ (l : List Int) (h : Int), 0 ≤ h → h ≤ 1024 → 0 ≤ l.foldl (fun h p => max h (cnt p)) h ∧ l.foldl (fun h p => max h (cnt p)) h ≤ 1024 := fun l => by
    induction l with
    | nil => exact fun h h1 h2 => ⟨h1, h2⟩
    | cons p l ih => exact fun h h1 h2 => ih (max h (cnt p)) (by have := cnt_range p; omega) (by have := cnt_range p; omega)
  exact key l 0 (by omega) (by omega)
theorem nxt_range (l : List Int) : 1 ≤ nxt l ∧ nxt l ≤ 1024 := by have := hiG_range l; unfold nxt; split <;> omega
theorem valsG_append (all l : List Int) (p : Int) : valsG all (l ++ [p]) = valsG all l ++ [all.getD p.toNat 0] := by unfold valsG; rw [List.map_append]; rfl
theorem moreG_append : ∀ (g1 g2 : List (List Int)) (all : List Int), moreG all (g1 ++ g2) = (moreG all g1).bind fun a => moreG a g2
  | [], _, _ => rfl
  | r :: g1, g2, all => by
    rw [List.cons_append, moreG, moreG]
    split
    · exact moreG_append g1 g2 _
    · rfl
theorem moreG_len : ∀ {g : List (List Int)} {all out : List Int}, moreG all g = some out → out.length = all.length + g.length ∧ out.take all.length = all
  | [], all, out, h => by
    obtain rfl : all = out := by simpa [moreG] using h
    simp
  | r :: g, all, out, h => by
    rw [moreG] at h
    split at h
    · obtain ⟨h1, h2⟩ := moreG_len h
      rw [List.length_append, List.length_singleton] at h1 h2
      refine ⟨by rw [h1, List.length_cons]; omega, ?_⟩
      have : (out.take (all.length + 1)).take all.length = (all ++ [nxt (valsG all r)]).take all.length := by rw [h2]
      rw [List.take_take, Nat.min_eq_left (by omega), List.take_left'] at this
      · exact this
      · rfl
    · cases h
theorem moreG_at {g : List (List Int)} {all : List Int} {i : Nat} {r : List Int} {a : List Int} (h : moreG all (g.take i) = some a) (hi : g[i]? = some r) : moreG all (g.take (i + 1)) = if okRow a.length r = true then some (a ++ [nxt (valsG a r)]) else none := by
  rw [List.take_add_one, hi]
  show moreG all (g.take i ++ [r]) = _
  rw [moreG_append, h]
  show moreG a [r] = _
  rw [moreG]
  split <;> rfl
theorem moreG_none {g : List (List Int)} {all : List Int} {i : Nat} (h : moreG all (g.take i) = none) : moreG all g = none := by
  have := moreG_append (g.take i) (g.drop i) all
  rw [List.take_append_drop, h] at this
  exact this

/-! what a row's check says -/
theorem rowErr_ok {c : Nat} : ∀ {l s : List Int}, rowErr c s l = 0 ↔ (∀ p ∈ l, 0 ≤ p ∧ p < c) ∧ l.Nodup ∧ ∀ p ∈ l, p ∉ s
  | [], s => by simp [rowErr]
  | q :: l, s => by
    unfold rowErr
    by_cases h1 : q < 0
    · rw [if_pos h1]
      exact ⟨fun h => (by cases h), fun ⟨h, _⟩ => by have := h q (List.mem_cons_self ..); omega⟩
    · rw [if_neg h1]
      by_cases h2 : (c : Int) ≤ q
      · rw [if_pos h2]
        exact ⟨fun h => (by cases h), fun ⟨h, _⟩ => by have := h q (List.mem_cons_self ..); omega⟩
      · rw [if_neg h2]
        by_cases h3 : q ∈ s
        · rw [if_pos h3]
          exact ⟨fun h => (by cases h), fun ⟨_, _, h⟩ => absurd h3 (h q (List.mem_cons_self ..))⟩
        · rw [if_neg h3, rowErr_ok, List.nodup_cons]
          constructor
          · rintro ⟨h4, h5, h6⟩
            refine ⟨fun p hp => ?_, ⟨fun hq => ?_, h5⟩, fun p hp => ?_⟩
            · rcases List.mem_cons.1 hp with rfl | hp
              · omega
              · exact h4 p hp
            · exact h6 q hq (by simp)
            · rcases List.mem_cons.1 hp with rfl | hp
              · exact h3
              · exact fun hs => h6 p hp (by simp [hs])
          · rintro ⟨h4, ⟨h5, h6⟩, h7⟩
            refine ⟨fun p hp => h4 p (List.mem_cons_of_mem _ hp), h6, fun p hp hs => ?_⟩
            rcases List.mem_append.1 hs with hs | hs
            · exact h7 p (List.mem_cons_of_mem _ hp) hs
            · obtain rfl := List.mem_singleton.1 hs
              exact h5 hp
theorem okRow_iff {n : Nat} {l : List Int} : okRow n l = true ↔ (∀ p ∈ l, 0 ≤ p ∧ p < n) ∧ l.Nodup := by
  unfold okRow inR
  simp only [Bool.and_eq_true, List.all_eq_true, decide_eq_true_eq]
theorem okRow_err {n : Nat} {l : List Int} : okRow n l = true ↔ rowErr n [] l = 0 := by
  rw [okRow_iff, rowErr_ok]
  exact ⟨fun ⟨a, b⟩ => ⟨a, b, fun _ _ h => by cases h⟩, fun ⟨a, b, _⟩ => ⟨a, b⟩⟩
theorem moreG_chk : ∀ {g : List (List Int)} {all : List Int}, (moreG all g).isSome = true ↔ chkFrom all.length g = 0
  | [], all => by simp [moreG, chkFrom]
  | r :: g, all => by
    rw [moreG, chkFrom]
    by_cases h : okRow all.length r = true
    · rw [if_pos h, if_pos (okRow_err.1 h), moreG_chk]
      simp
    · rw [if_neg h, if_neg (fun e => h (okRow_err.2 e))]
      exact ⟨fun e => (by cases e), fun e => absurd (okRow_err.2 e) h⟩

/-! sorted lists -/
theorem sorted_ok {l : List Int} (n : Nat) (hs : l.Pairwise (· ≤ ·)) (h : ∀ (i : Nat) (p : Int), l[i]? = some p → 0 ≤ p ∧ p < n ∧ (0 < i → l[i - 1]? ≠ some p)) : okRow n l = true := by
  rw [okRow_iff]
  refine ⟨fun p hp => ?_, ?_⟩
  · obtain ⟨i, hi⟩ := List.getElem?_of_mem hp
    exact ⟨(h i p hi).1, (h i p hi).2.1⟩
  · rw [List.nodup_iff_pairwise_ne, List.pairwise_iff_getElem]
    intro i j hi hj hij he
    have hmono : ∀ a b (ha : a < l.length) (hb : b < l.length), a ≤ b → l[a] ≤ l[b] := fun a b ha hb hab => by
      rcases Nat.lt_or_eq_of_le hab with h1 | h1
      · exact List.pairwise_iff_getElem.1 hs a b ha hb h1
      · subst h1; exact Int.le_refl _
    have h1 := hmono i (j - 1) hi (by omega) (by omega)
    have h2 := hmono (j - 1) j (by omega) hj (by omega)
    have h3 := (h j l[j] (List.getElem?_eq_getElem hj)).2.2 (by omega)
    apply h3
    rw [List.getElem?_eq_getElem (by omega)]
    have : l[j - 1] = l[j] := by omega
    rw [this]
theorem sorted_not {l : List Int} (n : Nat) {i : Nat} {p : Int} (hi : l[i]? = some p) (h : p < 0 ∨ (n : Int) ≤ p ∨ (0 < i ∧ l[i - 1]? = some p)) : okRow n l = false := by
  rw [Bool.eq_false_iff]
  intro hk
  rw [okRow_iff] at hk
  have h1 := hk.1 p (List.mem_of_getElem? hi)
  rcases h with h | h | ⟨h0, h⟩
  · omega
  · omega
  · have hl := (List.getElem?_eq_some_iff.1 hi).1
    have := (List.getElem?_inj hl hk.2).1 (hi.trans h.symm)
    omega
theorem okRow_perm {n : Nat} {l l' : List Int} (h : l.Perm l') : okRow n l = okRow n l' := by
  rw [Bool.eq_iff_iff, okRow_iff, okRow_iff, h.nodup_iff]
  exact ⟨fun ⟨a, b⟩ => ⟨fun p hp => a p (h.mem_iff.2 hp), b⟩, fun ⟨a, b⟩ => ⟨fun p hp => a p (h.mem_iff.1 hp), b⟩⟩
/-- sorted, of the integers -/
def srt (xs : List Int) : List Int := xs.mergeSort fun x y => decide (x ≤ y)
theorem srt_perm (xs : List Int) : (srt xs).Perm xs := List.mergeSort_perm ..
theorem srt_len (xs : List Int) : (srt xs).length = xs.length := (srt_perm xs).length_eq
theorem mergeSort_le (l : List Int) : (l.mergeSort fun x y => decide (x ≤ y)).Pairwise (· ≤ ·) := by
  have := List.pairwise_mergeSort (le := fun x y : Int => decide (x ≤ y)) (fun a b c h1 h2 => by simp at *; omega) (fun a b => by simp; omega) l
  exact this.imp fun h => by simpa using h

/-! the numbers of a whole graph -/
theorem valsG_take {gs : List Int} {i : Nat} {r : List Int} (h : ∀ p ∈ r, 0 ≤ p ∧ p < i) : valsG (gs.take i) r = valsG gs r := by
  unfold valsG
  apply List.map_congr_left
  intro p hp
  have := h p hp
  rw [List.getD_eq_getElem?_getD, List.getD_eq_getElem?_getD, List.getElem?_take_of_lt (by omega)]
theorem gens_at {g : List (List Int)} {gs : List Int} (h : moreG [] g = some gs) {i : Nat} {r : List Int} (hi : g[i]? = some r) : gs[i]? = some (nxt (valsG gs r)) ∧ okRow i r = true := by
  have hl := (List.getElem?_eq_some_iff.1 hi).1
  have h1 := moreG_append (g.take i) (g.drop i) []
  rw [List.take_append_drop, h] at h1
  cases ha : moreG [] (g.take i) with
  | none => rw [ha] at h1; cases h1
  | some a =>
    rw [ha] at h1
    have hal := (moreG_len ha).1
    rw [List.length_nil, List.length_take, Nat.min_eq_left (by omega), Nat.zero_add] at hal
    have hd : g.drop i = r :: g.drop (i + 1) := by
      rw [List.drop_eq_getElem_cons hl, (List.getElem?_eq_some_iff.1 hi).2]
    rw [hd] at h1
    replace h1 : some gs = moreG a (r :: g.drop (i + 1)) := h1
    rw [moreG] at h1
    by_cases hok : okRow a.length r = true
    · rw [if_pos hok] at h1
      have h2 := moreG_len h1.symm
      rw [List.length_append, List.length_singleton, hal] at h2
      have hta : gs.take i = a := by
        have h3 : (gs.take (i + 1)).take i = (a ++ [nxt (valsG a r)]).take i := by rw [h2.2]
        rw [List.take_take, Nat.min_eq_left (by omega), List.take_left' hal] at h3
        exact h3
      rw [hal] at hok
      refine ⟨?_, hok⟩
      have h4 : (gs.take (i + 1))[i]? = some (nxt (valsG a r)) := by
        rw [h2.2, List.getElem?_append_right (by omega), hal, Nat.sub_self]; rfl
      rw [List.getElem?_take_of_lt (by omega)] at h4
      rw [h4, ← hta, valsG_take (okRow_iff.1 hok).1]
    · rw [if_neg hok] at h1; cases h1
theorem hiG_mem {l : List Int} {x : Int} (h : x ∈ l) : cnt x ≤ hiG l := by
  have key : ∀ (l : List Int) (h : Int), h ≤ l.foldl (fun h p => max h (cnt p)) h ∧ ∀ x ∈ l, cnt x ≤ l.foldl (fun h p => max h (cnt p)) h := fun l => by
    induction l with
    | nil => exact fun h => ⟨Int.le_refl _, fun _ h => by cases h⟩
    | cons p l ih =>
      intro h
      have := ih (max h (cnt p))
      refine ⟨by have := this.1; rw [List.foldl_cons]; omega, fun x hx => ?_⟩
      rw [List.foldl_cons]
      rcases List.mem_cons.1 hx with rfl | hx
      · have := this.1; omega
      · exact this.2 x hx
  exact (key l 0).2 x h
theorem hiG_le {l : List Int} {m : Int} (h0 : 0 ≤ m) (h : ∀ x ∈ l, cnt x ≤ m) : hiG l ≤ m := by
  have key : ∀ (l : List Int) (h : Int), h ≤ m → (∀ x ∈ l, cnt x ≤ m) → l.foldl (fun h p => max h (cnt p)) h ≤ m := fun l => by
    induction l with
    | nil => exact fun h h1 _ => h1
    | cons p l ih =>
      intro h h1 h2
      rw [List.foldl_cons]
      exact ih (max h (cnt p)) (by have := h2 p (List.mem_cons_self ..); omega) fun x hx => h2 x (List.mem_cons_of_mem _ hx)
  exact key l 0 h0 h
theorem cnt_id {n : Int} (h1 : 1 ≤ n) (h2 : n ≤ 1024) : cnt n = n := by unfold cnt; split <;> omega
theorem gens_len {g : List (List Int)} {gs : List Int} (h : moreG [] g = some gs) : gs.length = g.length := by have := (moreG_len h).1; rwa [List.length_nil, Nat.zero_add] at this
/-- below the greatest, and no more than there are commits -/
theorem gens_range {g : List (List Int)} {gs : List Int} (h : moreG [] g = some gs) : ∀ (i : Nat) (x : Int), gs[i]? = some x → 1 ≤ x ∧ x ≤ 1023 ∧ x ≤ i + 1 := by
  intro i
  induction i using Nat.strongRecOn with
  | _ i ih =>
    intro x hx
    have hl := (List.getElem?_eq_some_iff.1 hx).1
    rw [gens_len h] at hl
    obtain ⟨h1, h2⟩ := gens_at h (List.getElem?_eq_getElem hl)
    generalize g[i] = r at *
    rw [h1] at hx
    obtain rfl := Option.some.inj hx
    have hv : ∀ y ∈ valsG gs r, 1 ≤ y ∧ y ≤ 1023 ∧ y ≤ i := fun y hy => by
      unfold valsG at hy
      obtain ⟨p, hp, rfl⟩ := List.mem_map.1 hy
      have hpr := (okRow_iff.1 h2).1 p hp
      obtain ⟨q, rfl⟩ : ∃ q : Nat, p = q := ⟨p.toNat, by omega⟩
      have hql : q < gs.length := by rw [gens_len h]; omega
      rw [Int.toNat_natCast, List.getD_eq_getElem?_getD, List.getElem?_eq_getElem hql]
      have := ih q (by omega) _ (List.getElem?_eq_getElem hql)
      show 1 ≤ gs[q] ∧ gs[q] ≤ 1023 ∧ gs[q] ≤ i
      omega
    have hh1 := hiG_le (l := valsG gs r) (m := 1023) (by omega) fun y hy => by rw [cnt_id (hv y hy).1 (by have := hv y hy; omega)]; exact (hv y hy).2.1
    have hh2 := hiG_le (l := valsG gs r) (m := i) (by omega) fun y hy => by rw [cnt_id (hv y hy).1 (by have := hv y hy; omega)]; exact (hv y hy).2.2
    have h0 := (hiG_range (valsG gs r)).1
    unfold nxt
    split <;> omega
theorem gens_parent {g : List (List Int)} {gs : List Int} (h : moreG [] g = some gs) {i p : Nat} {x y : Int} (hp : (p : Int) ∈ rowOf g i) (hx : gs[i]? = some x) (hy : gs[p]? = some y) : y < x ∨ x = 1023 := by
  have hl := (List.getElem?_eq_some_iff.1 hx).1
  rw [gens_len h] at hl
  have hr := List.getElem?_eq_getElem hl
  obtain ⟨h1, h2⟩ := gens_at h hr
  rw [rowOf_at hr] at hp
  generalize g[i] = r at *
  have hrx := gens_range h i x hx
  have hry := gens_range h p y hy
  rw [h1] at hx
  obtain rfl := Option.some.inj hx
  have hm : y ∈ valsG gs r := by
    unfold valsG
    exact List.mem_map.2 ⟨p, hp, by rw [Int.toNat_natCast, List.getD_eq_getElem?_getD, hy]; rfl⟩
  have := hiG_mem hm
  rw [cnt_id hry.1 (by omega)] at this
  unfold nxt at hrx ⊢
  split <;> split at hrx <;> omega
theorem gens_good {g : List (List Int)} {gs : List Int} (h : moreG [] g = some gs) : Good g := fun _ _ hl p hp => (okRow_iff.1 (gens_at h hl).2).1 p hp
theorem reach_gens {g : List (List Int)} {gs : List Int} (h : moreG [] g = some gs) {a b : Nat} (hr : Reach g a b) : ∀ {x y : Int}, a ≠ b → gs[a]? = some x → gs[b]? = some y → y < x ∨ x = 1023 := by
  induction hr with
  | refl => exact fun h => absurd rfl h
  | @step a p j hp hr ih =>
    intro x y _ hx hy
    have hg := gens_good h
    have hpl : p < gs.length := by have := row_good hg hp; rw [gens_len h]; omega
    obtain ⟨z, hz⟩ : ∃ z, gs[p]? = some z := ⟨_, List.getElem?_eq_getElem hpl⟩
    have h1 := gens_parent h hp hx hz
    have hrx := gens_range h a x hx
    by_cases e : p = j
    · subst e
      rw [hz] at hy
      obtain rfl := Option.some.inj hy
      exact h1
    · have h2 := ih e hz hy
      omega
/-- the numbers, of which the first k are known -/
def cutG (k : Nat) (gs : List Int) : List Int := (List.range gs.length).map fun i => if i < k then gs.getD i 0 else 1024
theorem cutG_at {k i : Nat} {gs : List Int} {x : Int} (h : gs[i]? = some x) : (cutG k gs)[i]? = some (if i < k then x else 1024) := by
  have hl := (List.getElem?_eq_some_iff.1 h).1
  unfold cutG
  rw [List.getElem?_map, List.getElem?_range hl]
  simp [List.getD_eq_getElem?_getD, h]
theorem cutG_len (k : Nat) (gs : List Int) : (cutG k gs).length = gs.length := by simp [cutG]
/-- whoever reaches may reach -/
theorem reach_may {g : List (List Int)} {gs : List Int} (h : moreG [] g = some gs) {a b k : Nat} (hr : Reach g a b) (hne : a ≠ b) {x y : Int} (hx : (cutG k gs)[a]? = some x) (hy : (cutG k gs)[b]? = some y) : mayG x y = true := by
  have hg := gens_good h
  have hlt := hr.lt hg hne
  have hal : a < gs.length := by rw [gens_len h]; omega
  obtain ⟨u, hu⟩ : ∃ z, gs[a]? = some z := ⟨_, List.getElem?_eq_getElem hal⟩
  obtain ⟨v, hv⟩ : ∃ z, gs[b]? = some z := ⟨_, List.getElem?_eq_getElem (by omega)⟩
  rw [cutG_at hu] at hx
  rw [cutG_at hv] at hy
  obtain rfl := Option.some.inj hx
  obtain rfl := Option.some.inj hy
  have hru := gens_range h a u hu
  have hrv := gens_range h b v hv
  have := reach_gens h hr hne hu hv
  by_cases h1 : a < k
  · have e1 : (if a < k then u else 1024) = u := if_pos h1
    have e2 : (if b < k then v else 1024) = v := if_pos (by omega)
    rw [e1, e2]
    unfold mayG
    rw [cnt_id (n := u) (by omega) (by omega), cnt_id (n := v) (by omega) (by omega), if_neg (by omega), if_neg (by omega)]
    split
    · rfl
    · exact decide_eq_true (by omega)
  · have e1 : (if a < k then u else 1024) = 1024 := if_neg h1
    rw [e1]
    unfold mayG
    exact if_pos rfl
end SX
namespace SX
open Go

/-- into its place in a falling list -/
def insD (x : Nat) : List Nat → List Nat
  | [] => [x]
  | y :: l => if y < x then x :: y :: l else y :: insD x l
def Falls (l : List Nat) : Prop := l.Pairwise (fun a b => b < a)
theorem mem_insD {x k : Nat} : ∀ {l : List Nat}, k ∈ insD x l ↔ k = x ∨ k ∈ l
  | [] => by simp [insD]
  | y :: l => by
    unfold insD
    split
    · simp
    · rw [List.mem_cons, mem_insD, List.mem_cons]
      constructor
      · rintro (h | h | h)
        · exact .inr (.inl h)
        · exact .inl h
        · exact .inr (.inr h)
      · rintro (h | h | h)
        · exact .inr (.inl h)
        · exact .inl h
        · exact .inr (.inr h)
theorem insD_falls {x : Nat} : ∀ {l : List Nat}, Falls l → x ∉ l → Falls (insD x l)
  | [], _, _ => by simp [insD, Falls]
  | y :: l, h, hx => by
    obtain ⟨h1, h2⟩ := List.pairwise_cons.1 h
    unfold insD
    split
    · rename_i hy
      exact List.pairwise_cons.2 ⟨fun z hz => by
        rcases List.mem_cons.1 hz with rfl | hz
        · exact hy
        · have := h1 z hz; omega, h⟩
    · rename_i hy
      refine List.pairwise_cons.2 ⟨fun z hz => ?_, insD_falls h2 (fun hm => hx (List.mem_cons_of_mem _ hm))⟩
      rcases mem_insD.1 hz with rfl | hz
      · have : y ≠ z := fun e => hx (by rw [e]; exact List.mem_cons_self ..)
        omega
      · exact h1 z hz
/-- a walker: what was seen, what is to come -/
abbrev Wk := (Nat → Bool) × List Nat
def addW (n : Nat) (s : Wk) (c : Int) : Wk := if (decide (0 ≤ c) && (decide (c < n) && !s.1 c.toNat)) = true then (fun j => s.1 j || decide (j = c.toNat), insD c.toNat s.2) else s
def addAll (n : Nat) (s : Wk) (l : List Int) : Wk := l.foldl (addW n) s
theorem addAll_succ {n : Nat} {s : Wk} {l : List Int} {i : Nat} {c : Int} (h : l[i]? = some c) : addAll n s (l.take (i + 1)) = addW n (addAll n s (l.take i)) c := by
  unfold addAll
  rw [List.take_add_one, h, List.foldl_append]; rfl
/-- below m just the queue was seen -/
structure WkI (n m : Nat) (s : Wk) : Prop where
  falls : Falls s.2
  lt : ∀ q ∈ s.2, q < m
  seen : ∀ k, k < m → (s.1 k = true ↔ k ∈ s.2)
theorem WkI.add {n m : Nat} {s : Wk} {c : Int} (h : WkI n m s) (hc : 0 ≤ c ∧ c < m) (hm : m ≤ n) :
    WkI n m (addW n s c) ∧ (∀ k, k ∈ (addW n s c).2 ↔ k ∈ s.2 ∨ (k : Int) = c) ∧ (∀ k, (addW n s c).1 k = true ↔ s.1 k = true ∨ (k : Int) = c) := by
  obtain ⟨j, rfl⟩ : ∃ j : Nat, c = j := ⟨c.toNat, by omega⟩
  have hj : j < m := by omega
  unfold addW
  rw [Int.toNat_natCast, decide_eq_true hc.1, decide_eq_true (show (j : Int) < n by omega), Bool.true_and, Bool.true_and]
  by_cases hs : s.1 j = true
  · rw [hs]
    have hq := (h.seen j hj).1 hs
    refine ⟨h, fun k => ⟨.inl, ?_⟩, fun k => ⟨.inl, ?_⟩⟩
    · rintro (h | h)
      · exact h
      · obtain rfl : k = j := by omega
        exact hq
    · rintro (h | h)
      · exact h
      · obtain rfl : k = j := by omega
        exact hs
  · have hs' : s.1 j = false := by simpa using hs
    rw [hs', if_pos (show (!false) = true from rfl)]
    have hq : j ∉ s.2 := fun hm => hs ((h.seen j hj).2 hm)
    refine ⟨⟨insD_falls h.falls hq, fun q hq => ?_, fun k hk => ?_⟩, fun k => ?_, fun k => ?_⟩
    · rcases mem_insD.1 hq with rfl | hq
      · exact hj
      · exact h.lt q hq
    · show (s.1 k || decide (k = j)) = true ↔ k ∈ insD j s.2
      rw [mem_insD, Bool.or_eq_true, decide_eq_true_eq, h.seen k hk]
      exact Or.comm
    · show k ∈ insD j s.2 ↔ _
      rw [mem_insD, Or.comm]
      exact or_congr Iff.rfl (by omega)
    · show (s.1 k || decide (k = j)) = true ↔ _
      rw [Bool.or_eq_true, decide_eq_true_eq]
      exact or_congr Iff.rfl (by omega)
theorem WkI.addAll {n m : Nat} : ∀ {l : List Int} {s : Wk}, WkI n m s → (∀ p ∈ l, 0 ≤ p ∧ p < m) → m ≤ n →
    WkI n m (addAll n s l) ∧ (∀ k, k ∈ (addAll n s l).2 ↔ k ∈ s.2 ∨ (k : Int) ∈ l) ∧ (∀ k, (addAll n s l).1 k = true ↔ s.1 k = true ∨ (k : Int) ∈ l)
  | [], s, h, _, _ => ⟨h, fun k => by simp [SX.addAll], fun k => by simp [SX.addAll]⟩
  | c :: l, s, h, hl, hm => by
    obtain ⟨h1, h2, h3⟩ := h.add (hl c (List.mem_cons_self ..)) hm
    obtain ⟨k1, k2, k3⟩ := WkI.addAll h1 (fun p hp => hl p (List.mem_cons_of_mem _ hp)) hm
    have e : SX.addAll n s (c :: l) = SX.addAll n (addW n s c) l := rfl
    rw [e]
    refine ⟨k1, fun k => ?_, fun k => ?_⟩
    · rw [k2, h2, List.mem_cons, or_assoc]
    · rw [k3, h3, List.mem_cons, or_assoc]
/-- the next one comes out -/
theorem WkI.pop {n m c : Nat} {S : Nat → Bool} {Q : List Nat} (h : WkI n m (S, c :: Q)) : WkI n c (S, Q) := by
  obtain ⟨h1, h2⟩ := List.pairwise_cons.1 h.falls
  refine ⟨h2, fun q hq => h1 q hq, fun k hk => ?_⟩
  have hc := h.lt c (List.mem_cons_self ..)
  refine (h.seen k (by omega)).trans ?_
  show k ∈ c :: Q ↔ k ∈ Q
  rw [List.mem_cons]
  exact ⟨fun h => h.resolve_left (by omega), .inr⟩
theorem WkI.start (n : Nat) : WkI n n (fun _ => false, []) := ⟨.nil, fun _ h => (by cases h), fun _ _ => ⟨fun h => (by cases h), fun h => (by cases h)⟩⟩

/-! what is reached -/
def seedS (l : List Int) : Nat → Bool := fun k => decide ((k : Int) ∈ l)
/-- all that some reach -/
def anyUp (g : List (List Int)) (n : Nat) (l : List Int) : Nat → Bool := upF g n (seedS l)
theorem anyUp_iff {g : List (List Int)} (hg : Good g) {l : List Int} (hl : ∀ p ∈ l, p < g.length) (j : Nat) : anyUp g g.length l j = true ↔ ∃ i : Nat, (i : Int) ∈ l ∧ Reach g i j := by
  unfold anyUp
  rw [upF_iff hg g.length _ (fun i hi hs => by have := hl _ (of_decide_eq_true hs); omega) j]
  exact ⟨fun ⟨i, h1, h2⟩ => ⟨i, of_decide_eq_true h1, h2⟩, fun ⟨i, h1, h2⟩ => ⟨i, decide_eq_true h1, h2⟩⟩
/-- nothing happens at a commit that isn't in -/
theorem stepUp_no {g : List (List Int)} {c : Nat} {S : Nat → Bool} (h : S c = false) : stepUp g c S = S := funext fun j => by unfold stepUp; rw [h, Bool.false_and, Bool.or_false]
theorem upF_skip {g : List (List Int)} {S : Nat → Bool} {c : Nat} : ∀ {m : Nat}, c ≤ m → (∀ i, c ≤ i → i < m → S i = false) → upF g m S = upF g c S
  | 0, h, _ => by obtain rfl : c = 0 := by omega
                  rfl
  | m + 1, h, hz => by
    by_cases e : c = m + 1
    · rw [e]
    · show upF g m (stepUp g m S) = _
      rw [stepUp_no (hz m (by omega) (by omega))]
      exact upF_skip (by omega) fun i h1 h2 => hz i h1 (by omega)
/-- one set that goes down with the walk: from m on all is done -/
theorem upF_pop {g : List (List Int)} {S : Nat → Bool} {m c : Nat} (hc : c < m) (hz : ∀ i, c < i → i < m → S i = false) : upF g m S = upF g c (stepUp g c S) := by
  rw [upF_skip (c := c + 1) (by omega) (fun i h1 h2 => hz i (by omega) h2)]; rfl
theorem upF_end {g : List (List Int)} {S : Nat → Bool} {m : Nat} (hz : ∀ i, i < m → S i = false) : upF g m S = S := upF_skip (Nat.zero_le _) fun i _ h => hz i h
end SX
namespace SX
open Go
variable {P : Program} {Q : Post} {N : Nat} {env : Env} {L : List Assn}

theorem YSp.ent {l : Nat} {args : List Value} {pre pre' : List Assn} {post post' : Value → List Assn → Prop} (h : YSp P l args pre post) (h1 : Ent pre' pre) (h2 : ∀ v L, post v L → ∃ L', Ent L L' ∧ post' v L') : YSp P l args pre' post' := fun E w hw => by
  obtain ⟨f, t, a, b, r1, r2⟩ := h E w (hw.ent h1)
  exact ⟨f, t, a, b, r1, fun ro => (r2 ro).mono fun e w' ⟨v, L', e1, p, k⟩ => let ⟨L2, e2, p2⟩ := h2 v L' p; ⟨v, L2, e1, p2, k.ent e2⟩⟩

/-- an iterator's contract: of its own A it shows Sh at a yield, and Bk comes back; K is what it leaves -/
def IterG {α : Type} (P : Program) (f : FuncId) (ca : List Value) (enc : α → List Value) (ok : List α → α → Prop) (fin : List α → Prop) (A : List Assn) (Sh Bk : List α → α → Assn) (K : List α → Assn) : Prop :=
  ∀ (l : Nat) (I : List α → Assn) (X R : Assn), Ent [R] [I []] →
    (∀ pre x, ok pre x → YSp P l (enc x) [I pre, Sh pre x] (fun v L' => (v = .bool true ∧ L' = [I (pre ++ [x]), Bk pre x]) ∨ (v = .bool false ∧ L' = [X]))) →
    Spec P f (yv l :: ca) (A ++ [R]) (fun _ L' => (∃ ys, fin ys ∧ L' = [I ys, K ys]) ∨ L' = [X])

theorem star2 {A B : Assn} : Ent [star [A, B]] [A, B] := star_ent (L := [])
theorem star_in {A B C : Assn} : Ent [star [A, B], C] [star [A, star [B, C]]] :=
  (star_ent (K := [A, B]) (L := [C])).trans ((Ent.cons star_close1).trans star_close1)
theorem star_out {A B C : Assn} : Ent [star [A, star [B, C]]] [star [A, B], C] :=
  (star_ent (K := [A, star [B, C]]) (L := [])).trans ((Ent.cons (star_ent (K := [B, C]) (L := []))).trans (star_close (K := [A, B]) (L := [C])))

theorem swp_rangeG {α : Type} {g : Operand} {ps : List Tmp} {assign body : Code} {f : FuncId} [hbf : Body P f] {ca : List Value} {enc : α → List Value} {ok : List α → α → Prop} {fin : List α → Prop} {A B : List Assn} {Sh Bk : List α → α → Assn} {K : List α → Assn}
    (it : IterG P f ca enc ok fin A Sh Bk K) (C : List α → Assn) (Cr : Assn) (Cx : Nat → Assn)
    (hg : evalE env g = some (.func (.func f) #[] ca.toArray)) (hps : ps.all (Nat.blt · N) = true) (hlen : ∀ x, (enc x).length = ps.length)
    (hL : Ent L (A ++ B)) (h0 : Ent B [C []])
    (round : ∀ l pre x, ok pre x → swp P (some l) assign (SThen (fun env' L' => swp P (some l) body (RndQ (star [C (pre ++ [x]), Bk pre x]) Cr Cx) N env' L') (fun _ _ _ => False)) N (bindE ps (enc x) env) [star [C pre, Sh pre x]])
    (kn : ∀ ys, fin ys → Q .normal env [C ys, K ys]) (kr : swp P none .ret Q N env [Cr]) (kx : ∀ i, swp P none (.exit i) Q N env [Cx i]) :
    swp P none (.rangeFunc g ps.toArray assign body) Q N env L := by
  intro E D a w hd hf hh
  refine wpIn_rangeFunc fun fn _ => ?_
  obtain ⟨rec, hr⟩ : ∃ rec : LoopState → Option Code → Loop, rec = fun st pe => { state := st, pending := pe, fn, tmps := a.tmps, params := ps.toArray, assign, body, defers := w.heap.size } := ⟨_, rfl⟩
  have hrec : RecOf rec N env ps assign body := ⟨fn, a.tmps, w.heap.size, ⟨hf.1, hf.2⟩, hr⟩
  have hW1 := (hh.alloc (.deferred (some []))).alloc (.loop (rec .ready none))
  rw [World.size_alloc] at hW1
  have hE := hf.ev _ _ hg
  refine ⟨w.heap.size + 1, [mark w.heap.size], (w.alloc (.deferred (some []))).alloc (.loop (rec .ready none)), { target := .fn (.func f) ca.toArray, args := #[yv (w.heap.size + 1)] }, (w.alloc (.deferred (some []))).alloc (.loop (rec .ready none)), f, #[yv (w.heap.size + 1)] ++ ca.toArray, (w.alloc (.deferred (some []))).alloc (.loop (rec .ready none)),
    by rw [hr]; exact run_enterLoop_outer _ _ _ _ _, ?_, fun _ _ => trivial, ?_, fun hd => (by cases hd), ?_⟩
  · simp only [resolve, hE]
    simp [go_sem, yv]
  · simp [invoke, go_sem, run_callFunc]
  · have hs := it (w.heap.size + 1) (fun pre => star [lp rec (w.heap.size + 1) .ready none, C pre]) (Left rec (w.heap.size + 1) Cr Cx) (star (lp rec (w.heap.size + 1) .ready none :: B))
      ((star_ent (L := [])).trans (Ent.trans (L2 := lp rec (w.heap.size + 1) .ready none :: [C []]) (by rw [List.append_nil]; exact Ent.cons h0) star_close1))
      (fun pre x hok => (ysp_round hrec (hlen x) hps (round _ pre x hok)).ent star_in (fun v L' hp => by
        rcases hp with ⟨rfl, rfl⟩ | ⟨rfl, rfl⟩
        · exact ⟨_, star_out, .inl ⟨rfl, rfl⟩⟩
        · exact ⟨_, Ent.refl _, .inr ⟨rfl, rfl⟩⟩))
    have hE2 : H (E.add (w.heap.size :: D)) ((w.alloc (.deferred (some []))).alloc (.loop (rec .ready none))) (A ++ [star (lp rec (w.heap.size + 1) .ready none :: B)]) := by
      have b1 : H (E.add (w.heap.size :: D)) ((w.alloc (.deferred (some []))).alloc (.loop (rec .ready none))) (lp rec (w.heap.size + 1) .ready none :: L) := by
        refine ⟨hW1.1, hW1.2.1, hW1.2.2.1, hW1.2.2.2.1, Sat.perm ?_ _ hW1.2.2.2.2⟩
        show ((dfr D ++ E.X) ++ (_ :: one _ _ :: L)).Perm ((one _ _ :: (dfr D ++ E.X)) ++ (_ :: L))
        exact (List.Perm.append_left _ (.swap _ _ _)).trans List.perm_middle
      refine b1.ent ((Ent.cons hL).trans ?_)
      refine Ent.trans ?_ ((star_close (K := lp rec (w.heap.size + 1) .ready none :: B) (L := A)).trans (Ent.perm (List.perm_append_comm (l₁ := [_]))))
      exact Ent.perm (List.Perm.cons _ List.perm_append_comm)
    have hc := hs _ _ hE2
    have ha : (yv (w.heap.size + 1) :: ca).toArray = #[yv (w.heap.size + 1)] ++ ca.toArray := by simp
    rw [ha] at hc
    refine fw_calls (hc.mono fun e w3 ⟨v, L', he, hp, h3⟩ => ?_)
    subst he
    have hd2 : ({ a with defers := [mark w.heap.size] ++ a.defers } : Act).defers = (w.heap.size :: D).map mark := by simp [hd]
    have fin2 : ∀ {st : LoopState} {pe : Option Code} {M : List Assn}, st ≠ .busy → H (E.add (w.heap.size :: D)) w3 (lp rec (w.heap.size + 1) st pe :: M) →
        ∃ w4, (Instr.endLoop (w.heap.size + 1)).run P w3 = .ok pe w4 ∧ H (E.add (w.heap.size :: D)) w4 M := by
      intro st pe M hst h4
      rw [hr] at h4
      exact ⟨_, run_endLoop (h4.one_get .here) hst, (h4.loop).ent Ent.drop⟩
    rcases hp with ⟨ys, hy, rfl⟩ | rfl
    · obtain ⟨w4, r4, h4⟩ := fin2 (by decide) (h3.ent (star_ent (L := [K ys])))
      exact ⟨none, w4, r4, _, env, _, hd2, ⟨hf.1, hf.2⟩, h4, kn ys hy⟩
    · have h5 : H (E.add (w.heap.size :: D)) w3 [lp rec (w.heap.size + 1) .done (some .ret), Cr] ∨ ∃ i, H (E.add (w.heap.size :: D)) w3 [lp rec (w.heap.size + 1) .done (some (.exit i)), Cx i] := by
        obtain ⟨q1, q2, q3, q4, q5⟩ := h3
        obtain ⟨m1, m2, z1, z2, z3, z4, z5⟩ := Sat.perm (List.perm_append_comm) _ q5
        rcases z1 with z1 | ⟨i, z1⟩
        · exact .inl ⟨q1, q2, q3, q4, Sat.perm (List.perm_append_comm) _ (star_open ⟨m1, m2, z1, z2, z3, z4, z5⟩)⟩
        · exact .inr ⟨i, q1, q2, q3, q4, Sat.perm (List.perm_append_comm) _ (star_open ⟨m1, m2, z1, z2, z3, z4, z5⟩)⟩
      rcases h5 with h5 | ⟨i, h5⟩
      · obtain ⟨w4, r4, h4⟩ := fin2 (by decide) h5
        exact ⟨some .ret, w4, r4, kr E _ _ w4 hd2 ⟨hf.1, hf.2⟩ h4⟩
      · obtain ⟨w4, r4, h4⟩ := fin2 (by decide) h5
        exact ⟨some (.exit i), w4, r4, kx i E _ _ w4 hd2 ⟨hf.1, hf.2⟩ h4⟩
end SX
namespace SX
open Go
/-- what is the call's own is lent to be read, and comes back -/
theorem sat_lend {b : Nat} {o : Obj} {μ : PH} {L : List Assn} {m : PH} (h : Sat (one b o :: ro μ :: L) m) :
    ∃ μ', Le μ μ' ∧ μ' b = some o ∧ Sat (ro μ' :: L) m ∧ ∀ μ'', Le μ' μ'' → ∃ μ3, Le μ μ3 ∧ ∀ L', Ent (ro μ'' :: L') (one b o :: ro μ3 :: L') := by
  have hb : μ b = none := by
    obtain ⟨m1, m2, h1, ⟨m3, m4, h3, h4, hd2, t1, t2⟩, hd, s1, s2⟩ := h
    cases hx : μ b with
    | none => rfl
    | some x =>
      have := (hd b).resolve_left (by unfold one at h1; rw [h1]; simp)
      rw [t1 b x (h3 b x hx)] at this; cases this
  obtain ⟨μ', k1, k2, k3⟩ := sat_share h
  refine ⟨μ', k1, k2, k3, fun μ'' hle => ⟨fun k => if k = b then none else μ'' k, fun k x hk => ?_, fun L' m' hs => ?_⟩⟩
  · have : k ≠ b := by rintro rfl; rw [hb] at hk; cases hk
    simp only [this, if_false]
    exact hle k x (k1 k x hk)
  · obtain ⟨m1, m2, a1, a2, ad, as1, as2⟩ := hs
    have hm1 : m1 b = some o := a1 b o (hle b o k2)
    have hm2 : m2 b = none := (ad b).resolve_left (by rw [hm1]; simp)
    refine ⟨fun k => if k = b then some o else none, fun k => if k = b then none else m' k, by simp [one], ⟨fun k => if k = b then none else m1 k, m2, fun k x hk => ?_, a2, fun k => ?_, fun k x hk => ?_, fun k x hk => ?_⟩, fun k => ?_, fun k x hk => ?_, fun k x hk => ?_⟩
    · by_cases e : k = b
      · simp [e] at hk
      · simp only [e, if_false] at hk ⊢; exact a1 k x hk
    · by_cases e : k = b
      · exact .inl (by simp [e])
      · simp only [e, if_false]; exact ad k
    · by_cases e : k = b
      · simp [e] at hk
      · simp only [e, if_false] at hk ⊢; exact as1 k x hk
    · have e : k ≠ b := by rintro rfl; rw [hm2] at hk; cases hk
      simp only [e, if_false]; exact as2 k x hk
    · by_cases e : k = b
      · exact .inr (by simp [e])
      · exact .inl (by simp [e])
    · by_cases e : k = b
      · subst e; simp at hk; subst hk; exact as1 _ _ hm1
      · simp [e] at hk
    · by_cases e : k = b
      · simp [e] at hk
      · simp only [e, if_false] at hk; exact hk
def Back (e n : Nat) (v : Value) (l : Nat) (xs : List Value) (μ μ' : PH) : Prop := ∀ μ'', Le μ' μ'' → ∃ μ3, Le μ μ3 ∧ ∀ L', Ent (ro μ'' :: L') (own e n v l xs :: ro μ3 :: L')
section
variable {P : Program} {env : Env} {μ : PH} {L : List Assn} {rn : Option Nat} {Q : Post} {N : Nat}
theorem H.lend_own {E : Ctx} {w : World} {e n : Nat} {v : Value} {l : Nat} {xs : List Value} (h : H E w (own e n v l xs :: ro μ :: L)) :
    ∃ μ', Le μ μ' ∧ Row μ' v n l xs ∧ H E w (ro μ' :: L) ∧ Back e n v l xs μ μ' := by
  obtain ⟨h1, h2, h3, h4, h5⟩ := h
  have k6 : Sat (own e n v l xs :: (E.X ++ (ro μ :: L))) (fun b => w.heap[b]?) := Sat.perm (perm_out (.refl _)) _ h5
  rcases own_open k6 with ⟨a1, a2, a3⟩ | ⟨b, cap, ex, a1, a2, a3, a4, a5, a6⟩
  · subst a1 a2 a3
    exact ⟨μ, Le.refl _, Row.nil _ _, ⟨h1, h2, h3, h4, k6.tail⟩, fun μ'' hle => ⟨μ'', hle, fun L' => own_nil_ent⟩⟩
  · have p : (one b (.cells (xs ++ ex).toArray e (0, 0)) :: (E.X ++ (ro μ :: L))).Perm (one b (.cells (xs ++ ex).toArray e (0, 0)) :: ro μ :: (E.X ++ L)) := List.Perm.cons _ (perm_out (.refl _))
    obtain ⟨μ', b1, b2, b3, b4⟩ := sat_lend (Sat.perm p _ a6)
    refine ⟨μ', b1, ⟨a4, some ⟨b, 0, none⟩, cap, a1, a2, a3, fun h => (by cases h), fun _ => ⟨b, 0, rfl, fun j u hj => ⟨_, _, _, b2, ?_⟩⟩⟩, ⟨h1, h2, h3, h4, Sat.perm (perm_out (.refl _)).symm _ b3⟩, fun μ'' hle => ?_⟩
    · have hlt : j < xs.length := (List.getElem?_eq_some_iff.1 hj).1
      simpa [List.getElem?_append_left hlt] using hj
    · obtain ⟨μ3, c1, c2⟩ := b4 μ'' hle
      refine ⟨μ3, c1, fun L' => (c2 L').trans ?_⟩
      rw [a1]
      exact own_close a4 a5 a2 a3
theorem swl_lend_own {ops : Array Oper} {ol : List Oper} {e n : Nat} {v : Value} {l : Nat} {xs : List Value} {L0 : List Assn} (hL : Split L0 [own e n v l xs, ro μ] L)
    (h : ∀ μ', Le μ μ' → Row μ' v n l xs → Back e n v l xs μ μ' → swl P rn ops Q N ol env (ro μ' :: L)) : swl P rn ops Q N ol env L0 := fun E D a w hd hf hh => by
  obtain ⟨μ', h1, h2, h3, h4⟩ := (hh.ent hL.ent).lend_own
  exact h μ' h1 h2 h4 E D a w hd hf h3
theorem swp_lend_own {c : Code} {e n : Nat} {v : Value} {l : Nat} {xs : List Value} {L0 : List Assn} (hL : Split L0 [own e n v l xs, ro μ] L)
    (h : ∀ μ', Le μ μ' → Row μ' v n l xs → Back e n v l xs μ μ' → swp P rn c Q N env (ro μ' :: L)) : swp P rn c Q N env L0 := fun E D a w hd hf hh => by
  obtain ⟨μ', h1, h2, h3, h4⟩ := (hh.ent hL.ent).lend_own
  exact h μ' h1 h2 h4 E D a w hd hf h3
theorem pu_slice_mid {t e n by_ : Nat} [h : TSl P t e n by_] {x y z : Operand} {A : Option Addr} {l c : Nat} {k1 k2 : IntKind} {lo hi : Int} (a b : Nat) (hx : evalE env x = some (.slice A l c)) (hy : evalE env y = some (.int k1 lo)) (hz : evalE env z = some (.int k2 hi)) (h1 : lo = (a : Int)) (h2 : hi = (b : Int)) (hab : a ≤ b) (hc : b ≤ c) :
    Pu P env (.slice t x (some y) (some z) none) (.slice (if c = a then A else A.map (·.add (a * n))) (b - a) (c - a)) := fun ρ hρ _ _ _ _ _ w => by
  obtain ⟨j, he, hj, hn, _⟩ := h.ok
  have h0 : (0 : Int) ≤ (a : Int) ∧ (a : Int) ≤ (b : Int) := ⟨by omega, by omega⟩
  have h00 : (0 : Int) ≤ (b : Int) ∧ (b : Int) ≤ (c : Int) := ⟨by omega, by omega⟩
  by_cases hck : c = a
  · subst hck
    simp [execOp, hρ x _ hx, hρ y _ hy, hρ z _ hz, h1, h2, Instr.sliceAt, run_underlying he, Instr.slice, Instr.sliceBounds, Instr.sliceBound, asIntOf, h0, h00, Go.sizeOf, typeInfo, hj, hab, hc]
  · simp [execOp, hρ x _ hx, hρ y _ hy, hρ z _ hz, h1, h2, Instr.sliceAt, run_underlying he, Instr.slice, Instr.sliceBounds, Instr.sliceBound, asIntOf, h0, h00, Go.sizeOf, typeInfo, hj, hck, hn, hab, hc]
theorem Row.mid {t e n by_ : Nat} [h : TSl P t e n by_] {v : Value} {l : Nat} {xs : List Value} (hr : Row μ v n l xs) (a b : Nat) (hab : a ≤ b) (hb : b ≤ l) :
    ∃ v', Row μ v' n (b - a) ((xs.take (b * n)).drop (a * n)) ∧ ∀ (env : Env) (x y z : Operand) (k1 k2 : IntKind) (lo hi : Int), evalE env x = some v → evalE env y = some (.int k1 lo) → evalE env z = some (.int k2 hi) → lo = (a : Int) → hi = (b : Int) → Pu P env (.slice t x (some y) (some z) none) v' := by
  obtain ⟨h0, A, cap, rfl, h2, h3, h4, h5⟩ := hr
  have hlt : (xs.take (b * n)).length = b * n := by rw [List.length_take, h0]; exact Nat.min_eq_left (Nat.mul_le_mul_right n hb)
  have hlen : ((xs.take (b * n)).drop (a * n)).length = (b - a) * n := by rw [List.length_drop, hlt, Nat.sub_mul]
  refine ⟨_, ⟨hlen, _, _, rfl, by omega, by omega, fun hA => ?_, fun hl => ?_⟩, fun env x y z k1 k2 lo hi hx hy hz e1 e2 => pu_slice_mid a b hx hy hz e1 e2 hab (by omega)⟩
  · split at hA
    · omega
    · rw [Option.map_eq_none_iff] at hA; have := h4 hA; omega
  · obtain ⟨bb, off, rfl, hr⟩ := h5 (by omega)
    rw [if_neg (by omega)]
    refine ⟨bb, off + a * n, by simp [addr_add], fun j u hj => ?_⟩
    rw [Nat.add_assoc]
    rw [List.getElem?_drop, List.getElem?_take] at hj
    split at hj
    · exact hr _ _ hj
    · cases hj
theorem flat_drop {β : Type} {f : β → List Value} (hf : ∀ e, (f e).length = 1) : ∀ (es : List β) (k : Nat), (es.flatMap f).drop k = (es.drop k).flatMap f
  | [], k => by simp
  | x :: es, 0 => rfl
  | x :: es, k + 1 => by
    obtain ⟨v, hv⟩ : ∃ v, f x = [v] := List.length_eq_one_iff.1 (hf x)
    rw [List.flatMap_cons, hv, List.singleton_append, List.drop_succ_cons, List.drop_succ_cons, flat_drop hf es k]
end
section
variable {P : Program} {tG : Nat}
theorem graph_mid {e by_ : Nat} [TSl P tG e 1 by_] {μ : PH} {v : Value} {G : List (Value × List Int)} (hG : Graph μ v G) (a m : Nat) (hm : a + m ≤ G.length) :
    ∃ v', Graph μ v' ((G.drop a).take m) ∧ ∀ (env : Env) (x y z : Operand) (k1 k2 : IntKind) (lo hi : Int), evalE env x = some v → evalE env y = some (.int k1 lo) → evalE env z = some (.int k2 hi) → lo = (a : Int) → hi = ((a + m : Nat) : Int) → Pu P env (.slice tG x (some y) (some z) none) v' := by
  obtain ⟨v', hr, hp⟩ := Row.mid (P := P) (t := tG) hG.1 a (a + m) (Nat.le_add_right _ _) hm
  have hl : (G.take (a + m)).drop a = (G.drop a).take m := by rw [List.take_drop]
  refine ⟨v', ⟨?_, fun x hx => hG.2 x (List.mem_of_mem_drop (List.mem_of_mem_take hx))⟩, hp⟩
  rw [Nat.mul_one, Nat.mul_one, flat_take (fun _ => rfl), flat_drop (fun _ => rfl), hl] at hr
  have e : ((G.drop a).take m).length = a + m - a := by rw [List.length_take, List.length_drop]; omega
  rw [e]; exact hr
theorem graph_drop {e by_ : Nat} [TSl P tG e 1 by_] {μ : PH} {v : Value} {G : List (Value × List Int)} (hG : Graph μ v G) (a : Nat) (ha : a ≤ G.length) :
    ∃ v', Graph μ v' (G.drop a) ∧ ∀ (env : Env) (x y : Operand) (k1 : IntKind) (lo : Int), evalE env x = some v → evalE env y = some (.int k1 lo) → lo = (a : Int) → Pu P env (.slice tG x (some y) none none) v' := by
  obtain ⟨v', hr, hp⟩ := Row.lo (P := P) (t := tG) hG.1 a ha
  refine ⟨v', ⟨?_, fun x hx => hG.2 x (List.mem_of_mem_drop hx)⟩, hp⟩
  rw [Nat.mul_one, flat_drop (fun _ => rfl)] at hr
  rw [List.length_drop]; exact hr
end
end SX
namespace SX
open Go
theorem Row.atk {k : IntKind} {μ : PH} {v : Value} {xs : List Int} (h : Row μ v 1 xs.length (xs.flatMap (icsk k))) {i : Nat} {x : Int} (hi : xs[i]? = some x) : ∃ b off cap, v = .slice (some ⟨b, off, none⟩) xs.length cap ∧ CellAt μ b (off + i * 1) (.int k x) := by
  have hlt := (List.getElem?_eq_some_iff.1 hi).1
  obtain ⟨b, off, cap, hv, _, _, hr⟩ := h.pos (by omega)
  exact ⟨b, off, cap, hv, (hr.elem (icsk_len k) hi).cell⟩
/-- a graph's numbers, reckoned in pieces -/
theorem more_piece {g : List (List Int)} {gs a : List Int} (h : moreG [] g = some gs) {m : Nat} (ha : moreG [] (g.take m) = some a) (n : Nat) :
    ∃ a', moreG [] (g.take (m + n)) = some a' ∧ moreG a ((g.drop m).take n) = some a' ∧ a'.length = a.length + ((g.drop m).take n).length ∧ a ++ a'.drop a.length = a' := by
  have e := moreG_append (g.take m) ((g.drop m).take n) []
  rw [← List.take_add, ha] at e
  cases h1 : moreG [] (g.take (m + n)) with
  | none => rw [moreG_none h1] at h; cases h
  | some a' =>
    rw [h1] at e
    have e' : moreG a ((g.drop m).take n) = some a' := e.symm
    obtain ⟨k1, k2⟩ := moreG_len e'
    refine ⟨a', rfl, e', k1, ?_⟩
    have := List.take_append_drop a.length a'
    rwa [k2] at this
theorem gens_min {g : List (List Int)} {gs : List Int} (h : moreG [] g = some gs) {i : Nat} {r : List Int} (hi : g[i]? = some r) : gs[i]? = some (min (hiG (valsG gs r) + 1) 1023) := by
  have h1 := (gens_at h hi).1
  have h2 := gens_range h i _ h1
  rw [h1]
  congr 1
  have := h2.2.1
  unfold nxt at this ⊢
  split at this <;> simp_all <;> omega
end SX
namespace SX
def seenN (n : Nat) (S : Nat → Bool) : Nat := ((List.range n).filter S).length
theorem seenN_le (n : Nat) (S : Nat → Bool) : seenN n S ≤ n := by
  have := List.length_filter_le S (List.range n)
  rwa [List.length_range] at this
theorem seenN_put {S : Nat → Bool} {c : Nat} (hs : S c = false) : ∀ {n : Nat}, c < n → seenN n (fun j => S j || decide (j = c)) = seenN n S + 1
  | 0, h => by omega
  | n + 1, h => by
    have e : ∀ T : Nat → Bool, seenN (n + 1) T = seenN n T + if T n = true then 1 else 0 := fun T => by
      unfold seenN
      rw [List.range_succ, List.filter_append, List.length_append]
      cases hT : T n <;> simp [List.filter, hT]
    rw [e, e]
    by_cases hc : c = n
    · subst hc
      have e2 : seenN c (fun j => S j || decide (j = c)) = seenN c S := by
        unfold seenN
        congr 1
        apply List.filter_congr
        intro j hj
        rw [decide_eq_false (show ¬ j = c by have := List.mem_range.1 hj; omega), Bool.or_false]
      rw [e2, hs]; simp
    · rw [seenN_put hs (by omega), show (S n || decide (n = c)) = S n by rw [decide_eq_false (fun e => hc e.symm), Bool.or_false]]
      omega
theorem falls_len : ∀ {l : List Nat} {n : Nat}, Falls l → (∀ k ∈ l, k < n) → l.length ≤ n
  | [], _, _, _ => Nat.zero_le _
  | y :: l, n, h, hn => by
    obtain ⟨h1, h2⟩ := List.pairwise_cons.1 h
    have := falls_len h2 h1
    have := hn y (List.mem_cons_self ..)
    rw [List.length_cons]; omega
/-- a walker that is in order -/
structure WkOk (n : Nat) (s : Wk) : Prop where
  falls : Falls s.2
  lt : ∀ k ∈ s.2, k < n
  sub : ∀ k ∈ s.2, s.1 k = true
def putS (n : Nat) (S : Nat → Bool) (k : Int) : Nat → Bool := fun j => S j || (decide (0 ≤ k ∧ k < n) && decide (j = k.toNat))
def newW (n : Nat) (S : Nat → Bool) (k : Int) : Bool := decide (0 ≤ k) && (decide (k < n) && !S k.toNat)
theorem addW_new {n : Nat} {s : Wk} {c : Int} (h : newW n s.1 c = true) (hs : WkOk n s) : ∃ k : Nat, c = k ∧ k < n ∧ k ∉ s.2 ∧ (addW n s c).1 = putS n s.1 c ∧ (addW n s c).2 = insD k s.2 ∧ seenN n (putS n s.1 c) = seenN n s.1 + 1 ∧ WkOk n (addW n s c) := by
  have h' := h
  unfold newW at h
  simp only [Bool.and_eq_true, decide_eq_true_eq, Bool.not_eq_true'] at h
  obtain ⟨h1, h2, h3⟩ := h
  obtain ⟨k, rfl⟩ : ∃ k : Nat, c = k := ⟨c.toNat, by omega⟩
  rw [Int.toNat_natCast] at h3
  have hk : k < n := by omega
  have hq : k ∉ s.2 := fun hm => by rw [hs.sub k hm] at h3; cases h3
  have e : addW n s k = (fun j => s.1 j || decide (j = k), insD k s.2) := by
    unfold newW at h'; unfold addW; rw [if_pos h']; rfl
  have e2 : putS n s.1 (k : Int) = fun j => s.1 j || decide (j = k) := by
    funext j; unfold putS; rw [Int.toNat_natCast, decide_eq_true (show 0 ≤ (k : Int) ∧ (k : Int) < n from ⟨h1, h2⟩), Bool.true_and]
  refine ⟨k, rfl, hk, hq, by rw [e, e2], by rw [e], by rw [e2]; exact seenN_put h3 hk, ?_⟩
  rw [e]
  refine ⟨insD_falls hs.falls hq, fun j hj => ?_, fun j hj => ?_⟩
  · rcases mem_insD.1 hj with rfl | hj
    · exact hk
    · exact hs.lt j hj
  · show (s.1 j || decide (j = k)) = true
    rcases mem_insD.1 hj with rfl | hj
    · simp
    · rw [hs.sub j hj]; rfl
theorem addW_old {n : Nat} {s : Wk} {c : Int} (h : newW n s.1 c = false) : addW n s c = s ∧ putS n s.1 c = s.1 := by
  have h' := h
  unfold newW at h
  refine ⟨by unfold newW at h'; unfold addW; rw [if_neg (by rw [h']; exact Bool.false_ne_true)], ?_⟩
  funext j
  unfold putS
  by_cases hr : 0 ≤ c ∧ c < n
  · rw [decide_eq_true hr.1, decide_eq_true hr.2] at h
    have h3 : s.1 c.toNat = true := by simpa using h
    rw [decide_eq_true hr, Bool.true_and]
    by_cases e : j = c.toNat
    · rw [e, h3]; rfl
    · rw [decide_eq_false e, Bool.or_false]
  · rw [decide_eq_false hr, Bool.false_and, Bool.or_false]
end SX
namespace SX
def wkRun (row : Nat → List Int) (n : Nat) : Nat → Wk → List Nat
  | 0, _ => []
  | f + 1, s => match s.2 with
    | [] => []
    | c :: Q => c :: wkRun row n f (addAll n (s.1, Q) (row c))
theorem wkRun_pop {row : Nat → List Int} {n f c : Nat} {S : Nat → Bool} {Q : List Nat} : wkRun row n (f + 1) (S, c :: Q) = c :: wkRun row n f (addAll n (S, Q) (row c)) := rfl
theorem wkRun_nil {row : Nat → List Int} {n : Nat} {S : Nat → Bool} : ∀ f, wkRun row n f (S, []) = []
  | 0 => rfl
  | _ + 1 => rfl
theorem wkRun_spec {g : List (List Int)} (hg : Good g) : ∀ (f m : Nat) (s : Wk), WkI g.length m s → m ≤ f → m ≤ g.length →
    Falls (wkRun (rowOf g) g.length f s) ∧ (∀ j ∈ wkRun (rowOf g) g.length f s, j < m) ∧ ∀ j, j ∈ wkRun (rowOf g) g.length f s ↔ ∃ q ∈ s.2, Reach g q j
  | 0, m, s, h, hf, _ => by
    have hq : s.2 = [] := List.eq_nil_iff_forall_not_mem.2 fun q hq => by have := h.lt q hq; omega
    exact ⟨.nil, fun _ h => (by cases h), fun j => by rw [hq]; simp [wkRun]⟩
  | f + 1, m, (S, []), h, hf, _ => ⟨.nil, fun _ h => (by cases h), fun j => by simp [wkRun]⟩
  | f + 1, m, (S, c :: Q), h, hf, hm => by
    have hc : c < m := h.lt c (List.mem_cons_self ..)
    have hrow : ∀ p ∈ rowOf g c, 0 ≤ p ∧ p < c := fun p hp => ⟨(row_good hg hp).1, (row_good hg hp).2.1⟩
    obtain ⟨h1, h2, _⟩ := h.pop.addAll hrow (by omega)
    obtain ⟨k1, k2, k3⟩ := wkRun_spec hg f c _ h1 (by omega) (by omega)
    rw [wkRun_pop]
    refine ⟨List.pairwise_cons.2 ⟨k2, k1⟩, fun j hj => ?_, fun j => ?_⟩
    · rcases List.mem_cons.1 hj with rfl | hj
      · exact hc
      · have := k2 j hj; omega
    · rw [List.mem_cons, k3]
      constructor
      · rintro (rfl | ⟨q, hq, hr⟩)
        · exact ⟨j, List.mem_cons_self .., .refl _⟩
        · rcases (h2 q).1 hq with hq | hq
          · exact ⟨q, List.mem_cons_of_mem _ hq, hr⟩
          · exact ⟨c, List.mem_cons_self .., .step hq hr⟩
      · rintro ⟨q, hq, hr⟩
        rcases List.mem_cons.1 hq with rfl | hq
        · cases hr with
          | refl => exact .inl rfl
          | step hp hr => exact .inr ⟨_, (h2 _).2 (.inr hp), hr⟩
        · exact .inr ⟨q, (h2 q).2 (.inl hq), hr⟩
def inRng (n : Nat) (l : List Int) : List Int := l.filter fun p => decide (0 ≤ p) && decide (p < n)
theorem inRng_mem {n : Nat} {l : List Int} {p : Int} : p ∈ inRng n l ↔ p ∈ l ∧ 0 ≤ p ∧ p < n := by unfold inRng; rw [List.mem_filter]; simp
theorem addAll_rng {n : Nat} : ∀ {l : List Int} {s : Wk}, addAll n s l = addAll n s (inRng n l)
  | [], _ => rfl
  | c :: l, s => by
    unfold inRng
    rw [List.filter_cons]
    split
    · exact addAll_rng (l := l) (s := addW n s c)
    · rename_i h
      have e : addW n s c = s := by
        unfold addW
        rw [if_neg]
        intro h2
        apply h
        simp only [Bool.and_eq_true] at h2 ⊢
        exact ⟨h2.1, h2.2.1⟩
      show addAll n (addW n s c) l = _
      rw [e]
      exact addAll_rng (l := l) (s := s)
/-- all that is reached from some, falling -/
theorem wk_start {n : Nat} (l : List Int) : WkI n n (addAll n (fun _ => false, []) l) ∧ ∀ k, k ∈ (addAll n (fun _ => false, []) l).2 ↔ (k : Int) ∈ inRng n l := by
  rw [addAll_rng]
  obtain ⟨h1, h2, _⟩ := (WkI.start n).addAll (l := inRng n l) (fun p hp => (inRng_mem.1 hp).2) (Nat.le_refl _)
  exact ⟨h1, fun k => by rw [h2]; simp⟩
def downL (g : List (List Int)) (l : List Int) : List Nat := wkRun (rowOf g) g.length g.length (addAll g.length (fun _ => false, []) l)
theorem downL_spec {g : List (List Int)} (hg : Good g) (l : List Int) : Falls (downL g l) ∧ (∀ j ∈ downL g l, j < g.length) ∧ ∀ j, j ∈ downL g l ↔ ∃ q : Nat, (q : Int) ∈ inRng g.length l ∧ Reach g q j := by
  obtain ⟨h1, h2⟩ := wk_start (n := g.length) l
  obtain ⟨k1, k2, k3⟩ := wkRun_spec hg g.length g.length _ h1 (Nat.le_refl _) (Nat.le_refl _)
  exact ⟨k1, k2, fun j => by rw [downL, k3]; exact ⟨fun ⟨q, a, b⟩ => ⟨q, (h2 q).1 a, b⟩, fun ⟨q, a, b⟩ => ⟨q, (h2 q).2 a, b⟩⟩⟩
/-- falling lists of the same members are the same -/
theorem falls_ext : ∀ {l l' : List Nat}, Falls l → Falls l' → (∀ j, j ∈ l ↔ j ∈ l') → l = l'
  | [], [], _, _, _ => rfl
  | [], b :: l', _, _, h => absurd ((h b).2 (List.mem_cons_self ..)) (by simp)
  | a :: l, [], _, _, h => absurd ((h a).1 (List.mem_cons_self ..)) (by simp)
  | a :: l, b :: l', h1, h2, h => by
    obtain ⟨a1, a2⟩ := List.pairwise_cons.1 h1
    obtain ⟨b1, b2⟩ := List.pairwise_cons.1 h2
    have hab : a = b := by
      have x := (h a).1 (List.mem_cons_self ..)
      have y := (h b).2 (List.mem_cons_self ..)
      rcases List.mem_cons.1 x with rfl | x
      · rfl
      rcases List.mem_cons.1 y with rfl | y
      · rfl
      have := b1 a x
      have := a1 b y
      omega
    subst hab
    rw [falls_ext a2 b2 fun j => ?_]
    constructor
    · intro hj
      rcases List.mem_cons.1 ((h j).1 (List.mem_cons_of_mem _ hj)) with rfl | hj'
      · have := a1 j hj; omega
      · exact hj'
    · intro hj
      rcases List.mem_cons.1 ((h j).2 (List.mem_cons_of_mem _ hj)) with rfl | hj'
      · have := b1 j hj; omega
      · exact hj'
end SX
namespace SX
open Go
class TIface (P : Program) (t : TypeId) : Prop where
  und : ∃ ms, P.underlying t = some (.interface ms)
section
variable {P : Program} {env : Env}
theorem eqGuard_if {t d : TypeId} {v u : Value} : ∀ op X Y w, (eqGuard op t X Y (.iface d v) u).run P w = .ok () w := fun op X Y w => by
  cases op <;> rfl
theorem pu_if_eq_nil {t u d : TypeId} {v : Value} [h : TIface P t] {x y : Operand} (hx : evalE env x = some (.iface d v)) (hy : evalE env y = some .nilIface) : Pu P env (.binOp .eql t x y u) (.bool false) := by
  obtain ⟨e, he⟩ := h.und
  exact pu_eq_of hx hy eqGuard_if rfl (fun d w => by simp [Op.equalIn, run_underlying he])
end
end SX
namespace SX
def partS (S : Nat → Bool) (c : Nat) (l : List Int) : Nat → Bool := fun j => S j || (S c && decide ((j : Int) ∈ l))
theorem partS_nil (S : Nat → Bool) (c : Nat) : partS S c [] = S := funext fun j => by unfold partS; simp
theorem partS_row (g : List (List Int)) (S : Nat → Bool) (c : Nat) : partS S c (rowOf g c) = stepUp g c S := rfl
theorem partS_no {S : Nat → Bool} {c : Nat} (h : S c = false) (l : List Int) : partS S c l = S := funext fun j => by unfold partS; rw [h, Bool.false_and, Bool.or_false]
theorem partS_c {S : Nat → Bool} {c : Nat} (l : List Int) : partS S c l c = S c := by
  cases h : S c with
  | true => unfold partS; rw [h]; rfl
  | false => rw [partS_no h, h]
theorem partS_put {n c : Nat} {S : Nat → Bool} {l : List Int} {p : Int} (h : S c = true) (hp : 0 ≤ p ∧ p < n) : putS n (partS S c l) p = partS S c (l ++ [p]) := by
  obtain ⟨k, rfl⟩ : ∃ k : Nat, p = k := ⟨p.toNat, by omega⟩
  funext j
  unfold putS partS
  rw [decide_eq_true hp, h, Bool.true_and, Bool.true_and, Bool.true_and, Int.toNat_natCast, Bool.or_assoc]
  congr 1
  rw [Bool.eq_iff_iff]
  simp [List.mem_append]
  exact or_congr Iff.rfl (by omega)
theorem seedS_put {n : Nat} {l : List Int} {p : Int} (hp : 0 ≤ p ∧ p < n) : putS n (seedS l) p = seedS (l ++ [p]) := by
  obtain ⟨k, rfl⟩ : ∃ k : Nat, p = k := ⟨p.toNat, by omega⟩
  funext j
  unfold putS seedS
  rw [decide_eq_true hp, Bool.true_and, Int.toNat_natCast, Bool.eq_iff_iff]
  simp [List.mem_append]
  exact or_congr Iff.rfl (by omega)
/-- a set goes on down -/
theorem goes_down {g : List (List Int)} {n m c : Nat} {S T : Nat → Bool} {Q : List Nat} {R : Nat → Bool} (hI : WkI n m (S, c :: Q)) (hs : ∀ i, T i = true → S i = true) (h : upF g m T = R) : upF g c (stepUp g c T) = R := by
  have hc := hI.lt c (List.mem_cons_self ..)
  rw [← h]
  refine (upF_pop hc fun i h1 h2 => ?_).symm
  cases ht : T i with
  | false => rfl
  | true =>
    have := (hI.seen i h2).1 (hs i ht)
    rcases List.mem_cons.1 this with e | e
    · omega
    · have := (List.pairwise_cons.1 hI.falls).1 i e; omega
theorem goes_end {g : List (List Int)} {n m : Nat} {S T R : Nat → Bool} (hI : WkI n m (S, [])) (hs : ∀ i, T i = true → S i = true) (h : upF g m T = R) : T = R := by
  rw [← h]
  refine (upF_end fun i hi => ?_).symm
  cases ht : T i with
  | false => rfl
  | true => have := (hI.seen i hi).1 (hs i ht); cases this
end SX
namespace SX
theorem filt_at {α : Type} {l : List α} {q : α → Bool} {i : Nat} {c : α} (h : l[i]? = some c) (hq : q c = true) : (l.filter q)[((l.take i).filter q).length]? = some c ∧ ((l.take (i + 1)).filter q).length = ((l.take i).filter q).length + 1 := by
  have hlt := (List.getElem?_eq_some_iff.1 h).1
  have e : l[i] = c := (List.getElem?_eq_some_iff.1 h).2
  constructor
  · have hl : l = l.take i ++ c :: l.drop (i + 1) := by rw [← e, ← List.drop_eq_getElem_cons hlt, List.take_append_drop]
    have : l.filter q = (l.take i).filter q ++ c :: (l.drop (i + 1)).filter q := by
      conv => lhs; rw [hl, List.filter_append, List.filter_cons, if_pos hq]
    rw [this, List.getElem?_append_right (Nat.le_refl _), Nat.sub_self]; rfl
  · rw [List.take_add_one, h, List.filter_append, List.length_append]
    simp [List.filter, hq]
theorem filt_no {α : Type} {l : List α} {q : α → Bool} {i : Nat} {c : α} (h : l[i]? = some c) (hq : q c = false) : ((l.take (i + 1)).filter q).length = ((l.take i).filter q).length := by
  rw [List.take_add_one, h, List.filter_append, List.length_append]
  simp [List.filter, hq]
end SX
namespace SX
open Go Go.ChangeShapes
section
variable {H : Type} {enc : TypeId × Value → H}
theorem returns_cond_and {a : Assume} {C : Checked} {os : Os} {f : FuncId} {fn : Func} {s : OpenSpec} {k : (H : Type) → List (DataW H) → Bool} (hk : s.cond = some k) {F : Stop.Interp} {conds : List PathCond} {apart fresh handsOn again : Bool} {X : World → Array Value → Prop}
    (hX : ∀ (w w' : World) (args : Array Value), w.heap = w'.heap → X w args → X w' args)
    (own : ownKnob C.prog.godebug = none) (started : os.Started) (noInit : C.prog.inits.idxOf? f = none) (hfn : C.prog.funcs[f]? = some fn)
    (witness : ∃ (w : World) (tape : Tape) (i : Input), w.os = os ∧ (w.forCall tape i).Shaped C.prog ∧ i.vars = [] ∧ Input.okWide C.prog (w.forCall tape i) .any w.heap.size f i ∧
      ((s.pre enc C.prog fn conds apart (w.forCall tape i).memory i.args ∧ X (w.forCall tape i).memory i.args) ∧ sizedMet enc C.prog fn s apart (w.forCall tape i).memory i.args) ∧ a.holds C.prog (lone (Frame.enter C.prog f i.args .normal) [] (w.forCall tape i)))
    (contract : ∀ (W : World) (base : Nat) (args : Array Value) (ds gs : List (DataW H)) (before : List MemPlace),
      (∀ (j : Nat) t v, fn.params[j]? = some t → args[j]? = some v → Value.okWide C.prog W .any base t v) →
      DataW.Whole enc C.prog fn.params.toList s.vars apart W args.toList ds gs before → k H (ds ++ gs) = true → X W args →
      Calls C.prog f args W fun e W' => ∃ v, e = .returned v ∧ (s.at F).post enc C.prog fn apart fresh handsOn again W args v W') :
    ReturnsInHanded a C os f .any (fun w args => (s.pre enc C.prog fn conds apart w args ∧ X w args) ∧ sizedMet enc C.prog fn s apart w args) ((s.at F).post enc C.prog fn apart fresh handsOn again) := by
  refine returnsInHanded_of_calls own started noInit witness ?_
  intro w tape i _ _ _ hok hpre hholds
  obtain ⟨_, _, _, fn', hfn', _, _, _, _, hval⟩ := hok
  have e : fn' = fn := Option.some.inj (hfn'.symm.trans hfn)
  subst e
  obtain ⟨⟨hp, hx⟩, hz⟩ := hpre
  obtain ⟨ds, gs, before, hw, hc, hkk⟩ := (OpenSpec.pre_some hk conds apart _ _).1 hp
  have hw' := DataW.Whole.of_heap (w' := w.forCall tape i) (by rfl) hw
  refine (contract (w.forCall tape i) w.heap.size i.args ds gs before hval hw' hkk (hX _ _ _ (by rfl) hx)).mono fun e W' ⟨v, he, hp⟩ => ?_
  subst he
  exact ChangeSpec.post_blind hp
theorem witness_cond_and {C : Checked} {os : Os} {f : FuncId} {fn : Func} {s : OpenSpec} {k : (H : Type) → List (DataW H) → Bool} (hk : s.cond = some k) {conds : List PathCond} {apart : Bool} {X : World → Array Value → Prop} (modest : Bool) (w0 : World) (args : Array Value) (fuel : Nat) (hos : w0.os = os)
    (hsh : (w0.forCall (fun _ _ => 0) ⟨#[], args, []⟩).Shaped C.prog)
    (hok : Input.okWideB C.prog (w0.forCall (fun _ _ => 0) ⟨#[], args, []⟩) f ⟨#[], args, []⟩ = true)
    {x : List (DataW H) × List (DataW H) × List MemPlace} (hw : DataW.whole enc C.prog (w0.forCall (fun _ _ => 0) ⟨#[], args, []⟩).memory fn.params.toList s.vars apart args.toList fuel = some x)
    (hconds : conds.all (PathCond.test C.prog ⟨fn.params.toList, x.1, s.bare.plain.varTypes C.prog, x.2.1⟩) = true) (hkk : k H (x.1 ++ x.2.1) = true)
    (hsz : s.bare.sizedB enc C.prog fn apart (w0.forCall (fun _ _ => 0) ⟨#[], args, []⟩).memory args fuel = true)
    (hx : X (w0.forCall (fun _ _ => 0) ⟨#[], args, []⟩).memory args) :
    ∃ (w : World) (tape : Tape) (i : Input), w.os = os ∧ (w.forCall tape i).Shaped C.prog ∧ i.vars = [] ∧ Input.okWide C.prog (w.forCall tape i) .any w.heap.size f i ∧
      ((s.pre enc C.prog fn conds apart (w.forCall tape i).memory i.args ∧ X (w.forCall tape i).memory i.args) ∧ sizedMet enc C.prog fn s apart (w.forCall tape i).memory i.args) ∧ ({ modest := modest } : Assume).holds C.prog (lone (Frame.enter C.prog f i.args .normal) [] (w.forCall tape i)) :=
  ⟨w0, fun _ _ => 0, ⟨#[], args, []⟩, hos, hsh, (Input.okWide_of_okWideB (base := 0) hok).1, (Input.okWide_of_okWideB hok).2, ⟨⟨(OpenSpec.pre_some hk conds apart _ _).2 ⟨x.1, x.2.1, x.2.2, DataW.Whole_of_whole hw, hconds, hkk⟩, hx⟩, sizedMet_of_sizedB hsz⟩, by
    simp only [Assume.holds]
    exact ⟨by simp, by simp, fun _ => Modest.zero, by simp, by simp⟩⟩
end
end SX
