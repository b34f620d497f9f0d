/- More operations on slots alone: conversions of integers, bits, shifts, min and max, texts. -/
import Derived.Test.YtfbfmokgpdmcfaaDoorSxRo
namespace SX
open Go

/-- an integer type -/
class TInt (P : Program) (t : TypeId) (k : outParam IntKind) : Prop where
  und : P.underlying t = some (.int k)
class TStr (P : Program) (t : TypeId) : Prop where
  und : P.underlying t = some .string

theorem ent_appC {L1 L2 L3 K : List Assn} [h : AppC L1 L2 L3] (k : Ent L3 K) : Ent (L1 ++ L2) K := by rw [h.ok]; exact k
section
variable {P : Program} {env : Env}
theorem pu_conv {s t : TypeId} {ks k k' : IntKind} [hs : TInt P s ks] [ht : TInt P t k'] {x : Operand} {n : Int} (hx : evalE env x = some (.int k n)) : Pu P env (.convert s t x) (.int k' (k'.wrap n)) := fun ρ hρ _ _ _ _ _ w => by
  simp [execOp, hρ x _ hx, convert, run_underlying hs.und, run_underlying ht.und, Conv.intToInt]
theorem pu_conv_as {s t : TypeId} {ks k k' : IntKind} [hs : TInt P s ks] [ht : TInt P t k'] {x : Operand} {n : Int} (hx : evalE env x = some (.int k n)) (h : k'.wrap n = n) : Pu P env (.convert s t x) (.int k' n) := by
  have := pu_conv (P := P) (s := s) (t := t) hx; rwa [h] at this
theorem pu_conv_i64 {s t : TypeId} {ks k : IntKind} [hs : TInt P s ks] [ht : TInt P t .i64] {x : Operand} {n : Int} (hx : evalE env x = some (.int k n)) (h1 : -9223372036854775808 ≤ n) (h2 : n ≤ 9223372036854775807) : Pu P env (.convert s t x) (.int .i64 n) := pu_conv_as hx (wrap_i64 h1 h2)
theorem pu_conv_u64 {s t : TypeId} {ks k : IntKind} [hs : TInt P s ks] [ht : TInt P t .u64] {x : Operand} {n : Int} (hx : evalE env x = some (.int k n)) (h1 : 0 ≤ n) (h2 : n ≤ 18446744073709551615) : Pu P env (.convert s t x) (.int .u64 n) := pu_conv_as hx (IntWalk.u64_in n ⟨h1, h2⟩)
/-- between text types -/
theorem pu_conv_str {s t : TypeId} [hs : TStr P s] [ht : TStr P t] {x : Operand} {b : ByteArray} (hx : evalE env x = some (.string b)) : Pu P env (.convert s t x) (.string b) := fun ρ hρ _ _ _ _ _ w => by
  simp [execOp, hρ x _ hx, convert, run_underlying hs.und, run_underlying ht.und]

theorem pu_str_op {t u : TypeId} {op : BinOp} {x y : Operand} {a b : ByteArray} {v : Value} (hx : evalE env x = some (.string a)) (hy : evalE env y = some (.string b)) (hop : binOp op t (.string a) (.string b) = Op.stringOp op a b) (hg : ∀ X Y w, (eqGuard op t X Y (.string a) (.string b)).run P w = .ok () w) (hv : ∀ w, (Op.stringOp op a b).run P w = .ok v w) : Pu P env (.binOp op t x y u) v := fun ρ hρ _ _ _ _ _ w => by
  simp only [execOp, hρ x _ hx, hρ y _ hy, Sem.run_bind, hg, Result.andThen_ok, hop, hv, Sem.run_pure]
theorem eqGuard_str {t : TypeId} {a b : ByteArray} : ∀ op X Y w, (eqGuard op t X Y (.string a) (.string b)).run P w = .ok () w := fun op X Y w => by
  cases op <;> rfl
def strLt (a b : ByteArray) : Bool := Op.bytesLess a.toList b.toList
def strEq (a b : ByteArray) : Bool := a.toList == b.toList
theorem pu_str_eql {t u : TypeId} {x y : Operand} {a b : ByteArray} (hx : evalE env x = some (.string a)) (hy : evalE env y = some (.string b)) : Pu P env (.binOp .eql t x y u) (.bool (strEq a b)) := pu_str_op hx hy rfl (eqGuard_str _) (fun _ => rfl)
theorem pu_str_neq {t u : TypeId} {x y : Operand} {a b : ByteArray} (hx : evalE env x = some (.string a)) (hy : evalE env y = some (.string b)) : Pu P env (.binOp .neq t x y u) (.bool (!strEq a b)) := pu_str_op hx hy rfl (eqGuard_str _) (fun _ => rfl)
theorem pu_str_lss {t u : TypeId} {x y : Operand} {a b : ByteArray} (hx : evalE env x = some (.string a)) (hy : evalE env y = some (.string b)) : Pu P env (.binOp .lss t x y u) (.bool (strLt a b)) := pu_str_op hx hy rfl (eqGuard_str _) (fun _ => rfl)
theorem pu_str_leq {t u : TypeId} {x y : Operand} {a b : ByteArray} (hx : evalE env x = some (.string a)) (hy : evalE env y = some (.string b)) : Pu P env (.binOp .leq t x y u) (.bool (strLt a b || strEq a b)) := pu_str_op hx hy rfl (eqGuard_str _) (fun _ => rfl)
theorem pu_str_gtr {t u : TypeId} {x y : Operand} {a b : ByteArray} (hx : evalE env x = some (.string a)) (hy : evalE env y = some (.string b)) : Pu P env (.binOp .gtr t x y u) (.bool (!(strLt a b || strEq a b))) := pu_str_op hx hy rfl (eqGuard_str _) (fun _ => rfl)
theorem pu_str_geq {t u : TypeId} {x y : Operand} {a b : ByteArray} (hx : evalE env x = some (.string a)) (hy : evalE env y = some (.string b)) : Pu P env (.binOp .geq t x y u) (.bool (!strLt a b)) := pu_str_op hx hy rfl (eqGuard_str _) (fun _ => rfl)
theorem pu_strlen {t : TypeId} [h : TStr P t] {x : Operand} {s : ByteArray} (hx : evalE env x = some (.string s)) : Pu P env (.call { callee := .builtin .len, args := #[x], argTypes := #[t] }) (.int .i64 s.size) := fun ρ hρ _ _ _ _ _ w => by
  simp [execOp, resolve, invoke, builtin, hρ x _ hx, Builtin.len_, run_underlying h.und, goInt]

theorem swl_own {ro : Option Nat} {ops : Array Oper} {Q : Post} {N : Nat} {l0 : List Oper} {e n : Nat} {v : Value} {l : Nat} {xs : List Value} {L0 L : List Assn} (ht : Take (own e n v l xs) L0 L)
    (h0 : v = .slice none 0 0 → l = 0 → xs = [] → swl P ro ops Q N l0 env L)
    (h1 : ∀ b cap ex, v = .slice (some ⟨b, 0, none⟩) l cap → l ≤ cap → cap ≤ maxLen → xs.length = l * n → ex.length = (cap - l) * n → swl P ro ops Q N l0 env (blk b e (xs ++ ex) :: L)) : swl P ro ops Q N l0 env L0 := by
  intro E D a w hd hf hh
  obtain ⟨k1, k2, k3, k4, k5⟩ := hh.ent (Ent.perm ht.perm)
  have k6 : Sat (own e n v l xs :: ((E.add D).X ++ L)) (fun b => w.heap[b]?) := Sat.perm (perm_out (.refl _)) _ k5
  rcases own_open k6 with ⟨a1, a2, a3⟩ | ⟨b, cap, ex, a1, a2, a3, a4, a5, a6⟩
  · exact h0 a1 a2 a3 E D a w hd hf ⟨k1, k2, k3, k4, k6.tail⟩
  · exact h1 b cap ex a1 a2 a3 a4 a5 E D a w hd hf ⟨k1, k2, k3, k4, Sat.perm (perm_out (.refl _)).symm _ a6⟩

/-! ### words -/
abbrev wv (w : BitVec 64) : Value := .int .u64 (w.toNat : Nat)
theorem ofInt_toNat (w : BitVec 64) : BitVec.ofInt 64 (w.toNat : Int) = w := by
  rw [← BitVec.toInt_inj, BitVec.toInt_ofInt]
  rw [BitVec.toInt_eq_toNat_bmod]
theorem wrap_word (w : BitVec 64) : IntKind.u64.wrap (w.toNat : Int) = w.toNat := IntWalk.u64_in _ ⟨by omega, by have := w.isLt; omega⟩
theorem run_bits {op : BinOp} {t u : TypeId} {x y : Operand} {a b c : BitVec 64} (hx : evalE env x = some (.int .u64 (a.toNat : Nat))) (hy : evalE env y = some (.int .u64 (b.toNat : Nat)))
    (hop : binOp op t (.int .u64 (a.toNat : Nat)) (.int .u64 (b.toNat : Nat)) = Op.intBits op .u64 a.toNat b.toNat) (hg : ∀ X Y, eqGuard op t X Y (.int .u64 (a.toNat : Nat)) (.int .u64 (b.toNat : Nat)) = pure ())
    (hc : Op.intBits op .u64 a.toNat b.toNat = pure (.int .u64 (IntKind.u64.wrap (c.toNat : Nat)))) : Pu P env (.binOp op t x y u) (.int .u64 (c.toNat : Nat)) := fun ρ hρ _ _ _ _ _ w => by
  simp only [execOp, hρ x _ hx, hρ y _ hy, Sem.run_bind, hg, Sem.run_pure, Result.andThen_ok, hop, hc, wrap_word]
theorem pu_and_w {t u : TypeId} {x y : Operand} {a b : BitVec 64} (hx : evalE env x = some (.int .u64 (a.toNat : Nat))) (hy : evalE env y = some (.int .u64 (b.toNat : Nat))) : Pu P env (.binOp .and t x y u) (.int .u64 ((a &&& b).toNat : Nat)) :=
  run_bits hx hy (by simp [binOp]) (fun _ _ => by simp [eqGuard]) (by
    show (let a' : BitVec 64 := BitVec.ofInt 64 a.toNat; let b' : BitVec 64 := BitVec.ofInt 64 b.toNat; pure (.int .u64 (IntKind.u64.wrap (a' &&& b').toNat)) : Sem Value) = _
    rw [ofInt_toNat, ofInt_toNat])
theorem pu_or_w {t u : TypeId} {x y : Operand} {a b : BitVec 64} (hx : evalE env x = some (.int .u64 (a.toNat : Nat))) (hy : evalE env y = some (.int .u64 (b.toNat : Nat))) : Pu P env (.binOp .or t x y u) (.int .u64 ((a ||| b).toNat : Nat)) :=
  run_bits hx hy (by simp [binOp]) (fun _ _ => by simp [eqGuard]) (by
    show (let a' : BitVec 64 := BitVec.ofInt 64 a.toNat; let b' : BitVec 64 := BitVec.ofInt 64 b.toNat; pure (.int .u64 (IntKind.u64.wrap (a' ||| b').toNat)) : Sem Value) = _
    rw [ofInt_toNat, ofInt_toNat])
theorem pu_xor_w {t u : TypeId} {x y : Operand} {a b : BitVec 64} (hx : evalE env x = some (.int .u64 (a.toNat : Nat))) (hy : evalE env y = some (.int .u64 (b.toNat : Nat))) : Pu P env (.binOp .xor t x y u) (.int .u64 ((a ^^^ b).toNat : Nat)) :=
  run_bits hx hy (by simp [binOp]) (fun _ _ => by simp [eqGuard]) (by
    show (let a' : BitVec 64 := BitVec.ofInt 64 a.toNat; let b' : BitVec 64 := BitVec.ofInt 64 b.toNat; pure (.int .u64 (IntKind.u64.wrap (a' ^^^ b').toNat)) : Sem Value) = _
    rw [ofInt_toNat, ofInt_toNat])
theorem pu_andNot_w {t u : TypeId} {x y : Operand} {a b : BitVec 64} (hx : evalE env x = some (.int .u64 (a.toNat : Nat))) (hy : evalE env y = some (.int .u64 (b.toNat : Nat))) : Pu P env (.binOp .andNot t x y u) (.int .u64 ((a &&& ~~~b).toNat : Nat)) :=
  run_bits hx hy (by simp [binOp]) (fun _ _ => by simp [eqGuard]) (by
    show (let a' : BitVec 64 := BitVec.ofInt 64 a.toNat; let b' : BitVec 64 := BitVec.ofInt 64 b.toNat; pure (.int .u64 (IntKind.u64.wrap (a' &&& ~~~b').toNat)) : Sem Value) = _
    rw [ofInt_toNat, ofInt_toNat])
/-- shifts of a word, by less than 64 -/
theorem pu_shl_w {t u : TypeId} {x y : Operand} {ky : IntKind} {a : BitVec 64} (n : Nat) (hx : evalE env x = some (.int .u64 (a.toNat : Nat))) (hy : evalE env y = some (.int ky (n : Nat))) (hn : n ≤ 64) : Pu P env (.binOp .shl t x y u) (.int .u64 ((a <<< n).toNat : Nat)) := fun ρ hρ _ _ _ _ _ w => by
  have hm : min n 64 = n := Nat.min_eq_left hn
  have hp : IntKind.u64.wrap ((a.toNat : Int) * 2 ^ n) = ((a <<< n).toNat : Int) := by
    rw [BitVec.toNat_shiftLeft, Nat.shiftLeft_eq]
    have e : ((a.toNat : Int) * 2 ^ n) = ((a.toNat * 2 ^ n : Nat) : Int) := by simp
    rw [e]
    generalize a.toNat * 2 ^ n = m
    show (m : Int) % (2 : Int) ^ 64 = _
    omega
  have hg : ∀ X Y, eqGuard .shl t X Y (.int .u64 (a.toNat : Nat)) (.int ky (n : Nat)) = pure () := fun _ _ => by simp [eqGuard]
  have hb : (binOp .shl t (.int .u64 (a.toNat : Nat)) (.int ky (n : Nat)) : Sem Value) = pure (.int .u64 ((a <<< n).toNat : Nat)) := by
    show Op.shift .shl .u64 _ ky _ = _
    unfold Op.shift
    rw [if_neg (by omega)]
    show (pure (.int .u64 (IntKind.u64.wrap ((a.toNat : Int) * 2 ^ (min (Int.toNat n) 64)))) : Sem Value) = _
    rw [Int.toNat_natCast, hm, hp]
  simp only [execOp, hρ x _ hx, hρ y _ hy, Sem.run_bind, hg, hb, Sem.run_pure, Result.andThen_ok]
theorem pu_shr_w {t u : TypeId} {x y : Operand} {ky : IntKind} {a : BitVec 64} (n : Nat) (hx : evalE env x = some (.int .u64 (a.toNat : Nat))) (hy : evalE env y = some (.int ky (n : Nat))) (hn : n ≤ 64) : Pu P env (.binOp .shr t x y u) (.int .u64 ((a >>> n).toNat : Nat)) := fun ρ hρ _ _ _ _ _ w => by
  have hm : min n 64 = n := Nat.min_eq_left hn
  have hp : Int.fdiv (a.toNat : Int) (2 ^ n) = ((a >>> n).toNat : Int) := by
    rw [BitVec.toNat_ushiftRight, Nat.shiftRight_eq_div_pow, Int.fdiv_eq_ediv_of_nonneg _ (Int.le_of_lt (Int.pow_pos (by decide)))]
    simp
  have hg : ∀ X Y, eqGuard .shr t X Y (.int .u64 (a.toNat : Nat)) (.int ky (n : Nat)) = pure () := fun _ _ => by simp [eqGuard]
  have hb : (binOp .shr t (.int .u64 (a.toNat : Nat)) (.int ky (n : Nat)) : Sem Value) = pure (.int .u64 ((a >>> n).toNat : Nat)) := by
    show Op.shift .shr .u64 _ ky _ = _
    unfold Op.shift
    rw [if_neg (by omega)]
    show (pure (.int .u64 (Int.fdiv (a.toNat : Int) (2 ^ (min (Int.toNat n) 64)))) : Sem Value) = _
    rw [Int.toNat_natCast, hm, hp]
  simp only [execOp, hρ x _ hx, hρ y _ hy, Sem.run_bind, hg, hb, Sem.run_pure, Result.andThen_ok]
/-- an integer's bits: a word out of a Nat -/
theorem wv_ofNat (n : Nat) (h : n < 18446744073709551616) : ((BitVec.ofNat 64 n).toNat : Int) = n := by
  rw [BitVec.toNat_ofNat, Nat.mod_eq_of_lt (by simpa using h)]
theorem pu_add_w {t u : TypeId} {x y : Operand} {a b : BitVec 64} (hx : evalE env x = some (.int .u64 (a.toNat : Nat))) (hy : evalE env y = some (.int .u64 (b.toNat : Nat))) : Pu P env (.binOp .add t x y u) (.int .u64 ((a + b).toNat : Nat)) := by
  have := pu_add (P := P) (t := t) (u := u) hx hy
  have e : IntKind.u64.wrap ((a.toNat : Int) + b.toNat) = ((a + b).toNat : Int) := by
    rw [BitVec.toNat_add]
    show ((a.toNat : Int) + b.toNat) % (2 : Int) ^ 64 = _
    omega
  rwa [e] at this
theorem pu_mul_w {t u : TypeId} {x y : Operand} {a b : BitVec 64} (hx : evalE env x = some (.int .u64 (a.toNat : Nat))) (hy : evalE env y = some (.int .u64 (b.toNat : Nat))) : Pu P env (.binOp .mul t x y u) (.int .u64 ((a * b).toNat : Nat)) := by
  have := pu_mul (P := P) (t := t) (u := u) hx hy
  have e : IntKind.u64.wrap ((a.toNat : Int) * b.toNat) = ((a * b).toNat : Int) := by
    rw [BitVec.toNat_mul]
    rw [show (a.toNat : Int) * b.toNat = ((a.toNat * b.toNat : Nat) : Int) by simp]
    generalize a.toNat * b.toNat = m
    show (m : Int) % (2 : Int) ^ 64 = _
    omega
  rwa [e] at this
theorem pu_sub_w {t u : TypeId} {x y : Operand} {a b : BitVec 64} (hx : evalE env x = some (.int .u64 (a.toNat : Nat))) (hy : evalE env y = some (.int .u64 (b.toNat : Nat))) : Pu P env (.binOp .sub t x y u) (.int .u64 ((a - b).toNat : Nat)) := by
  have := pu_sub (P := P) (t := t) (u := u) hx hy
  have e : IntKind.u64.wrap ((a.toNat : Int) - b.toNat) = ((a - b).toNat : Int) := by
    rw [BitVec.toNat_sub]
    show ((a.toNat : Int) - b.toNat) % (2 : Int) ^ 64 = _
    have := a.isLt; have := b.isLt
    omega
  rwa [e] at this
theorem pu_neg_w {t : TypeId} {x : Operand} {a : BitVec 64} (hx : evalE env x = some (.int .u64 (a.toNat : Nat))) : Pu P env (.unOp .neg t x) (.int .u64 ((-a).toNat : Nat)) := by
  have := pu_neg (P := P) (t := t) hx
  have e : IntKind.u64.wrap (0 - (a.toNat : Int)) = ((-a).toNat : Int) := by
    rw [BitVec.toNat_neg]
    show (0 - (a.toNat : Int)) % (2 : Int) ^ 64 = _
    have := a.isLt
    omega
  rwa [e] at this

/-! ### min and max of integers -/
theorem pu_min2 {k : IntKind} {ts : Array TypeId} {x y : Operand} {a b : Int} (hx : evalE env x = some (.int k a)) (hy : evalE env y = some (.int k b)) : Pu P env (.call { callee := .builtin .min, args := #[x, y], argTypes := ts }) (.int k (min a b)) := fun ρ hρ _ _ _ _ _ w => by
  have e : (if b < a then b else a) = min a b := by omega
  simp [execOp, resolve, invoke, builtin, hρ x _ hx, hρ y _ hy, Builtin.min_, Builtin.min2, e]
theorem pu_max2 {k : IntKind} {ts : Array TypeId} {x y : Operand} {a b : Int} (hx : evalE env x = some (.int k a)) (hy : evalE env y = some (.int k b)) : Pu P env (.call { callee := .builtin .max, args := #[x, y], argTypes := ts }) (.int k (max a b)) := fun ρ hρ _ _ _ _ _ w => by
  have e : (if b > a then b else a) = max a b := by omega
  simp [execOp, resolve, invoke, builtin, hρ x _ hx, hρ y _ hy, Builtin.max_, Builtin.max2, e]
end
end SX
namespace SX
open Go
theorem Spec.exA' {P : Program} {f : FuncId} {args : List Value} {pre : List Assn} {post : Value → List Assn → Prop} {α : Type} {F : α → List Assn} (h : ∀ x, Spec P f args (F x ++ pre) post) : Spec P f args (SX.exA F :: pre) post := fun E w hw => by
  obtain ⟨k1, k2, k3, k4, k5⟩ := hw
  have k6 : Sat (SX.exA F :: (E.X ++ pre)) (fun b => w.heap[b]?) := Sat.perm (perm_out (.refl _)) _ k5
  obtain ⟨x, hx⟩ := exA_open k6
  exact h x E w ⟨k1, k2, k3, k4, Sat.perm (by rw [← List.append_assoc, ← List.append_assoc]; exact List.Perm.append_right _ List.perm_append_comm) _ hx⟩
theorem Spec.ent2 {P : Program} {f : FuncId} {args : List Value} {pre : List Assn} {u : Value} {L1 L2 : List Assn} (h : Spec P f args pre (fun v L => v = u ∧ L = L1)) (e : Ent L1 L2) : Spec P f args pre (fun v L => v = u ∧ L = L2) := fun E w hw =>
  (h E w hw).mono fun _ _ ⟨v, _, a, ⟨b, c⟩, d⟩ => ⟨v, L2, a, ⟨b, rfl⟩, d.ent (c ▸ e)⟩
theorem Spec.fact' {P : Program} {f : FuncId} {args : List Value} {pre : List Assn} {post : Value → List Assn → Prop} {p : Prop} (hp : ∀ m, Sat pre m → p) (h : p → Spec P f args pre post) : Spec P f args pre post := fun E w hw => h (hp _ hw.sat) E w hw
end SX
namespace SX
open Go
theorem Spec.own_cases {P : Program} {f : FuncId} {args : List Value} {L : List Assn} {post : Value → List Assn → Prop} {e n : Nat} {v : Value} {l : Nat} {xs : List Value}
    (h0 : v = .slice none 0 0 → l = 0 → xs = [] → Spec P f args L post)
    (h1 : ∀ b cap ex, v = .slice (some ⟨b, 0, none⟩) l cap → l ≤ cap → cap ≤ maxLen → xs.length = l * n → ex.length = (cap - l) * n → Spec P f args (blk b e (xs ++ ex) :: L) post) : Spec P f args (own e n v l xs :: L) post := by
  intro E w hw
  obtain ⟨k1, k2, k3, k4, k5⟩ := hw
  have k6 : Sat (own e n v l xs :: (E.X ++ L)) (fun b => w.heap[b]?) := Sat.perm (perm_out (.refl _)) _ k5
  rcases own_open k6 with ⟨a1, a2, a3⟩ | ⟨b, cap, ex, a1, a2, a3, a4, a5, a6⟩
  · exact h0 a1 a2 a3 E w ⟨k1, k2, k3, k4, k6.tail⟩
  · exact h1 b cap ex a1 a2 a3 a4 a5 E w ⟨k1, k2, k3, k4, Sat.perm (perm_out (.refl _)).symm _ a6⟩
theorem Spec.ent3 {P : Program} {f : FuncId} {args : List Value} {pre : List Assn} {post post' : Value → List Assn → Prop} (h : Spec P f args pre post) (e : ∀ v L, post v L → ∃ L', Ent L L' ∧ post' v L') : Spec P f args pre post' := fun E w hw =>
  (h E w hw).mono fun _ _ ⟨v, L, a, b, d⟩ => let ⟨L', h1, h2⟩ := e v L b; ⟨v, L', a, h2, d.ent h1⟩
theorem own_nil_ent {e n : Nat} {L : List Assn} : Ent L (own e n (.slice none 0 0) 0 [] :: L) := fun m h => ⟨fun _ => none, m, own_nil _ _ _, h, fun _ => .inl rfl, fun _ _ h => by (cases h), fun _ _ h => h⟩
end SX
namespace SX
theorem ent_ex1 {α : Type} {F : α → List Assn} (x : α) : Ent (F x) [exA F] := fun m h => exA_close (L := []) x m (by rw [List.append_nil]; exact h)
end SX
