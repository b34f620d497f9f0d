/- A part of the proof: walks of the program's functions, and the rules by which they go. -/
import Derived.Test.YtllgakmdhjgmoaaGreatBc7e21835
import Derived.Laws.IdiomStrings
import Derived.Lib.Bytealg
import Derived.Lib.Strings
import Derived.Laws.Strings2
import Derived.Carry
import Derived.OpenShut
import Derived.ProofKit
import Derived.Deep.SlicePairs
import Derived.Deep.Grids
import Derived.Maps.RangeRun
import Derived.Lib.AppendStr
import Derived.Laws.Externs
import Derived.Lib.BufferRead
import Derived.Shelf.Sort.Plain
import Derived.Shelf.Slices.CompactS
import Derived.Sort.EncStr
import Derived.Lib.RowBridge
import Derived.ArgAppend
import Derived.KernelRfl
import Derived.Laws.Runes
import Derived.ChangeSame
import Derived.JoinedCond
import Derived.LaidMore
namespace SX
open Go
variable {P : Program} {env : Env}
def fldOk (P : Program) (i : Nat) (f : Field) (s : Bool) : Bool :=
  f.name != "_" && f.offset == i && P.plainKey f.type && (match P.underlying f.type with | some .string => s | some (.int _) => !s | _ => false)
def fldsOk (P : Program) : Nat → List Field → List Bool → Bool
  | _, [], [] => true
  | i, f :: fs, s :: ss => fldOk P i f s && fldsOk P (i + 1) fs ss
  | _, _, _ => false
class TEqN (P : Program) (t : TypeId) (ss : outParam (List Bool)) : Prop where
  held : P.stoodInHeld t = false
  st : (match P.underlying t with | some (.struct _) => true | _ => false) = true
  flds : fldsOk P 0 (P.fieldsOf t).toList ss = true
  gd : P.eqGuardType P.depth t = false
inductive Pairs : List Bool → List Value → List Value → Bool → Prop
  | nil : Pairs [] [] [] true
  | int {k : IntKind} {a b : Int} {ss vs us r} : Pairs ss vs us r → Pairs (false :: ss) (.int k a :: vs) (.int k b :: us) (decide (a = b) && r)
  | str {a b : ByteArray} {ss vs us r} : Pairs ss vs us r → Pairs (true :: ss) (.string a :: vs) (.string b :: us) (strEq a b && r)
theorem run_eqFs {xs ys : Array Value} (d : Nat) (w : World) : ∀ {ss : List Bool} {vs us : List Value} {r : Bool} (_ : Pairs ss vs us r) (i : Nat) (fs : List Field), fldsOk P i fs ss = true → (∀ j v, vs[j]? = some v → xs[i + j]? = some v) → (∀ j v, us[j]? = some v → ys[i + j]? = some v) →
    (Op.eqFields (d + 1) xs ys fs).run P w = .ok r w := by
  intro ss vs us r h
  induction h with
  | nil =>
    intro i fs hf _ _
    cases fs with
    | nil => rfl
    | cons f fs => simp [fldsOk] at hf
  | @int k a b ss vs us r _ ih =>
    intro i fs hf h1 h2
    cases fs with
    | nil => simp [fldsOk] at hf
    | cons f fs =>
      simp only [fldsOk, fldOk, Bool.and_eq_true, bne_iff_ne, beq_iff_eq] at hf
      obtain ⟨⟨⟨⟨n1, o1⟩, p1⟩, u1⟩, hr⟩ := hf
      split at u1
      · cases u1
      · rename_i k1 hk1
        have q1 := run_part_plain (P := P) w p1 (xs := xs) (off := i) (v := .int k a) (h1 0 _ rfl)
        have q2 := run_part_plain (P := P) w p1 (xs := ys) (off := i) (v := .int k b) (h2 0 _ rfl)
        have h3 := ih (i + 1) fs hr (fun j v hj => by rw [Nat.add_assoc, Nat.add_comm 1 j]; exact h1 (j + 1) v hj) (fun j v hj => by rw [Nat.add_assoc, Nat.add_comm 1 j]; exact h2 (j + 1) v hj)
        simp only [Op.eqFields, n1, ne_eq, not_false_eq_true, if_true, o1, Sem.run_bind, q1, q2, Result.andThen_ok, run_equalIn_int _ _ _ _ _ _ _ hk1, Sem.run_ite, Sem.run_pure]
        by_cases e1 : a = b <;> simp [e1, h3]
      · cases u1
  | @str a b ss vs us r _ ih =>
    intro i fs hf h1 h2
    cases fs with
    | nil => simp [fldsOk] at hf
    | cons f fs =>
      simp only [fldsOk, fldOk, Bool.and_eq_true, bne_iff_ne, beq_iff_eq] at hf
      obtain ⟨⟨⟨⟨n1, o1⟩, p1⟩, u1⟩, hr⟩ := hf
      split at u1
      · rename_i hk1
        have q1 := run_part_plain (P := P) w p1 (xs := xs) (off := i) (v := .string a) (h1 0 _ rfl)
        have q2 := run_part_plain (P := P) w p1 (xs := ys) (off := i) (v := .string b) (h2 0 _ rfl)
        have h3 := ih (i + 1) fs hr (fun j v hj => by rw [Nat.add_assoc, Nat.add_comm 1 j]; exact h1 (j + 1) v hj) (fun j v hj => by rw [Nat.add_assoc, Nat.add_comm 1 j]; exact h2 (j + 1) v hj)
        simp only [Op.eqFields, n1, ne_eq, not_false_eq_true, if_true, o1, Sem.run_bind, q1, q2, Result.andThen_ok, run_equalIn_string _ _ _ _ _ hk1, Sem.run_ite, Sem.run_pure]
        unfold strEq
        cases e1 : (a.toList == b.toList) <;> simp [h3]
      · cases u1
      · cases u1
theorem run_eqN {t : TypeId} {ss : List Bool} [h : TEqN P t ss] {vs us : List Value} {r : Bool} (hp : Pairs ss vs us r) (d : Nat) (w : World) : (Op.equalIn (d + 2) t (.agg vs.toArray) (.agg us.toArray)).run P w = .ok r w := by
  have ht : P.underlying t = some (.struct (P.fieldsOf t)) := by
    have hs := h.st
    unfold Program.fieldsOf
    split at hs
    · rename_i fs hu; rw [hu]
    · cases hs
  rw [run_equalIn_struct w (d + 1) t _ _ ht h.held]
  exact run_eqFs d w hp 0 _ h.flds (fun j v hj => by rw [Nat.zero_add]; simpa using hj) (fun j v hj => by rw [Nat.zero_add]; simpa using hj)
theorem eqGuard_aggN {t : TypeId} {ss : List Bool} [h : TEqN P t ss] {a b : Array Value} : ∀ op X Y w, (eqGuard op t X Y (.agg a) (.agg b)).run P w = .ok () w := fun op X Y w => by
  cases op <;> simp [eqGuard, h.gd]
theorem pu_stN_ne {t u : TypeId} {ss : List Bool} [h : TEqN P t ss] {x y : Operand} {vs us : List Value} {r : Bool} (hx : evalE env x = some (.agg vs.toArray)) (hy : evalE env y = some (.agg us.toArray)) (hp : Pairs ss vs us r) :
    Pu P env (.binOp .neq t x y u) (.bool (!r)) := fun ρ hρ _ _ _ _ _ w => by
  have h1 : (Op.equal t (.agg vs.toArray) (.agg us.toArray)).run P w = .ok _ w := run_eqN hp 9998 w
  simp only [execOp, hρ x _ hx, hρ y _ hy, Sem.run_bind, eqGuard_aggN, Result.andThen_ok, binOp, h1, Sem.run_pure]
end SX
namespace SX
open Go
variable {P : Program} {env : Env}
theorem pu_str_hi {t : TypeId} [h : TStr P t] {x y : Operand} {s : ByteArray} {ki : IntKind} {hi : Int} (k : Nat) (hx : evalE env x = some (.string s)) (hy : evalE env y = some (.int ki hi)) (hk : hi = (k : Int)) (hc : k ≤ s.size) :
    Pu P env (.slice t x none (some y) none) (.string (s.extract 0 k)) := fun ρ hρ _ _ _ _ _ w => by
  have h1 := run_slice_string_h (P := P) w t s h.und ki hi (by omega) (by omega)
  have h2 : (Instr.sliceAt t (.string s) none (some (.int ki hi)) none).run P w = (Instr.slice t (.string s) none (some (.int ki hi)) none).run P w := by
    simp [Instr.sliceAt, run_underlying h.und]
  rw [h1] at h2
  have h3 : hi.toNat = k := by omega
  rw [h3] at h2
  simp [execOp, hρ x _ hx, hρ y _ hy, h2]
theorem pu_str_lo {t : TypeId} [h : TStr P t] {x y : Operand} {s : ByteArray} {ki : IntKind} {lo : Int} (k : Nat) (hx : evalE env x = some (.string s)) (hy : evalE env y = some (.int ki lo)) (hk : lo = (k : Int)) (hc : k ≤ s.size) :
    Pu P env (.slice t x (some y) none none) (.string (s.extract k s.size)) := fun ρ hρ _ _ _ _ _ w => by
  have h1 := run_slice_string_l (P := P) w t s h.und ki lo (by omega) (by omega)
  have h2 : (Instr.sliceAt t (.string s) (some (.int ki lo)) none none).run P w = (Instr.slice t (.string s) (some (.int ki lo)) none none).run P w := by
    simp [Instr.sliceAt, run_underlying h.und]
  rw [h1] at h2
  have h3 : lo.toNat = k := by omega
  rw [h3] at h2
  simp [execOp, hρ x _ hx, hρ y _ hy, h2]
theorem pu_str_index {t : TypeId} [h : TStr P t] {x y : Operand} {s : ByteArray} {ki : IntKind} {i : Int} {j : Nat} {b : UInt8} (hx : evalE env x = some (.string s)) (hy : evalE env y = some (.int ki i)) (hi : i = (j : Int)) (hb : s.data.toList[j]? = some b) :
    Pu P env (.index t x y) (.int .u8 (b.toNat : Nat)) := fun ρ hρ _ _ _ _ _ w => by
  subst hi
  have hlt : j < s.data.size := by have := (List.getElem?_eq_some_iff.1 hb).1; simpa using this
  have h1 : s[j]? = some b := by
    rw [getElem?_pos s j hlt]
    have : s.data.toList[j]? = some s[j] := by rw [List.getElem?_eq_getElem (by simpa using hlt)]; rfl
    rw [this] at hb; exact hb
  simp [execOp, hρ x _ hx, hρ y _ hy, Instr.index, asIntOf, run_underlying h.und, h1]
theorem pu_str_add {t u : TypeId} {x y : Operand} {a b : ByteArray} (hx : evalE env x = some (.string a)) (hy : evalE env y = some (.string b)) (hs : a.size + b.size ≤ 9223372036854775807) : Pu P env (.binOp .add t x y u) (.string (a ++ b)) :=
  pu_str_op hx hy rfl (eqGuard_str _) (fun w => by
    have : ¬ (((a.size + b.size : Nat) : Int) > IntKind.i64.max) := by
      show ¬ (((a.size + b.size : Nat) : Int) > 9223372036854775807); omega
    unfold Op.stringOp
    simp only []
    rw [if_neg this]; rfl)
end SX
namespace SX
open Go
variable {P : Program} {env : Env}
abbrev bc1 (b : UInt8) : List Value := [.int .u8 (b.toNat : Nat)]
abbrev bcs (l : List UInt8) : List Value := l.flatMap bc1
theorem bcs_map (l : List UInt8) : bcs l = l.map fun b => Value.int .u8 (b.toNat : Nat) := by
  induction l with
  | nil => rfl
  | cons a l ih => rw [bcs, List.flatMap_cons, List.map_cons, ← ih]; rfl
theorem bcs_len (l : List UInt8) : (bcs l).length = l.length := by rw [bcs_map, List.length_map]
theorem bcs_one (l : List UInt8) : (bcs l).all Value.oneCell' = true := by
  rw [List.all_eq_true]; intro v hv; rw [bcs_map] at hv; obtain ⟨b, _, rfl⟩ := List.mem_map.1 hv; rfl
/-- []byte(s) -/
theorem ef_bytes {L : List Assn} {s t e by_ : Nat} [hs : TStr P s] [ht : TSl P t e 1 by_] [he : TInt P e .u8] {x : Operand} {b : ByteArray} (hx : evalE env x = some (.string b)) (hl : b.size ≤ maxLen) :
    Ef P env L (.convert s t x) (fun k => ∀ g cap cs fr, b.size ≤ cap → cap ≤ maxLen → (∀ (j : Nat) (u : Value), (bcs b.data.toList)[j]? = some u → cs[j]? = some u) → k (.slice (some ⟨g, 0, none⟩) b.size cap) (one g (.cells cs e fr) :: L)) := by
  intro ro dst ty pos af g N E a w next Q k hf hh hk hn
  have hr := run_bytes_of_string (P := P) w s t e b hs.und ht.und he.und
  refine wpIn_value (v := .slice (some ⟨w.heap.size, 0, none⟩) b.size (grownCap w b.size 0 e)) (w' := w.drew.alloc (.cells (bytesRow b (grownCap w b.size 0 e)) e ((bytesRow b (grownCap w b.size 0 e)).size, (bytesRow b (grownCap w b.size 0 e)).size + 1)))
    (by simp only [execOp, hf.ev x _ hx, hr, Sem.run_bind, Sem.run_pure, Result.andThen_ok]) ?_
  refine hn _ _ _ (hk _ _ _ _ (grownCap_ge w _ 0 e) (grownCap_le_maxLen w _ 0 e hl) fun j u hj => ?_) (hh.drew.alloc _)
  rw [bcs_map, List.getElem?_map] at hj
  rw [Option.map_eq_some_iff] at hj
  obtain ⟨c, hc, rfl⟩ := hj
  obtain ⟨hlt, rfl⟩ := List.getElem?_eq_some_iff.1 hc
  have hlt' : j < b.data.size := by simpa using hlt
  rw [bytesRow_at b _ j hlt']
  simp
theorem swp_share1 {rn : Option Nat} {Q : Post} {N : Nat} {L : List Assn} {μ : PH} {c : Code} {b : Nat} {o : Obj} {L0 : List Assn} (hL : Split L0 [one b o, ro μ] L) (h : ∀ μ', Le μ μ' → μ' b = some o → swp P rn c Q N env (ro μ' :: L)) : swp P rn c Q N env L0 := fun E D a w hd hf hh => by
  obtain ⟨μ', h1, h2, h3⟩ := (hh.ent hL.ent).share
  exact h μ' h1 h2 E D a w hd hf h3
theorem row_bytes {μ : PH} {g e : Nat} {cs : Array Value} {fr : Nat × Nat} {b : ByteArray} {cap : Nat} (h1 : b.size ≤ cap) (h2 : cap ≤ maxLen) (h : ∀ (j : Nat) (u : Value), (bcs b.data.toList)[j]? = some u → cs[j]? = some u) (hg : μ g = some (.cells cs e fr)) :
    Row μ (.slice (some ⟨g, 0, none⟩) b.size cap) 1 b.data.toList.length (bcs b.data.toList) := by
  have hl : b.data.toList.length = b.size := by rw [Array.length_toList]; rfl
  refine ⟨by rw [bcs_len]; omega, _, _, by rw [hl], by omega, h2, (fun h => by cases h), fun _ => ⟨g, 0, rfl, fun j u hj => ⟨_, _, _, hg, ?_⟩⟩⟩
  rw [Nat.zero_add]; exact h j u hj
/-- string(b) of a slice of the call's own -/
theorem rd_bytes {L L' : List Assn} {s t e by_ : Nat} [ht : TStr P t] [hs : TSl P s e 1 by_] [he : TInt P e .u8] {x : Operand} {g cap : Nat} {ex : List Value} (l : List UInt8) (hx : evalE env x = some (.slice (some ⟨g, 0, none⟩) l.length cap)) (hb : Take (blk g e (bcs l ++ ex)) L L') :
    Rd P env L (.convert s t x) (.string ⟨l.toArray⟩) := by
  intro ρ hρ dst ty pos af g' E w hh
  have h1 : w.heap[g]? = some (.cells (bcs l ++ ex).toArray e (0, 0)) := hh.one_get hb
  have hr := run_convert_bytes_back (P := P) w s t e ⟨g, 0, none⟩ cap l hs.und he.und ht.und (fun j hj => by
    rw [addr_add, cell_of_row w g (0 + j) _ e (0, 0) h1]
    rw [Nat.zero_add, List.getElem?_toArray, List.getElem?_append_left (by rw [bcs_len]; exact hj), bcs_map, List.getElem?_map, List.getElem?_eq_getElem hj]; rfl)
  simp only [execOp, hρ x _ hx, hr, Sem.run_bind, Sem.run_pure, Result.andThen_ok]
end SX
namespace SX
open Go
variable {P : Program} {env : Env}
/-! ### words of 32 -/
theorem ofInt_toNat32 (w : BitVec 32) : BitVec.ofInt 32 (w.toNat : Int) = w := by
  rw [← BitVec.toInt_inj, BitVec.toInt_ofInt]
  rw [BitVec.toInt_eq_toNat_bmod]
theorem wrap_word32 (w : BitVec 32) : IntKind.u32.wrap (w.toNat : Int) = w.toNat := IntWalk.u32_in _ ⟨by omega, by have := w.isLt; omega⟩
theorem run_bits32 {op : BinOp} {t u : TypeId} {x y : Operand} {a b c : BitVec 32} (hx : evalE env x = some (.int .u32 (a.toNat : Nat))) (hy : evalE env y = some (.int .u32 (b.toNat : Nat)))
    (hop : binOp op t (.int .u32 (a.toNat : Nat)) (.int .u32 (b.toNat : Nat)) = Op.intBits op .u32 a.toNat b.toNat) (hg : ∀ X Y, eqGuard op t X Y (.int .u32 (a.toNat : Nat)) (.int .u32 (b.toNat : Nat)) = pure ())
    (hc : Op.intBits op .u32 a.toNat b.toNat = pure (.int .u32 (IntKind.u32.wrap (c.toNat : Nat)))) : Pu P env (.binOp op t x y u) (.int .u32 (c.toNat : Nat)) := fun ρ hρ _ _ _ _ _ w => by
  simp only [execOp, hρ x _ hx, hρ y _ hy, Sem.run_bind, hg, Sem.run_pure, Result.andThen_ok, hop, hc, wrap_word32]
theorem pu_and_w32 {t u : TypeId} {x y : Operand} {a b : BitVec 32} (hx : evalE env x = some (.int .u32 (a.toNat : Nat))) (hy : evalE env y = some (.int .u32 (b.toNat : Nat))) : Pu P env (.binOp .and t x y u) (.int .u32 ((a &&& b).toNat : Nat)) :=
  run_bits32 hx hy (by simp [binOp]) (fun _ _ => by simp [eqGuard]) (by
    show (let a' : BitVec 32 := BitVec.ofInt 32 a.toNat; let b' : BitVec 32 := BitVec.ofInt 32 b.toNat; pure (.int .u32 (IntKind.u32.wrap (a' &&& b').toNat)) : Sem Value) = _
    rw [ofInt_toNat32, ofInt_toNat32])
theorem pu_xor_w32 {t u : TypeId} {x y : Operand} {a b : BitVec 32} (hx : evalE env x = some (.int .u32 (a.toNat : Nat))) (hy : evalE env y = some (.int .u32 (b.toNat : Nat))) : Pu P env (.binOp .xor t x y u) (.int .u32 ((a ^^^ b).toNat : Nat)) :=
  run_bits32 hx hy (by simp [binOp]) (fun _ _ => by simp [eqGuard]) (by
    show (let a' : BitVec 32 := BitVec.ofInt 32 a.toNat; let b' : BitVec 32 := BitVec.ofInt 32 b.toNat; pure (.int .u32 (IntKind.u32.wrap (a' ^^^ b').toNat)) : Sem Value) = _
    rw [ofInt_toNat32, ofInt_toNat32])
theorem pu_shr_w32 {t u : TypeId} {x y : Operand} {ky : IntKind} {a : BitVec 32} (n : Nat) (hx : evalE env x = some (.int .u32 (a.toNat : Nat))) (hy : evalE env y = some (.int ky (n : Nat))) (hn : n ≤ 32) : Pu P env (.binOp .shr t x y u) (.int .u32 ((a >>> n).toNat : Nat)) := fun ρ hρ _ _ _ _ _ w => by
  have hm : min n 32 = n := Nat.min_eq_left hn
  have hp : Int.fdiv (a.toNat : Int) (2 ^ n) = ((a >>> n).toNat : Int) := by
    rw [BitVec.toNat_ushiftRight, Nat.shiftRight_eq_div_pow, Int.fdiv_eq_ediv_of_nonneg _ (Int.le_of_lt (Int.pow_pos (by decide)))]
    simp
  have hg : ∀ X Y, eqGuard .shr t X Y (.int .u32 (a.toNat : Nat)) (.int ky (n : Nat)) = pure () := fun _ _ => by simp [eqGuard]
  have hb : (binOp .shr t (.int .u32 (a.toNat : Nat)) (.int ky (n : Nat)) : Sem Value) = pure (.int .u32 ((a >>> n).toNat : Nat)) := by
    show Op.shift .shr .u32 _ ky _ = _
    unfold Op.shift
    rw [if_neg (by omega)]
    show (pure (.int .u32 (Int.fdiv (a.toNat : Int) (2 ^ (min (Int.toNat n) 32)))) : Sem Value) = _
    rw [Int.toNat_natCast, hm, hp]
  simp only [execOp, hρ x _ hx, hρ y _ hy, Sem.run_bind, hg, hb, Sem.run_pure, Result.andThen_ok]
/-! ### words of 8 -/
theorem ofInt_toNat8 (w : BitVec 8) : BitVec.ofInt 8 (w.toNat : Int) = w := by
  rw [← BitVec.toInt_inj, BitVec.toInt_ofInt]
  rw [BitVec.toInt_eq_toNat_bmod]
theorem wrap_word8 (w : BitVec 8) : IntKind.u8.wrap (w.toNat : Int) = w.toNat := IntWalk.u8_in _ ⟨by omega, by have := w.isLt; omega⟩
theorem run_bits8 {op : BinOp} {t u : TypeId} {x y : Operand} {a b c : BitVec 8} (hx : evalE env x = some (.int .u8 (a.toNat : Nat))) (hy : evalE env y = some (.int .u8 (b.toNat : Nat)))
    (hop : binOp op t (.int .u8 (a.toNat : Nat)) (.int .u8 (b.toNat : Nat)) = Op.intBits op .u8 a.toNat b.toNat) (hg : ∀ X Y, eqGuard op t X Y (.int .u8 (a.toNat : Nat)) (.int .u8 (b.toNat : Nat)) = pure ())
    (hc : Op.intBits op .u8 a.toNat b.toNat = pure (.int .u8 (IntKind.u8.wrap (c.toNat : Nat)))) : Pu P env (.binOp op t x y u) (.int .u8 (c.toNat : Nat)) := fun ρ hρ _ _ _ _ _ w => by
  simp only [execOp, hρ x _ hx, hρ y _ hy, Sem.run_bind, hg, Sem.run_pure, Result.andThen_ok, hop, hc, wrap_word8]
theorem pu_xor_w8 {t u : TypeId} {x y : Operand} {a b : BitVec 8} (hx : evalE env x = some (.int .u8 (a.toNat : Nat))) (hy : evalE env y = some (.int .u8 (b.toNat : Nat))) : Pu P env (.binOp .xor t x y u) (.int .u8 ((a ^^^ b).toNat : Nat)) :=
  run_bits8 hx hy (by simp [binOp]) (fun _ _ => by simp [eqGuard]) (by
    show (let a' : BitVec 8 := BitVec.ofInt 8 a.toNat; let b' : BitVec 8 := BitVec.ofInt 8 b.toNat; pure (.int .u8 (IntKind.u8.wrap (a' ^^^ b').toNat)) : Sem Value) = _
    rw [ofInt_toNat8, ofInt_toNat8])
theorem pu_not_w32 {t : TypeId} {x : Operand} {a : BitVec 32} (hx : evalE env x = some (.int .u32 (a.toNat : Nat))) : Pu P env (.unOp .xor t x) (.int .u32 ((~~~a).toNat : Nat)) := fun ρ hρ _ _ _ _ _ w => by
  have hc : (Op.unary .xor (.int .u32 (a.toNat : Nat)) : Sem Value) = pure (.int .u32 ((~~~a).toNat : Nat)) := by
    show (let a' : BitVec 32 := BitVec.ofInt 32 4294967295; let b' : BitVec 32 := BitVec.ofInt 32 a.toNat; pure (.int .u32 (IntKind.u32.wrap (a' ^^^ b').toNat)) : Sem Value) = _
    rw [ofInt_toNat32]
    have e : (BitVec.ofInt 32 4294967295 ^^^ a) = ~~~a := by
      have : BitVec.ofInt 32 4294967295 = BitVec.allOnes 32 := by decide
      rw [this, BitVec.allOnes_xor]
    show (pure (.int .u32 (IntKind.u32.wrap ((BitVec.ofInt 32 4294967295 ^^^ a).toNat))) : Sem Value) = _
    rw [e, wrap_word32]
  simp only [execOp, hρ x _ hx, hc, Sem.run_bind, Sem.run_pure, Result.andThen_ok]
/-- the lowest byte -/
theorem pu_low8 {s t : TypeId} {ks : IntKind} {n : Nat} [hs : TInt P s ks] [ht : TInt P t .u8] {x : Operand} {v : Int} (a : BitVec n) (_hn : 8 ≤ n) (hv : v = (a.toNat : Nat)) (hx : evalE env x = some (.int ks v)) : Pu P env (.convert s t x) (.int .u8 ((a.setWidth 8).toNat : Nat)) := by
  have h := pu_conv (P := P) (s := s) (t := t) (k' := .u8) hx
  have e : IntKind.u8.wrap v = ((a.setWidth 8).toNat : Nat) := by
    rw [hv, BitVec.toNat_setWidth]
    show ((a.toNat : Nat) : Int) % 256 = _
    simp
  rwa [e] at h
end SX
namespace SX
abbrev W32 : Type := BitVec 32
def polyW : W32 := 3988292384#32
def turnW (c : W32) : W32 := if (c &&& 1#32) = 0#32 then c >>> 1 else (c >>> 1) ^^^ polyW
def turnsW : Nat → W32 → W32
  | 0, c => c
  | n + 1, c => turnsW n (turnW c)
def rowW (i : Nat) : W32 := turnsW 8 (BitVec.ofNat 32 i)
/-- a byte by the table -/
def takeW (c : W32) (b : UInt8) : W32 := rowW ((c.setWidth 8) ^^^ b.toBitVec).toNat ^^^ (c >>> 8)
/-- a byte bit by bit -/
def moreW (c : W32) (b : UInt8) : W32 := turnsW 8 (c ^^^ BitVec.ofNat 32 b.toNat)
theorem turn_low (c : W32) : turnW c = (c >>> 1) ^^^ (if c.getLsbD 0 then polyW else 0#32) := by
  have h : (c &&& 1#32) = 0#32 ↔ c.getLsbD 0 = false := by
    constructor
    · intro h
      have := congrArg (fun x => x.getLsbD 0) h
      simpa using this
    · intro h
      apply BitVec.eq_of_getLsbD_eq
      intro i hi
      rw [BitVec.getLsbD_and]
      by_cases h0 : i = 0
      · subst h0; rw [h]; simp
      · have : (1#32).getLsbD i = false := by simp [BitVec.getLsbD_one, h0]
        rw [this]; simp
  unfold turnW
  cases hb : c.getLsbD 0 with
  | false => rw [if_pos (h.2 hb)]; simp
  | true => rw [if_neg (fun e => by rw [h.1 e] at hb; cases hb)]; simp
theorem turn_xor (a b : W32) : turnW (a ^^^ b) = turnW a ^^^ turnW b := by
  rw [turn_low, turn_low, turn_low, BitVec.getLsbD_xor]
  have hs : (a ^^^ b) >>> 1 = (a >>> 1) ^^^ (b >>> 1) := by
    apply BitVec.eq_of_getLsbD_eq; intro i hi; simp [BitVec.getLsbD_ushiftRight, BitVec.getLsbD_xor]
  rw [hs]
  generalize a >>> 1 = x
  generalize b >>> 1 = y
  generalize polyW = p
  cases a.getLsbD 0 <;> cases b.getLsbD 0
  · show x ^^^ y ^^^ 0#32 = (x ^^^ 0#32) ^^^ (y ^^^ 0#32); simp
  · show x ^^^ y ^^^ p = (x ^^^ 0#32) ^^^ (y ^^^ p); rw [BitVec.xor_zero, BitVec.xor_assoc]
  · show x ^^^ y ^^^ p = (x ^^^ p) ^^^ (y ^^^ 0#32); rw [BitVec.xor_zero, BitVec.xor_assoc, BitVec.xor_comm y p, ← BitVec.xor_assoc]
  · show x ^^^ y ^^^ 0#32 = (x ^^^ p) ^^^ (y ^^^ p)
    rw [BitVec.xor_zero, BitVec.xor_comm y p, BitVec.xor_assoc, ← BitVec.xor_assoc p p y, BitVec.xor_self, BitVec.zero_xor]
theorem turns_xor (n : Nat) (a b : W32) : turnsW n (a ^^^ b) = turnsW n a ^^^ turnsW n b := by
  induction n generalizing a b with
  | zero => rfl
  | succ n ih => unfold turnsW; rw [turn_xor, ih]
theorem turns_shl (n : Nat) (x : W32) (hn : n ≤ 8) (hx : x.toNat < 16777216) : turnsW n (x <<< n) = x := by
  induction n with
  | zero => simp [turnsW]
  | succ n ih =>
    unfold turnsW
    have h1 : turnW (x <<< (n + 1)) = x <<< n := by
      rw [turn_low]
      have h0 : (x <<< (n + 1)).getLsbD 0 = false := by simp
      rw [h0]
      apply BitVec.eq_of_toNat_eq
      have hp : 2 ^ (n + 1) ≤ 256 := by
        have : 2 ^ (n + 1) ≤ 2 ^ 8 := Nat.pow_le_pow_right (by decide) hn
        simpa using this
      have hp2 : 2 ^ (n + 1) = 2 * 2 ^ n := by rw [Nat.pow_succ, Nat.mul_comm]
      have hp3 : 2 ^ n ≤ 128 := by omega
      have hb : x.toNat * 2 ^ n < 2147483648 := by
        have := Nat.mul_le_mul (Nat.le_of_lt_succ (Nat.lt_succ_of_lt hx)) hp3
        have h2 : x.toNat * 2 ^ n ≤ x.toNat * 128 := Nat.mul_le_mul_left _ hp3
        omega
      show ((x <<< (n + 1)) >>> 1 ^^^ 0#32).toNat = _
      rw [BitVec.xor_zero, BitVec.toNat_ushiftRight, BitVec.toNat_shiftLeft, BitVec.toNat_shiftLeft, Nat.shiftLeft_eq, Nat.shiftLeft_eq, Nat.shiftRight_eq_div_pow, hp2, ← Nat.mul_assoc, Nat.mul_comm x.toNat 2, Nat.mul_assoc]
      generalize x.toNat * 2 ^ n = m at hb
      omega
    rw [h1]; exact ih (by omega)
theorem take_more (c : W32) (b : UInt8) : takeW c b = moreW c b := by
  unfold takeW moreW rowW
  have hsplit : c ^^^ BitVec.ofNat 32 b.toNat = BitVec.ofNat 32 ((c.setWidth 8) ^^^ b.toBitVec).toNat ^^^ ((c >>> 8) <<< 8) := by
    have h1 : BitVec.ofNat 32 b.toNat = b.toBitVec.setWidth 32 := by
      apply BitVec.eq_of_toNat_eq; rw [BitVec.toNat_ofNat, BitVec.toNat_setWidth]; rfl
    have h2 : BitVec.ofNat 32 ((c.setWidth 8) ^^^ b.toBitVec).toNat = ((c.setWidth 8) ^^^ b.toBitVec).setWidth 32 := by
      apply BitVec.eq_of_toNat_eq; rw [BitVec.toNat_ofNat, BitVec.toNat_setWidth]
    rw [h1, h2]
    apply BitVec.eq_of_getLsbD_eq
    intro i hi
    simp only [BitVec.getLsbD_xor, BitVec.getLsbD_setWidth, BitVec.getLsbD_shiftLeft, BitVec.getLsbD_ushiftRight]
    by_cases h8 : i < 8
    · simp [h8, hi]
    · have e : 8 + (i - 8) = i := by omega
      have hb : b.toBitVec.getLsbD i = false := BitVec.getLsbD_of_ge _ _ (by omega)
      simp [h8, hi, e, hb]
  rw [hsplit, turns_xor, turns_shl 8 (c >>> 8) (Nat.le_refl _) (by rw [BitVec.toNat_ushiftRight, Nat.shiftRight_eq_div_pow]; have := c.isLt; omega)]
/-- the sum of bytes, from a state -/
def crcW (c : W32) (l : List UInt8) : W32 := l.foldl moreW c
theorem crc_take (l : List UInt8) (c : W32) : l.foldl takeW c = crcW c l := by
  unfold crcW; induction l generalizing c with
  | nil => rfl
  | cons b l ih => rw [List.foldl_cons, List.foldl_cons, take_more, ih]
/-- n bytes, the greatest first -/
def bigW (x : BitVec 64) (n : Nat) : List UInt8 := (List.range n).map fun i => UInt8.ofBitVec ((x >>> (8 * (n - 1 - i))).setWidth 8)
theorem bigW_len (x : BitVec 64) (n : Nat) : (bigW x n).length = n := by unfold bigW; rw [List.length_map, List.length_range]
theorem bigW_get (x : BitVec 64) {n i : Nat} (hi : i < n) : (bigW x n)[i]? = some (UInt8.ofBitVec ((x >>> (8 * (n - 1 - i))).setWidth 8)) := by
  unfold bigW; rw [List.getElem?_map, List.getElem?_range hi]; rfl
def sumW (l : List UInt8) : W32 := ~~~ crcW (~~~ 0#32) l
abbrev four (b : W32) : List UInt8 := bigW (b.setWidth 64) 4
end SX
namespace Hp

/-- asymmetric, and 'not ahead' goes on -/
structure Ord {β : Type} (ah : β → β → Bool) : Prop where
  asym : ∀ a b, ah a b = true → ah b a = false
  trans : ∀ a b c, ah b a = false → ah c b = false → ah c a = false

section
variable {β : Type} {ah : β → β → Bool}
theorem Ord.irrefl (h : Ord ah) (a : β) : ah a a = false := by
  cases e : ah a a with
  | false => rfl
  | true => exact (h.asym a a e).symm.trans e |>.symm ▸ rfl

def better (ah : β → β → Bool) (es : List β) (k i : Nat) : Nat := match es[k]?, es[i]? with
  | some a, some b => if ah a b then k else i
  | _, _ => i
def best (ah : β → β → Bool) (es : List β) (i : Nat) : Nat := better ah es (2 * i + 2) (better ah es (2 * i + 1) i)
def down (ah : β → β → Bool) : Nat → List β → Nat → List β
  | 0, es, _ => es
  | f + 1, es, i => if best ah es i = i then es else match es[i]?, es[best ah es i]? with
    | some a, some b => down ah f ((es.set i b).set (best ah es i) a) (best ah es i)
    | _, _ => es

def Heap (ah : β → β → Bool) (es : List β) : Prop := ∀ i a p, 0 < i → es[i]? = some a → es[(i - 1) / 2]? = some p → ah a p = false
/-- nobody is ahead of the first -/
theorem Heap.first (o : Ord ah) {es : List β} (h : Heap ah es) {z : β} (hz : es[0]? = some z) : ∀ (i : Nat) (a : β), es[i]? = some a → ah a z = false := by
  intro i
  induction i using Nat.strongRecOn with
  | _ i ih =>
    intro a ha
    by_cases hi : i = 0
    · subst hi
      rw [hz] at ha; cases ha; exact o.irrefl z
    · have hlt : (i - 1) / 2 < es.length := by have := (List.getElem?_eq_some_iff.1 ha).1; omega
      have hp : es[(i - 1) / 2]? = some es[(i - 1) / 2] := List.getElem?_eq_getElem hlt
      exact o.trans z _ a (ih _ (by omega) _ hp) (h i a _ (by omega) ha hp)
end
end Hp
namespace SX
open Go
theorem bl_irrefl : ∀ x : List UInt8, Op.bytesLess x x = false := by
  intro x
  induction x with
  | nil => rfl
  | cons a x ih => simp [Op.bytesLess, ih]
theorem bl_trans : ∀ x y z : List UInt8, Op.bytesLess x y = true → Op.bytesLess y z = true → Op.bytesLess x z = true := by
  intro x
  induction x with
  | nil => intro y z h1 h2; cases y <;> cases z <;> simp_all [Op.bytesLess]
  | cons a x ih =>
    intro y z h1 h2
    cases y with
    | nil => simp [Op.bytesLess] at h1
    | cons b y =>
      cases z with
      | nil => simp [Op.bytesLess] at h2
      | cons c z =>
        simp only [Op.bytesLess, Bool.or_eq_true, decide_eq_true_eq, Bool.and_eq_true, beq_iff_eq] at h1 h2 ⊢
        rcases h1 with h1 | ⟨rfl, h1⟩ <;> rcases h2 with h2 | ⟨rfl, h2⟩
        · exact .inl (UInt8.lt_trans h1 h2)
        · exact .inl h1
        · exact .inl h2
        · exact .inr ⟨rfl, ih _ _ h1 h2⟩
theorem bl_total : ∀ x y : List UInt8, Op.bytesLess x y = true ∨ x = y ∨ Op.bytesLess y x = true := by
  intro x
  induction x with
  | nil => intro y; cases y <;> simp [Op.bytesLess]
  | cons a x ih =>
    intro y
    cases y with
    | nil => simp [Op.bytesLess]
    | cons b y =>
      simp only [Op.bytesLess, Bool.or_eq_true, decide_eq_true_eq, Bool.and_eq_true, beq_iff_eq, List.cons.injEq]
      have h3 : a < b ∨ a = b ∨ b < a := by
        rcases Nat.lt_trichotomy a.toNat b.toNat with h | h | h
        · exact .inl (UInt8.lt_iff_toNat_lt.2 h)
        · exact .inr (.inl (UInt8.toNat_inj.1 h))
        · exact .inr (.inr (UInt8.lt_iff_toNat_lt.2 h))
      rcases h3 with h | rfl | h
      · exact .inl (.inl h)
      · rcases ih y with h | rfl | h
        · exact .inl (.inr ⟨rfl, h⟩)
        · exact .inr (.inl ⟨rfl, rfl⟩)
        · exact .inr (.inr (.inr ⟨rfl, h⟩))
      · exact .inr (.inr (.inl h))
theorem bl_asym {x y : List UInt8} (h : Op.bytesLess x y = true) : Op.bytesLess y x = false := by
  cases h2 : Op.bytesLess y x with
  | false => rfl
  | true => have := bl_trans _ _ _ h h2; rw [bl_irrefl] at this; cases this
end SX
namespace SX
open Go
theorem strEq_iff {a b : ByteArray} : strEq a b = true ↔ a = b := by
  unfold strEq
  rw [beq_iff_eq, Lib.toList_data, Lib.toList_data]
  constructor
  · intro h; cases a; cases b; congr 1; exact Array.toList_inj.1 h
  · rintro rfl; rfl
theorem strEq_refl (a : ByteArray) : strEq a a = true := strEq_iff.2 rfl
theorem strEq_false {a b : ByteArray} : strEq a b = false ↔ a ≠ b := by rw [← Bool.not_eq_true, strEq_iff]
theorem strLt_irrefl (a : ByteArray) : strLt a a = false := bl_irrefl _
theorem strLt_asym {a b : ByteArray} (h : strLt a b = true) : strLt b a = false := bl_asym h
theorem strLt_total (a b : ByteArray) : strLt a b = true ∨ a = b ∨ strLt b a = true := by
  rcases bl_total a.toList b.toList with h | h | h
  · exact .inl h
  · refine .inr (.inl (strEq_iff.1 ?_)); unfold strEq; rw [h]; exact beq_self_eq_true _
  · exact .inr (.inr h)
/-! ## entries -/
abbrev En : Type := ByteArray × Int
abbrev enc1 (e : En) : List Value := [.string e.1, .int .u32 e.2]
abbrev ens (l : List En) : List Value := l.flatMap enc1
theorem ens_one (l : List En) : (ens l).all Value.oneCell' = true := by
  rw [List.all_eq_true]
  intro v hv
  obtain ⟨e, _, he⟩ := List.mem_flatMap.1 hv
  simp only [enc1, List.mem_cons, List.not_mem_nil, or_false] at he
  rcases he with rfl | rfl <;> rfl
theorem enc1_len (e : En) : (enc1 e).length = 2 := rfl
end SX
namespace SX
open Go
/-- a text of these bytes -/
abbrev str (l : List UInt8) : ByteArray := ⟨l.toArray⟩
theorem str_len (l : List UInt8) : (str l).size = l.length := rfl
theorem str_inj {a b : List UInt8} (h : str a = str b) : a = b := by
  have := congrArg (fun s : ByteArray => s.data.toList) h
  exact this
theorem str_extract (l : List UInt8) (a b : Nat) : (str l).extract a b = str ((l.drop a).take (b - a)) := by
  apply ByteArray.ext
  rw [ByteArray.data_extract]
  apply Array.ext'
  rw [Array.toList_extract]
theorem strl_app (a b : List UInt8) : str a ++ str b = str (a ++ b) := by
  apply ByteArray.ext
  rw [ByteArray.data_append]
  simp
/-- the number of bytes, the greatest first -/
def valB (l : List UInt8) : Nat := l.foldl (fun v b => v * 256 + b.toNat) 0
theorem valB_snoc (l : List UInt8) (b : UInt8) : valB (l ++ [b]) = valB l * 256 + b.toNat := by
  unfold valB
  rw [List.foldl_append]; rfl
theorem valB_lt (l : List UInt8) : valB l < 256 ^ l.length := by
  have key : ∀ (n : Nat) (l : List UInt8), l.length = n → valB l < 256 ^ n := fun n => by
    induction n with
    | zero => intro l h; rw [List.eq_nil_of_length_eq_zero h]; decide
    | succ n ih =>
      intro l h
      rcases List.eq_nil_or_concat l with rfl | ⟨l', b, rfl⟩
      · cases h
      · rw [List.concat_eq_append] at h ⊢
        rw [List.length_append, List.length_singleton] at h
        rw [valB_snoc, Nat.pow_succ]
        have := ih l' (by omega)
        have := b.toNat_lt
        omega
  exact key _ l rfl
/-- a number as k bytes, the greatest first -/
def numB (k n : Nat) : List UInt8 := bigW (BitVec.ofNat 64 n) k
theorem numB_len (k n : Nat) : (numB k n).length = k := bigW_len _ _
/-- a reader: where it stands, and its first error -/
abbrev RS := Nat × Int
def rawR (s : List UInt8) (n : Nat) (r : RS) : RS := if r.2 ≠ 0 then r else if s.length < r.1 + n then (r.1, 2) else (r.1 + n, 0)
def rawV (s : List UInt8) (n : Nat) (r : RS) : List UInt8 := if r.2 ≠ 0 ∨ s.length < r.1 + n then [] else (s.drop r.1).take n
theorem rawR_le {s : List UInt8} {n : Nat} {r : RS} (h : r.1 ≤ s.length) : (rawR s n r).1 ≤ s.length := by
  unfold rawR
  split
  · exact h
  · split
    · exact h
    · show r.1 + n ≤ _; omega
theorem rawV_len (s : List UInt8) (n : Nat) (r : RS) : (rawV s n r).length ≤ n := by
  unfold rawV
  split
  · exact Nat.zero_le _
  · rw [List.length_take]; exact Nat.min_le_left _ _
def endE (s : List UInt8) (r : RS) : Int := if r.2 ≠ 0 then r.2 else if r.1 < s.length then 3 else 0
section
variable {P : Program} {env : Env}
theorem pu_strmid {t : TypeId} [h : TStr P t] {x y z : Operand} {l : List UInt8} {k1 k2 : IntKind} {lo hi : Int} (a b : Nat) (hx : evalE env x = some (.string (str l))) (hy : evalE env y = some (.int k1 lo)) (hz : evalE env z = some (.int k2 hi)) (h1 : lo = (a : Int)) (h2 : hi = (b : Int)) (hab : a ≤ b) (hc : b ≤ l.length) :
    Pu P env (.slice t x (some y) (some z) none) (.string (str ((l.drop a).take (b - a)))) := fun ρ hρ _ _ _ _ _ w => by
  have q1 := run_slice_string (P := P) w t (str l) k1 k2 lo hi h.und (by omega) (by omega) (by rw [str_len]; omega)
  have q2 : (Instr.sliceAt t (.string (str l)) (some (.int k1 lo)) (some (.int k2 hi)) none).run P w = (Instr.slice t (.string (str l)) (some (.int k1 lo)) (some (.int k2 hi)) none).run P w := by
    simp [Instr.sliceAt, run_underlying h.und]
  rw [q1] at q2
  have q3 : lo.toNat = a := by omega
  have q4 : hi.toNat = b := by omega
  rw [q3, q4, str_extract] at q2
  simp [execOp, hρ x _ hx, hρ y _ hy, hρ z _ hz, q2]
theorem pu_strhi {t : TypeId} [h : TStr P t] {x y : Operand} {l : List UInt8} {ki : IntKind} {hi : Int} (k : Nat) (hx : evalE env x = some (.string (str l))) (hy : evalE env y = some (.int ki hi)) (hk : hi = (k : Int)) (hc : k ≤ l.length) :
    Pu P env (.slice t x none (some y) none) (.string (str (l.take k))) := by
  have := pu_str_hi (P := P) (t := t) k hx hy hk hc
  rwa [str_extract, List.drop_zero, Nat.sub_zero] at this
theorem pu_strlo {t : TypeId} [h : TStr P t] {x y : Operand} {l : List UInt8} {ki : IntKind} {lo : Int} (k : Nat) (hx : evalE env x = some (.string (str l))) (hy : evalE env y = some (.int ki lo)) (hk : lo = (k : Int)) (hc : k ≤ l.length) :
    Pu P env (.slice t x (some y) none none) (.string (str (l.drop k))) := by
  have := pu_str_lo (P := P) (t := t) k hx hy hk hc
  rwa [str_extract, str_len, List.take_of_length_le (by rw [List.length_drop]; exact Nat.le_refl _)] at this
theorem pu_strln {t : TypeId} [h : TStr P t] {x : Operand} {l : List UInt8} (hx : evalE env x = some (.string (str l))) : Pu P env (.call { callee := .builtin .len, args := #[x], argTypes := #[t] }) (.int .i64 (l.length : Nat)) := pu_strlen hx
theorem pu_strcat {t u : TypeId} {x y : Operand} {a b : List UInt8} (hx : evalE env x = some (.string (str a))) (hy : evalE env y = some (.string (str b))) (hs : a.length + b.length ≤ 9223372036854775807) : Pu P env (.binOp .add t x y u) (.string (str (a ++ b))) := by
  have := pu_str_add (P := P) (t := t) (u := u) hx hy (by rw [str_len, str_len]; exact hs)
  rwa [strl_app] at this
theorem pu_shl8 {t u : TypeId} {x y : Operand} {ky : IntKind} {v : Nat} (hx : evalE env x = some (.int .u64 (v : Nat))) (hy : evalE env y = some (.int ky ((8 : Nat) : Int))) (hv : v * 256 < 18446744073709551616) : Pu P env (.binOp .shl t x y u) (.int .u64 ((v * 256 : Nat) : Int)) := by
  have e : (BitVec.ofNat 64 v).toNat = v := by rw [BitVec.toNat_ofNat]; exact Nat.mod_eq_of_lt (by omega)
  have := pu_shl_w (P := P) (t := t) (u := u) (ky := ky) (a := BitVec.ofNat 64 v) 8 (by rw [e]; exact hx) hy (by decide)
  have e64 : (2 : Nat) ^ 64 = 18446744073709551616 := by decide
  have e8 : (2 : Nat) ^ 8 = 256 := by decide
  rw [BitVec.toNat_shiftLeft, e, Nat.shiftLeft_eq, e8, Nat.mod_eq_of_lt (by rw [e64]; exact hv)] at this
  exact this
theorem or_mul (v b : Nat) (hb : b < 256) : (v * 256) ||| b = v * 256 + b := by
  have e3 := Nat.shiftLeft_add_eq_or_of_lt (i := 8) hb v
  have e8 : (2 : Nat) ^ 8 = 256 := by decide
  rw [Nat.shiftLeft_eq, e8] at e3
  exact e3.symm
theorem pu_or8 {t u : TypeId} {x y : Operand} {v b m : Nat} (hx : evalE env x = some (.int .u64 (m : Nat))) (hy : evalE env y = some (.int .u64 (b : Nat))) (hm : m = v * 256) (hb : b < 256) (hv : m + b < 18446744073709551616) : Pu P env (.binOp .or t x y u) (.int .u64 ((m + b : Nat) : Int)) := by
  have e1 : (BitVec.ofNat 64 m).toNat = m := by rw [BitVec.toNat_ofNat]; exact Nat.mod_eq_of_lt (by omega)
  have e2 : (BitVec.ofNat 64 b).toNat = b := by rw [BitVec.toNat_ofNat]; exact Nat.mod_eq_of_lt (by omega)
  have e3 : m ||| b = m + b := by rw [hm]; exact or_mul v b hb
  have := pu_or_w (P := P) (t := t) (u := u) (a := BitVec.ofNat 64 m) (b := BitVec.ofNat 64 b) (by rw [e1]; exact hx) (by rw [e2]; exact hy)
  rwa [BitVec.toNat_or, e1, e2, e3] at this
end
end SX
namespace SX
open Go Go.RowKit Go.WideShapes Go.ChangeShapes

section
variable {H0 : Type} {enc : TypeId × Value → H0} {P : Program}
theorem stays_all (hl : laidOutB P = true) {W W' : World} (hb : Below W.heap.size W W') {sp : Nat → Bool} : ∀ {ts : List TypeId} {vs : List Value} {ds : List (DataW H0)} {ps : List MemPlace},
    (ts.all fun t => P.readableRec t && decide (t < P.types.size)) = true → DataW.TrodAll enc P W 0 (fun _ => true) true ts vs ds ps → (∀ x ∈ ps, x.block < W.heap.size) → (∀ x ∈ ps, sp x.block = true) → DataW.TrodAll enc P W' 0 sp true ts vs ds ps
  | [], [], [], _, _, h, _, _ => h
  | t :: ts, _ :: _, _ :: _, _, hT, ⟨p, q, h1, h2, e⟩, hlt, hs => by
    simp only [List.all_cons, Bool.and_eq_true, decide_eq_true_eq] at hT
    obtain ⟨⟨r1, r2⟩, r3⟩ := hT
    refine ⟨p, q, WideElems.Trod_stays hl r1 r2 h1 (fun x hx => hb.same (hlt x (by rw [e]; exact List.mem_append_left _ hx))) (fun x hx => hs x (by rw [e]; exact List.mem_append_left _ hx)), ?_, e⟩
    exact stays_all hl hb (by simpa using r3) h2 (fun x hx => hlt x (by rw [e]; exact List.mem_append_right _ hx)) (fun x hx => hs x (by rw [e]; exact List.mem_append_right _ hx))

/-- true, and the arguments as they were -/
theorem law_post {f : Func} {s : ChangeSpec} {apart fresh handsOn again : Bool} {tb : TypeId} {W W' : World} {args : Array Value} {ds : List (DataW H0)} {before : List MemPlace}
    (hl : laidOutB P = true) (hpar : (f.params.toList.all fun t => P.readableRec t && decide (t < P.types.size)) = true) (hv : s.vars = []) (hrt : f.resultTypes = #[tb]) (htb : P.underlying tb = some .bool)
    (hW : DataW.Whole enc P f.params.toList s.vars apart W args.toList ds [] before) (hb : Below W.heap.size W W')
    (hfn : s.fn H0 (ds ++ []) = { results := [.lit (.bool true)], args := ds }) : s.post enc P f apart fresh handsOn again W args (.bool true) W' := by
  have hW' := hW
  obtain ⟨p, q, hA, hV, hpq, hfz, hnd⟩ := hW
  rw [hv] at hV
  obtain ⟨_, rfl⟩ := trodVars_none hV
  have lt : ∀ x ∈ p, x.block < W.heap.size := fun x hx => hW'.lt x (by rw [hpq]; exact List.mem_append_left _ hx)
  refine post_old (pa := p) (pv := []) hb hpq hW' (fun b sp hd => ?_) (fun sp hsp => ?_) (fun sp hsp => ?_) (ok_one hrt rfl (okWide_bool_mk htb true))
  · rw [hfn, hrt]; exact trodAll_cons_mk (shut_bool htb _) trodAll_mk0
  · rw [hfn]; exact stays_all hl hb hpar hA lt (fun x hx => hsp x (by rw [hpq]; exact List.mem_append_left _ hx))
  · rw [hfn, hv]; rfl
end

/-! ### How arguments read -/
def icsk (k : IntKind) (n : Int) : List Value := [.int k n]
theorem icsk_len (k : IntKind) (n : Int) : (icsk k n).length = 1 := rfl
theorem spot_of_cell {w : World} {a : Addr} {v : Value} (h : w.cell? a = some v) : a = ⟨a.block, a.off, none⟩ ∧ CellAt (fun b => w.heap[b]?) a.block a.off v := by
  obtain ⟨b, o, s⟩ := a
  unfold World.cell? at h
  simp only at h
  split at h
  · rename_i cs t fr hh
    cases s with
    | none => exact ⟨rfl, cs, t, fr, hh, by simpa using h⟩
    | some s => simp at h
  · cases h
section
variable {H0 : Type} {enc : TypeId × Value → H0} {P : Program} {W : World} {base : Nat}
end
end SX
namespace SX
open Go Go.RowKit Go.WideShapes Go.ChangeShapes Go.Deep

section
variable {H0 : Type} {enc : TypeId × Value → H0} {P : Program} {W : World}
/-- the cells of a slice, element by element -/
theorem trod_slice {α : Type} [Inhabited α] {f : α → List Value} {n : Nat} (hn : 0 < n) (hf : ∀ a, (f a).length = n) (R : α → DataW H0 → Prop) {t e : TypeId} (ht : P.underlying t = some (.slice e)) (hc : P.cellsOf e = n)
    (hel : ∀ fuel cs D Pl, DataW.trod enc P W 0 (fun _ => true) true fuel e cs = some (D, Pl) → ∃ a, cs = f a ∧ R a D)
    {fuel : Nat} {cs : List Value} {d : DataW H0} {ps : List MemPlace} (h : DataW.trod enc P W 0 (fun _ => true) true fuel t cs = some (d, ps)) :
    ∃ (v : Value) (xs : List α), cs = [v] ∧ Row (fun b => W.heap[b]?) v n xs.length (xs.flatMap f) ∧ ((d = .nil ∧ xs = []) ∨ ∃ (Ds sp : List (DataW H0)), d = .slice Ds sp ∧ Ds.length = xs.length ∧ ∀ (i : Nat) (a : α) (D : DataW H0), xs[i]? = some a → Ds[i]? = some D → R a D) := by
  rcases open_slice ht h with ⟨rfl, hx⟩ | ⟨a, len, cap, m, n', D, Pl, rfl, _, hl, hm, hmm, hx, hall⟩
  · cases hx
    exact ⟨_, [], rfl, Row.nil _ _, .inl ⟨rfl, rfl⟩⟩
  simp only [if_true] at hmm
  subst hmm
  cases hx
  obtain ⟨A, hA⟩ := choose_lt (α := α) (n := m) (p := fun i x => W.cells? 0 (a.add (i * P.cellsOf e)) (P.cellsOf e) = some (f x) ∧ R x (D i)) (fun i hi => by
    obtain ⟨cs', h1, h2⟩ := hall i hi
    obtain ⟨a', rfl, hR⟩ := hel _ _ _ _ h2
    exact ⟨a', h1, hR⟩)
  have hlen : ((List.range len).map A).length = len := by simp
  have hcell : ∀ i j v, i < m → (f (A i))[j]? = some v → W.cell? (a.add (i * n + j)) = some v := by
    intro i j v hi hv
    obtain ⟨h2, _⟩ := hA i hi
    obtain ⟨_, _, h3⟩ := World.cells?_some h2
    have hj : j < (f (A i)).length := (List.getElem?_eq_some_iff.1 hv).1
    rw [hf] at hj
    have := h3 j (by rw [hc]; exact hj)
    rw [hc] at this
    have e : (a.add (i * n)).add j = a.add (i * n + j) := by
      obtain ⟨b, o, s⟩ := a
      unfold Addr.add
      split <;> split <;> simp_all [Nat.add_assoc]
    rw [e] at this
    rw [this]; exact hv
  refine ⟨_, (List.range len).map A, rfl, ?_, .inr ⟨_, _, rfl, by simp, fun i a' D' hi hD => ?_⟩⟩
  · rw [hlen]
    refine ⟨by rw [flat_length hf, hlen], some a, m, rfl, hl, hm, fun h => (by cases h), fun hpos => ?_⟩
    obtain ⟨v0, hv0⟩ : ∃ v, (f (A 0))[0]? = some v := ⟨_, List.getElem?_eq_getElem (by rw [hf]; exact hn)⟩
    have h0 := hcell 0 0 v0 (by omega) hv0
    rw [Nat.zero_mul, Nat.zero_add, show a.add 0 = a by simp [Addr.add]] at h0
    have ha := (spot_of_cell h0).1
    refine ⟨a.block, a.off, by rw [← ha], fun j u hj => ?_⟩
    have hj2 : j < len * n := by
      have := (List.getElem?_eq_some_iff.1 hj).1
      rwa [flat_length hf, hlen] at this
    have hq : j / n < len := Nat.div_lt_of_lt_mul (by rw [Nat.mul_comm]; exact hj2)
    have hr : j % n < n := Nat.mod_lt _ hn
    have hg : ((List.range len).map A)[j / n]? = some (A (j / n)) := by rw [List.getElem?_map, List.getElem?_range hq]; rfl
    obtain ⟨v, hv⟩ : ∃ v, (f (A (j / n)))[j % n]? = some v := ⟨_, List.getElem?_eq_getElem (by rw [hf]; exact hr)⟩
    have hu := flat_get hf _ [] (j / n) _ hg (j % n) v hv
    rw [List.append_nil, Nat.div_add_mod'] at hu
    rw [hu] at hj
    cases hj
    have hc2 := (spot_of_cell (hcell (j / n) (j % n) _ (by omega) hv)).2
    rw [addr_block, addr_off, Nat.div_add_mod'] at hc2
    exact hc2
  · have hi' : i < len := by
      have := (List.getElem?_eq_some_iff.1 hi).1
      simpa using this
    simp [hi'] at hi hD
    subst hi hD
    exact (hA i (by omega)).2

theorem wf_u32 {x : Int} (h : (Lit.int .u32 x).wf = true) : 0 ≤ x ∧ x ≤ 4294967295 := by
  simp only [Lit.wf, Bool.and_eq_true, decide_eq_true_eq] at h
  exact h
/-- a slice of slices of integers -/
def gcs (a : Value × List Int) : List Value := [a.1]
instance : Inhabited (Value × List Int) := ⟨(.bool false, [])⟩
end
end SX
namespace SX
open Go
theorem Row.sl {μ : PH} {v : Value} {n l : Nat} {xs : List Value} (h : Row μ v n l xs) : ∃ A cap, v = .slice A l cap := by
  obtain ⟨_, A, cap, e, _⟩ := h; exact ⟨A, cap, e⟩
/-- a graph: its rows, and what each row reads as -/
def Graph (μ : PH) (v : Value) (G : List (Value × List Int)) : Prop := Row μ v 1 G.length (G.flatMap gcs) ∧ ∀ x ∈ G, Row μ x.1 1 x.2.length (x.2.flatMap (icsk .i64))
theorem Graph.le {μ μ' : PH} {v : Value} {G : List (Value × List Int)} (h : Graph μ v G) (k : Le μ μ') : Graph μ' v G := ⟨h.1.le k, fun x hx => (h.2 x hx).le k⟩
theorem Row.small {μ : PH} {v : Value} {n l : Nat} {xs : List Value} (h : Row μ v n l xs) : l ≤ 9223372036854775807 := by
  obtain ⟨_, _, _, _, h1, h2, _⟩ := h; simp only [maxLen] at h2; omega
/-- the graph's numbers -/
abbrev nums (G : List (Value × List Int)) : List (List Int) := G.map (·.2)
def rowOf (g : List (List Int)) (c : Nat) : List Int := g.getD c []
/-- parents come first -/
def Good (g : List (List Int)) : Prop := ∀ (c : Nat) (l : List Int), g[c]? = some l → ∀ p ∈ l, 0 ≤ p ∧ p < c
def stepDn (g : List (List Int)) (c : Nat) (S : Nat → Bool) : Nat → Bool := fun j => S j || (decide (j = c) && (rowOf g c).any fun p => S p.toNat)
/-- d rows from c on -/
def dnF (g : List (List Int)) (S : Nat → Bool) (c : Nat) : Nat → (Nat → Bool)
  | 0 => S
  | d + 1 => stepDn g (c + d) (dnF g S c d)
def dn (g : List (List Int)) (a : Nat) : Nat → Bool := dnF g (fun j => decide (j = a)) (a + 1) (g.length - (a + 1))
/-- by definition: itself, or by a parent -/
inductive Reach (g : List (List Int)) : Nat → Nat → Prop
  | refl (a : Nat) : Reach g a a
  | step {a p j : Nat} (h : (p : Int) ∈ rowOf g a) (k : Reach g p j) : Reach g a j
theorem row_good {g : List (List Int)} (hg : Good g) {a : Nat} {p : Int} (h : p ∈ rowOf g a) : 0 ≤ p ∧ p < a ∧ a < g.length := by
  unfold rowOf at h
  rw [List.getD_eq_getElem?_getD] at h
  cases hc : g[a]? with
  | none => rw [hc] at h; cases h
  | some l => rw [hc] at h; exact ⟨(hg a l hc p h).1, (hg a l hc p h).2, (List.getElem?_eq_some_iff.1 hc).1⟩
theorem Reach.le {g : List (List Int)} (hg : Good g) {a j : Nat} (h : Reach g a j) : j ≤ a := by
  induction h with
  | refl => exact Nat.le_refl _
  | step h _ ih => have := row_good hg h; omega
theorem Reach.trans {g : List (List Int)} {a b c : Nat} (h : Reach g a b) (k : Reach g b c) : Reach g a c := by
  induction h with
  | refl => exact k
  | step h _ ih => exact .step h (ih k)
theorem Reach.last {g : List (List Int)} {a j : Nat} (h : Reach g a j) : a = j ∨ ∃ z, Reach g a z ∧ (j : Int) ∈ rowOf g z := by
  induction h with
  | refl => exact .inl rfl
  | @step a p j h _ ih =>
    right
    rcases ih with rfl | ⟨z, h1, h2⟩
    · exact ⟨a, .refl _, h⟩
    · exact ⟨z, .step h h1, h2⟩
theorem Reach.lt {g : List (List Int)} (hg : Good g) {a j : Nat} (h : Reach g a j) (hne : a ≠ j) : j < a ∧ a < g.length := by
  cases h with
  | refl => exact absurd rfl hne
  | step h k => have := row_good hg h; have := k.le hg; omega
section
variable {P : Program} {tI : TypeId} [TOne P tI]
theorem Split.all : ∀ {L : List Assn}, Split L L []
  | [] => .nil
  | _ :: _ => .cons .here Split.all
theorem Split.skip {A : Assn} {L K R : List Assn} (h : Split L K R) : Split (A :: L) K (A :: R) := by
  induction h with
  | nil => exact .nil
  | cons h _ ih => exact .cons (.there h) ih
/-- a slice of integers may be read -/
def Ints (P : Program) (tI : TypeId) (L : List Assn) (v : Value) (xs : List Int) : Prop := ∃ A cap, v = .slice A xs.length cap ∧ xs.length ≤ 9223372036854775807 ∧ (0 < xs.length → ∃ b off, A = some ⟨b, off, none⟩ ∧ ∀ (j : Nat) (x : Int), xs[j]? = some x → Ld P L tI ⟨b, off + j, none⟩ (.int .i64 x))
theorem Ints.row {μ : PH} {v : Value} {xs : List Int} {L : List Assn} [InR L μ] (h : Row μ v 1 xs.length (xs.flatMap (icsk .i64))) : Ints P tI L v xs := by
  obtain ⟨A, cap, hv⟩ := h.sl
  refine ⟨A, cap, hv, h.small, fun h0 => ?_⟩
  obtain ⟨b, off, cap', hv', c1, c2, hr⟩ := h.pos h0
  subst hv
  injection hv' with e1 _ _
  exact ⟨b, off, e1, fun j x hx => by
    have := (hr.elem (icsk_len .i64) hx).cell
    rw [Nat.mul_one] at this
    exact ld_ro this⟩
def Shape (v : Value) (l : Nat) : Prop := (v = .slice none 0 0 ∧ l = 0) ∨ ∃ b cap, v = .slice (some ⟨b, 0, none⟩) l cap ∧ l ≤ cap ∧ cap ≤ maxLen
theorem own_shape {e n : Nat} {v : Value} {l : Nat} {xs : List Value} {L L' : List Assn} (ht : Take (own e n v l xs) L L') {m : PH} (h : Sat L m) : Shape v l := by
  have h := Sat.perm ht.perm _ h
  rcases own_open h with ⟨rfl, rfl, _⟩ | ⟨b, cap, ex, rfl, h1, h2, _⟩
  · exact .inl ⟨rfl, rfl⟩
  · exact .inr ⟨b, cap, rfl, h1, h2⟩
theorem H.take {A : Assn} {E : Ctx} {w : World} {L L' : List Assn} (h : H E w L) (t : Take A L L') : H E w (A :: L') := h.ent (Ent.perm t.perm)
end
section
variable {P : Program} {tG : TypeId}
theorem icsk_one (xs : List Int) : (xs.flatMap (icsk .i64)).all Value.oneCell' = true := by
  rw [List.all_flatMap]; simp [icsk, Value.oneCell']
end
theorem row_of_blk {μ : PH} {b t n l : Nat} {cs : List Value} (h : μ b = some (.cells cs.toArray t (0, 0))) (hl : cs.length = l * n) (hm : l ≤ maxLen) : Row μ (.slice (some ⟨b, 0, none⟩) l l) n l cs :=
  ⟨hl, _, _, rfl, Nat.le_refl _, hm, fun h => (by cases h), fun _ => ⟨b, 0, rfl, fun j u hj => ⟨cs.toArray, t, (0, 0), h, by rw [Nat.zero_add]; simpa using hj⟩⟩⟩
theorem Row.at_ {μ : PH} {v : Value} {xs : List Int} (h : Row μ v 1 xs.length (xs.flatMap (icsk .i64))) {i : Nat} {x : Int} (hi : xs[i]? = some x) : ∃ b off cap, v = .slice (some ⟨b, off, none⟩) xs.length cap ∧ CellAt μ b (off + i * 1) (.int .i64 x) := by
  have hl := (List.getElem?_eq_some_iff.1 hi).1
  obtain ⟨b, off, cap, hv, _, _, hr⟩ := h.pos (by omega)
  exact ⟨b, off, cap, hv, (hr.elem (icsk_len .i64) hi).cell⟩
theorem own_empty {e n b : Nat} {L : List Assn} : Ent (blk b e [] :: L) (own e n (.slice (some ⟨b, 0, none⟩) 0 0) 0 [] :: L) :=
  own_close (e := e) (n := n) (b := b) (l := 0) (cap := 0) (xs := []) (ex := []) (by simp) (by simp) (Nat.le_refl _) (Nat.zero_le _) (L := L)
end SX
namespace SX
open Go Go.MapKept
open Go.ChangeMaps (setBlock)
section
variable {κ : Type} [DecidableEq κ]
def del : Ents κ → κ → Ents κ
  | [], _ => []
  | x :: l, a => if x.1 = a then l else x :: del l a
theorem del_none (a : κ) : ∀ {l : Ents κ}, mlook l a = none → del l a = l
  | [], _ => rfl
  | x :: l, h => by
    unfold mlook at h
    unfold del
    by_cases e : x.1 = a
    · rw [if_pos e] at h; cases h
    · rw [if_neg e] at h
      rw [if_neg e, del_none a h]
theorem del_at {kv : κ → Value} (a : κ) : ∀ (l : Ents κ) (j : Nat), place l a = some j → (del l a).map (mke kv) = (l.map (mke kv)).eraseIdx j
  | [], j, h => by cases h
  | x :: l, j, h => by
    unfold place at h
    unfold del
    by_cases e : x.1 = a
    · rw [if_pos e] at h
      obtain rfl := Option.some.inj h
      rw [if_pos e]; simp
    · rw [if_neg e] at h
      obtain ⟨j', h1, rfl⟩ := Option.map_eq_some_iff.1 h
      rw [if_neg e]
      simp [del_at a l j' h1]
theorem del_mem {a : κ} {x : κ × Value × Nat} : ∀ {l : Ents κ}, x ∈ del l a → x ∈ l
  | y :: l, h => by
    unfold del at h
    by_cases e : y.1 = a
    · rw [if_pos e] at h; exact .tail _ h
    · rw [if_neg e] at h
      rcases List.mem_cons.1 h with rfl | h
      · exact .head _
      · exact .tail _ (del_mem h)
theorem del_sub (a : κ) : ∀ (l : Ents κ), (del l a).Sublist l
  | [] => .slnil
  | y :: l => by
    unfold del
    by_cases e : y.1 = a
    · rw [if_pos e]; exact .cons _ (.refl _)
    · rw [if_neg e]; exact .cons_cons _ (del_sub a l)
/-- the stamps: each below the clock, no two alike -/
def Born (l : Ents κ) (c : Nat) : Prop := (∀ x ∈ l, x.2.2 < c) ∧ (l.map (·.2.2)).Nodup
omit [DecidableEq κ] in
theorem Born.nil (c : Nat) : Born ([] : Ents κ) c := ⟨(fun _ h => by cases h), List.nodup_nil⟩
theorem Born.del {l : Ents κ} {c : Nat} (h : Born l c) (a : κ) : Born (del l a) c :=
  ⟨fun x hx => h.1 x (del_mem hx), h.2.sublist ((del_sub a l).map _)⟩
theorem upd_borns (a : κ) (c : Nat) (v : Value) : ∀ (l : Ents κ), (upd l c a v).map (·.2.2) = l.map (·.2.2) ++ (if (mlook l a).isSome then [] else [c])
  | [] => rfl
  | x :: l => by
    unfold upd mlook
    by_cases e : x.1 = a
    · simp [e]
    · simp [e, upd_borns a c v l]
theorem Born.upd {l : Ents κ} {c : Nat} (h : Born l c) (a : κ) (v : Value) : Born (upd l c a v) (updC l c a) := by
  have hb := upd_borns a c v l
  unfold updC
  by_cases hs : (mlook l a).isSome = true
  · rw [if_pos hs, List.append_nil] at hb
    rw [if_pos hs]
    refine ⟨fun x hx => ?_, by rw [hb]; exact h.2⟩
    have : x.2.2 ∈ l.map (·.2.2) := by rw [← hb]; exact List.mem_map.2 ⟨x, hx, rfl⟩
    obtain ⟨y, hy, e⟩ := List.mem_map.1 this
    rw [← e]; exact h.1 y hy
  · rw [if_neg hs] at hb
    rw [if_neg hs]
    refine ⟨fun x hx => ?_, ?_⟩
    · have : x.2.2 ∈ l.map (·.2.2) ++ [c] := by rw [← hb]; exact List.mem_map.2 ⟨x, hx, rfl⟩
      rcases List.mem_append.1 this with k | k
      · obtain ⟨y, hy, e⟩ := List.mem_map.1 k
        rw [← e]; have := h.1 y hy; omega
      · rw [List.mem_singleton.1 k]; omega
    · rw [hb, List.nodup_append]
      refine ⟨h.2, by simp, fun x hx y hy e => ?_⟩
      rw [List.mem_singleton.1 hy] at e
      obtain ⟨z, hz, e2⟩ := List.mem_map.1 hx
      have := h.1 z hz
      omega
variable {P : Program} {env : Env} {L : List Assn}
theorem ef_delete {t kt et b c : Nat} {kv : κ → Value} {l : Ents κ} {R : List Assn} [hm : TMap P t kt et] [hk : TKey P kt kv] {m x : Operand} {ts : TypeId} (a : κ) (hx : evalE env m = some (.map (some b))) (hy : evalE env x = some (kv a)) (hL : Split L [mpe b kv l c] R) :
    Ef P env L (.call { callee := .builtin .delete, args := #[m, x], argTypes := #[t, ts] }) (fun k => k (.tuple #[]) (mpe b kv (del l a) c :: R)) := by
  intro ro dst tt pos af g N E a' w next Q k hf hh hk' hn
  have h2 := hh.ent hL.ent
  have hob := h2.one_get .here
  obtain ⟨d, hd, hik, hs⟩ := hk.ok
  have hck : ∀ e, (Instr.checkKey e 10000 kt (kv a)).run P w = .ok () w := fun e => run_checkKey (P := P) (w := w) hd (hik a) e 9999
  have hrun : (Builtin.delete_ #[t, ts] tt #[.map (some b), kv a]).run P w = .ok (.tuple #[]) { w with heap := w.heap.setIfInBounds b (.map ((del l a).map (mke kv)).toArray c) } := by
    rcases find_place hs a l 0 with ⟨h1, h2, _⟩ | ⟨j, v, h1, h2, h3, h4, _⟩
    · have hfk := run_findKey (P := P) (w := w) (l := l.map (mke kv)) hd h2
      rw [del_none a h1]
      simp [Builtin.delete_, run_underlying hm.und, run_getObj_map hob, hck, hfk, run_setObj_map _ hob, Result.andThen]
    · have hfk := run_findKey (P := P) (w := w) (l := l.map (mke kv)) hd h2
      have e := del_at (kv := kv) a l j h3
      simp only [Nat.zero_add] at hfk
      simp [Builtin.delete_, run_underlying hm.und, run_getObj_map hob, hck, hfk, run_setObj_map _ hob, Result.andThen, e, Array.eraseIdxIfInBounds, h4]
  have hlt : b < w.heap.size := (Array.getElem?_eq_some_iff.1 hob).1
  have hb : (execOp a'.eval ⟨dst, .call { callee := .builtin .delete, args := #[m, x], argTypes := #[t, ts] }, tt, pos, af, g⟩).run P w = .ok (.value (.tuple #[])) { w with heap := w.heap.setIfInBounds b (.map ((del l a).map (mke kv)).toArray c) } := by
    simp [execOp, resolve, invoke, builtin, hf.ev m _ hx, hf.ev x _ hy, hrun]
  refine wpIn_value hb (hn _ _ _ hk' (h2.upd (b := b) .here _ rfl rfl rfl (by simp) ?_ ?_))
  · simp [hlt]
  · intro k hne
    simp [Ne.symm hne]
omit [DecidableEq κ] in
theorem rd_maplen {t kt et b c : Nat} {kv : κ → Value} {l : Ents κ} [hm : TMap P t kt et] {m : Operand} [hb : InM b L kv l c] (hx : evalE env m = some (.map (some b))) : Rd P env L (.call { callee := .builtin .len, args := #[m], argTypes := #[t] }) (.int .i64 l.length) := by
  intro ρ hρ dst ty pos af g E w hh
  obtain ⟨R, ht⟩ := hb.ok
  have hob := hh.one_get ht
  simp [execOp, resolve, invoke, builtin, hρ m _ hx, Builtin.len_, run_underlying hm.und, run_getObj_map hob, goInt, Result.andThen]
/-- an iterator over a map -/
def itA (r m since : Nat) (seen : List Nat) (last : Nat) : Assn := one r (.mapIter (some m) since seen.toArray last)
omit [DecidableEq κ] in
theorem ef_range {t kt et b c : Nat} {kv : κ → Value} {l : Ents κ} [hm : TMap P t kt et] {m : Operand} [hb : InM b L kv l c] (hx : evalE env m = some (.map (some b))) :
    Ef P env L (.range t m) (fun k => ∀ r, k (.pointer (some ⟨r, 0, none⟩)) (itA r b c [] c :: L)) := by
  intro ro dst tt pos af g N E a w next Q k hf hh hk hn
  obtain ⟨R, ht⟩ := hb.ok
  have hob := hh.one_get ht
  have hr := run_range_map (P := P) w t kt et b _ c hm.und hob
  refine wpIn_value (v := .pointer (some ⟨w.heap.size, 0, none⟩)) (w' := w.alloc (.mapIter (some b) c #[] c)) (by simp [execOp, hf.ev m _ hx, hr]) (hn _ _ _ (hk _) (hh.alloc _))
omit [DecidableEq κ] in
/-- the next entry: none, when all have come; or any that hasn't -/
theorem ef_next {r b c since last : Nat} {kv : κ → Value} {l : Ents κ} {seen : List Nat} {R : List Assn} {m : Operand} (hx : evalE env m = some (.pointer (some ⟨r, 0, none⟩))) (hL : Split L [itA r b since seen last, mpe b kv l c] R)
    (hold : ∀ x ∈ l, x.2.2 < since) (hsc : since ≤ last) :
    Ef P env L (.next m false) (fun k => ((∀ x ∈ l, x.2.2 ∈ seen) → k (.tuple #[.bool false]) (itA r b since seen last :: mpe b kv l c :: R)) ∧ ∀ x ∈ l, x.2.2 ∉ seen → k (.tuple #[.bool true, kv x.1, x.2.1]) (itA r b since (seen ++ [x.2.2]) c :: mpe b kv l c :: R)) := by
  intro ro dst tt pos af g N E a w next Q k hf hh hk hn
  have h2 := hh.ent hL.ent
  have hr := h2.one_get .here
  have hb := h2.one_get (.there .here)
  rcases run_next_at (P := P) w tt r b since last seen.toArray (l.map (mke kv)).toArray c hr hb (fun x hx => by
      obtain ⟨y, hy, rfl⟩ := List.mem_map.1 (show x ∈ l.map (mke kv) by simpa using hx)
      exact hold y hy) hsc with ⟨h0, hrun⟩ | ⟨e, he, w1, hal, hrun⟩
  · refine wpIn_value (v := .tuple #[.bool false]) (w' := w) (by simp [execOp, hf.ev m _ hx, hrun]) (hn _ _ _ (hk.1 fun x hx => ?_) h2)
    have hz : leftOf (l.map (mke kv)).toArray seen.toArray = #[] := Array.eq_empty_of_size_eq_zero h0
    unfold leftOf at hz
    rw [Array.filter_eq_empty_iff] at hz
    have := hz (mke kv x) (by simp; exact ⟨x.1, x.2.1, x.2.2, hx, rfl⟩)
    simpa [mke] using this
  · obtain ⟨he1, he2⟩ := mem_left he
    obtain ⟨x, hxl, rfl⟩ := List.mem_map.1 (show e ∈ l.map (mke kv) by simpa using he1)
    have hns : x.2.2 ∉ seen := by simpa [mke] using he2
    have h3 : H E w1 (itA r b since seen last :: mpe b kv l c :: R) := by
      rcases hal with rfl | rfl
      · exact h2
      · exact h2.drew
    have hlt : r < w1.heap.size := (Array.getElem?_eq_some_iff.1 (h3.one_get .here)).1
    refine wpIn_value (v := .tuple #[.bool true, kv x.1, x.2.1]) (w' := setBlock w1 r (.mapIter (some b) since (seen.toArray.push x.2.2) c)) (by simp [execOp, hf.ev m _ hx, hrun, mke]) (hn _ _ _ (hk.2 x hxl hns) ?_)
    refine h3.upd (b := r) .here _ rfl rfl rfl (by simp [setBlock]) ?_ ?_
    · simp [setBlock, hlt]
    · intro k hne
      simp [setBlock, Ne.symm hne]
/-- how far a range is: done, and what is to come, are all there are -/
def Going (l dn td : Ents κ) : Prop := (dn ++ td).Perm l
omit [DecidableEq κ] in
theorem Going.start (l : Ents κ) : Going l [] l := .refl _
omit [DecidableEq κ] in
theorem Going.stop {l dn td : Ents κ} {c : Nat} (h : Going l dn td) (hb : Born l c) (hs : ∀ x ∈ l, x.2.2 ∈ dn.map (·.2.2)) : td = [] := by
  cases td with
  | nil => rfl
  | cons x td =>
    exfalso
    have hn : ((dn ++ x :: td).map (·.2.2)).Nodup := (h.map _).nodup_iff.2 hb.2
    rw [List.map_append, List.nodup_append] at hn
    exact hn.2.2 _ (hs x (h.mem_iff.1 (List.mem_append_right _ (.head _)))) _ (List.mem_map.2 ⟨x, .head _, rfl⟩) rfl
omit [DecidableEq κ] in
theorem Going.step {l dn td : Ents κ} (h : Going l dn td) {x : κ × Value × Nat} (hx : x ∈ l) (hs : x.2.2 ∉ dn.map (·.2.2)) : ∃ td', Going l (dn ++ [x]) td' ∧ td.length = td'.length + 1 := by
  have hm : x ∈ dn ++ td := h.mem_iff.2 hx
  rcases List.mem_append.1 hm with k | k
  · exact absurd (List.mem_map.2 ⟨x, k, rfl⟩) hs
  · obtain ⟨s, t, rfl⟩ := List.append_of_mem k
    refine ⟨s ++ t, ?_, by simp; omega⟩
    refine List.Perm.trans ?_ h
    rw [List.append_assoc]
    exact List.Perm.append_left _ (show ([x] ++ (s ++ t)).Perm _ from (List.perm_middle (a := x) (l₁ := s) (l₂ := t)).symm)
omit [DecidableEq κ] in
/-- key and value of the entry that came last -/
theorem rd_entry {r b c since : Nat} {kv : κ → Value} {l : Ents κ} {seen : List Nat} {x : κ × Value × Nat} {R : List Assn} {m : Operand} (hx : evalE env m = some (.pointer (some ⟨r, 0, none⟩))) (hL : Split L [itA r b since (seen ++ [x.2.2]) c, mpe b kv l c] R)
    (hm : x ∈ l) (hb : Born l c) : Rd P env L (.entry m) (.tuple #[kv x.1, x.2.1]) := by
  intro ρ hρ dst ty pos af g E w hh
  have h2 := hh.ent hL.ent
  have hr := h2.one_get .here
  have hbb := h2.one_get (.there .here)
  rw [show (seen ++ [x.2.2]).toArray = seen.toArray.push (mke kv x).born by simp [mke]] at hr
  have := run_entry_at (P := P) w r b since seen.toArray (l.map (mke kv)).toArray c (mke kv x) hr hbb (by simp; exact ⟨x.1, x.2.1, x.2.2, hm, rfl⟩) (by
    have e : ((l.map (mke kv)).toArray.toList.map (·.born)) = l.map (·.2.2) := by simp [mke, Function.comp_def]
    rw [e]; exact hb.2)
  simp [execOp, hρ m _ hx, this, mke]
theorem mlook_del {l : Ents κ} (hn : (l.map (·.1)).Nodup) (a x : κ) : mlook (del l a) x = if a = x then none else mlook l x := by
  induction l with
  | nil => simp [del, mlook]
  | cons y l ih =>
    rw [List.map_cons, List.nodup_cons] at hn
    unfold del
    by_cases h : y.1 = a
    · rw [if_pos h]
      by_cases hx : a = x
      · rw [if_pos hx]
        have hno : ∀ {l : Ents κ}, x ∉ l.map (·.1) → mlook l x = none := fun {l} => by
          induction l with
          | nil => intro _; rfl
          | cons z l ih =>
            intro hz
            rw [List.map_cons, List.mem_cons, not_or] at hz
            unfold mlook
            rw [if_neg (fun e => hz.1 e.symm)]; exact ih hz.2
        exact hno (by rw [← hx, ← h]; exact hn.1)
      · rw [if_neg hx]
        show _ = (if y.1 = x then some y.2.1 else mlook l x)
        rw [h, if_neg hx]
    · rw [if_neg h]
      show (if y.1 = x then some y.2.1 else mlook (del l a) x) = _
      rw [ih hn.2]
      show _ = (if a = x then none else (if y.1 = x then some y.2.1 else mlook l x))
      by_cases hx : a = x
      · subst hx; rw [if_neg h, if_pos rfl, if_pos rfl]
      · rw [if_neg hx, if_neg hx]
theorem del_keys {l : Ents κ} (hn : (l.map (·.1)).Nodup) (a : κ) : ((del l a).map (·.1)).Nodup := hn.sublist ((del_sub a l).map _)
theorem upd_keys {l : Ents κ} (hn : (l.map (·.1)).Nodup) (c : Nat) (a : κ) (v : Value) : ((upd l c a v).map (·.1)).Nodup := by
  have key : ∀ l : Ents κ, (upd l c a v).map (·.1) = if a ∈ l.map (·.1) then l.map (·.1) else l.map (·.1) ++ [a] := fun l => by
    induction l with
    | nil => simp [upd]
    | cons y l ih =>
      unfold upd
      by_cases h : y.1 = a
      · rw [if_pos h]; simp [h]
      · rw [if_neg h, List.map_cons, ih]
        by_cases k : a ∈ l.map (·.1)
        · simp [k]
        · have h' : ¬ a = y.1 := fun e => h e.symm
          simp [k, h']
  rw [key]
  split
  · exact hn
  · next k =>
    rw [List.nodup_append]
    exact ⟨hn, by simp, fun x hx y hy e => by rw [List.mem_singleton.1 hy] at e; rw [e] at hx; exact k hx⟩
theorem mlook_mem {l : Ents κ} {a : κ} {v : Value} (h : mlook l a = some v) : (a, v) ∈ l.map fun x => (x.1, x.2.1) := by
  induction l with
  | nil => cases h
  | cons y l ih =>
    unfold mlook at h
    by_cases e : y.1 = a
    · rw [if_pos e] at h
      rw [← e, ← Option.some.inj h]; exact .head _
    · rw [if_neg e] at h; exact .tail _ (ih h)
theorem mlook_of {l : Ents κ} (hn : (l.map (·.1)).Nodup) {x : κ × Value × Nat} (h : x ∈ l) : mlook l x.1 = some x.2.1 := by
  induction l with
  | nil => cases h
  | cons y l ih =>
    rw [List.map_cons, List.nodup_cons] at hn
    unfold mlook
    rcases List.mem_cons.1 h with rfl | h
    · rw [if_pos rfl]
    · rw [if_neg (fun e => hn.1 (by rw [e]; exact List.mem_map.2 ⟨x, h, rfl⟩))]
      exact ih hn.2 h
end
end SX
namespace SX
open Go Go.MapKept Go.Lib
section
variable {P : Program} {env : Env}
theorem strCells_bcs (s : ByteArray) : strCells s = bcs s.data.toList := by rw [bcs_map]; rfl
theorem append_string_at {w : World} {t u ty e : TypeId} {i : TypeInfo} (ht : P.underlying t = some (.slice e)) (hu : P.underlying u = some .string) (hi : P.info? e = some i) (hz : i.zero = some (.int .u8 0)) (hsize : i.size = 1) (hby : i.bytes = 1)
    {v : Value} {n : Nat} {xs : List Value} (hown : w.ownsRow 0 e 1 v n xs) (s : ByteArray) (h : n + s.size ≤ 140737488355328) :
    ∃ v' w', (Builtin.append_ #[t, u] ty #[v, .string s]).run P w = .ok v' w' ∧ w'.ownsRow 0 e 1 v' (n + s.size) (xs ++ strCells s) ∧ w.grownBy w' v.ownBlock ∧ (v'.ownBlock = v.ownBlock ∨ v'.ownBlock = some w.heap.size) := by
  have h63 : n + s.size ≤ maxLen := by unfold maxLen; omega
  obtain ⟨v', w', hr, h2, h3, h4⟩ := run_append_own_string (P := P) w 0 t u ty e i ht hu hi hz hsize hby v n xs hown s h63 h (Nat.zero_le _)
  refine ⟨v', w', hr, h2, h3, ?_⟩
  rcases hown.2 with ⟨rfl, rfl⟩ | ⟨g, cap, cur, rfl, _, hg, hnc, hcm, hcs, htake⟩
  · -- nil: whatever comes lies in a new block
    obtain ⟨v2, w2, hr2, k2, k3, k4⟩ := run_append_own_string (P := P) w w.heap.size t u ty e i ht hu hi hz hsize hby (.slice none 0 0) 0 xs ⟨hown.1, .inl ⟨rfl, rfl⟩⟩ s h63 h (Nat.le_refl _)
    rw [hr2] at hr
    obtain ⟨rfl, rfl⟩ := Result.ok.inj hr
    by_cases hm : s.size = 0
    · rw [h4.2 ⟨rfl, hm⟩]; exact .inl rfl
    · right
      have hn := run_append_nil_string (P := P) w t u ty e i (.int .u8 0) ht hu hi hz s (by omega) (by omega) (by rw [hby]; omega)
      rw [hn] at hr2
      obtain ⟨rfl, _⟩ := Result.ok.inj hr2
      rfl
  · by_cases hroom : n + s.size ≤ cap
    · have hcs' : cur.size = cap := by simpa using hcs
      have := run_append_room_string (P := P) w t u ty e i ht hu hi hsize g n cap cur hg s hroom (by omega)
      rw [this] at hr
      obtain ⟨rfl, _⟩ := Result.ok.inj hr
      exact .inl rfl
    · have hxl : xs.length = n := by simpa using hown.1
      have holds : ∀ j u, xs[j]? = some u → w.cell? ((⟨g, 0, none⟩ : Addr).add j) = some u := hown.cells (g := g) rfl
      have := run_append_grow_string (P := P) w t u ty e i (.int .u8 0) ht hu hi hz ⟨g, 0, none⟩ n cap xs (by rw [hsize]; simpa using hxl) holds s (by omega) (by omega) (by rw [hby]; exact growslice_fits (by omega) (by omega))
      rw [this] at hr
      obtain ⟨rfl, _⟩ := Result.ok.inj hr
      exact .inr rfl
theorem H.append_str {E : Ctx} {w : World} {L : List Assn} {t u e : TypeId} (ht : TSl P t e 1 1) (hu : TStr P u) (hz : TZv P e (.int .u8 0))
    {v : Value} {l : Nat} {xs : List Value} (h : H E w (own e 1 v l xs :: L)) (s : ByteArray) (hl : l + s.size ≤ 140737488355328) (ty : TypeId) :
    ∃ v' w', (Builtin.append_ #[t, u] ty #[v, .string s]).run P w = .ok v' w' ∧ H E w' (own e 1 v' (l + s.size) (xs ++ bcs s.data.toList) :: L) := by
  obtain ⟨i, hut, hi, hin, hib⟩ := ht.ok
  have hzz : i.zero = some (.int .u8 0) := by have := hz.ok; rw [hi] at this; exact this
  obtain ⟨e1, e2, e3, e4, h5⟩ := h
  obtain ⟨m1, m2, ho, hL, hd, s1, s2⟩ := Sat.perm (perm_out (X := E.X) (.refl _)) _ h5
  have hown : w.ownsRow 0 e 1 v l xs := by
    refine ⟨ho.1, ?_⟩
    rcases ho.2 with hnil | ⟨g, cap, cur, hv, hg, r⟩
    · exact .inl hnil
    · exact .inr ⟨g, cap, cur, hv, Nat.zero_le _, s1 _ _ hg, r⟩
  obtain ⟨v', w', hrun, hown', hg, hat⟩ := append_string_at (P := P) (w := w) (ty := ty) hut hu.und hi hzz hin hib hown s hl
  rw [strCells_bcs] at hown'
  have hlt2 : ∀ k o, m2 k = some o → k < w.heap.size := fun k o hk => (Array.getElem?_eq_some_iff.1 (s2 k o hk)).1
  have hvm : ∀ k, v.ownBlock = some k → m2 k = none := fun k hk => by
    rcases ho.2 with ⟨rfl, _⟩ | ⟨g0, cap, cur, rfl, hgm, _⟩
    · simp [Value.ownBlock] at hk
    · simp [Value.ownBlock] at hk
      subst hk
      exact (hd g0).resolve_left (by rw [hgm]; simp)
  have hm2 : ∀ k o, m2 k = some o → w'.heap[k]? = some o := fun k o hk => by
    rw [hg.block k (hlt2 k o hk) (fun he => by rw [hvm k he.symm] at hk; cases hk)]
    exact s2 k o hk
  refine ⟨v', w', hrun, ⟨hg.os.trans e1, hg.output.trans e2, hg.tape.trans e3, Nat.le_trans e4 hg.size, Sat.perm (perm_out (X := E.X) (.refl _)).symm _ ⟨fun k => if v'.ownBlock = some k then w'.heap[k]? else none, m2, ?_, hL, ?_, ?_, hm2⟩⟩⟩
  · refine ⟨hown'.1, ?_⟩
    rcases hown'.2 with hnil | ⟨g, cap, cur, rfl, _, hgg, r⟩
    · exact .inl hnil
    · exact .inr ⟨g, cap, cur, rfl, by simpa [Value.ownBlock] using hgg, r⟩
  · intro k
    by_cases hk : v'.ownBlock = some k
    · right
      rcases hat with he | he
      · exact hvm k (he ▸ hk)
      · rw [he] at hk
        cases hm : m2 k with
        | none => rfl
        | some o => have := hlt2 k o hm; simp at hk; omega
    · left; simp [hk]
  · intro k o hk
    by_cases hk' : v'.ownBlock = some k
    · simpa [hk'] using hk
    · simp [hk'] at hk
/-- append of a text's bytes -/
theorem ef_append_str {L : List Assn} {t u e : TypeId} [ht : TSl P t e 1 1] [hu : TStr P u] [hz : TZv P e (.int .u8 0)] {x y : Operand} {v : Value} {l : Nat} {xs : List Value} {R : List Assn} {s : ByteArray}
    (hx : evalE env x = some v) (hy : evalE env y = some (.string s)) (hL : Split L [own e 1 v l xs] R) (hl : l + s.size ≤ 140737488355328) :
    Ef P env L (.call { callee := .builtin .append, args := #[x, y], argTypes := #[t, u] }) (fun k => ∀ A c, k (.slice A (l + s.size) c) (own e 1 (.slice A (l + s.size) c) (l + s.size) (xs ++ bcs s.data.toList) :: R)) := by
  intro ro dst tt pos af g N E a w next Q k hf hh hk hn
  have h2 := hh.ent hL.ent
  obtain ⟨v', w', hrun, h'⟩ := H.append_str (P := P) (L := R) ht hu hz h2 s hl tt
  obtain ⟨A, c, rfl⟩ : ∃ A c, v' = .slice A (l + s.size) c := by
    obtain ⟨m1, _, ⟨_, ho⟩, _⟩ := h'.sat
    rcases ho with ⟨rfl, h0⟩ | ⟨g, cap, cur, rfl, _⟩
    · exact ⟨none, 0, by rw [h0]⟩
    · exact ⟨_, _, rfl⟩
  exact wpIn_value (run_builtin_append (v := .slice A (l + s.size) c) (w' := w') (by rw [hf.ev x _ hx, hf.ev y _ hy]; exact hrun)) <| hn _ _ _ (hk A c) h'
/-- string(b), b nil or of the call's own -/
theorem rd_bytes_own {L L' : List Assn} {s t e : Nat} [ht : TStr P t] [hs : TSl P s e 1 1] [he : TInt P e .u8] {x : Operand} {v : Value} (l : List UInt8) (hx : evalE env x = some v) (hb : Take (own e 1 v l.length (bcs l)) L L') :
    Rd P env L (.convert s t x) (.string ⟨l.toArray⟩) := by
  intro ρ hρ dst ty pos af g' E w hh
  obtain ⟨m1, m2, ⟨_, ho⟩, _, _, s1, _⟩ := (hh.ent (Ent.perm hb.perm)).sat
  rcases ho with ⟨rfl, h0⟩ | ⟨g, cap, cur, rfl, hg, _, _, _, htk⟩
  · have hl : l = [] := List.eq_nil_of_length_eq_zero h0
    subst hl
    have hr := run_convert_nil_bytes (P := P) w s t e 0 hs.und he.und ht.und
    simp only [execOp, hρ x _ hx, hr, Sem.run_bind, Sem.run_pure, Result.andThen_ok]
  · have h1 : w.heap[g]? = some (.cells cur e (0, 0)) := s1 _ _ hg
    have hr := run_convert_bytes_back (P := P) w s t e ⟨g, 0, none⟩ cap l hs.und he.und ht.und (fun j hj => by
      rw [addr_add, cell_of_row w g (0 + j) _ e (0, 0) h1]
      have h2 : (cur.toList.take (l.length * 1))[j]? = (bcs l)[j]? := by rw [htk]
      rw [List.getElem?_take, if_pos (by omega), bcs_map, List.getElem?_map, List.getElem?_eq_getElem hj] at h2
      rw [Nat.zero_add, ← Array.getElem?_toList, h2]; rfl)
    simp only [execOp, hρ x _ hx, hr, Sem.run_bind, Sem.run_pure, Result.andThen_ok]
theorem eqGuard_map {t : TypeId} {a : Option Nat} {v : Value} : ∀ op X Y w, (eqGuard op t X Y (.map a) v).run P w = .ok () w := fun op X Y w => by
  cases op <;> rfl
theorem pu_map_eq_nil {t k e u : TypeId} [h : TMap P t k e] {x y : Operand} {a : Option Nat} (hx : evalE env x = some (.map a)) (hy : evalE env y = some (.map none)) : Pu P env (.binOp .eql t x y u) (.bool a.isNone) :=
  pu_eq_of hx hy eqGuard_map rfl fun d w => by cases a <;> simp [Op.equalIn, run_underlying h.und]
theorem pu_typeAssert_map {t xt k e : TypeId} [h : TMap P t k e] {x : Operand} {v : Value} (hx : evalE env x = some (.iface t v)) : Pu P env (.typeAssert x xt t false) v := fun ρ hρ _ _ _ _ _ w => by
  have e2 : (Instr.typeAssert (.iface t v) xt t false).run P w = .ok v w := by simp [Instr.typeAssert, run_underlying h.und, go_sem, Result.andThen]
  simp [execOp, hρ x _ hx, e2]
/-- the model's own maps.clone -/
class MClone (P : Program) (f : FuncId) : Prop where
  ok : ∃ fn, P.funcs[f]? = some fn ∧ (fn.name == "runtime.NumGoroutine") = false ∧ fn.body.isNone = true ∧ Extern.findNext fn = none ∧ Extern.find fn = some Extern.MapsClone.clone
theorem ef_mclone {κ : Type} {L : List Assn} {f : FuncId} [hb : MClone P f] {fo x : Operand} {ats : Array TypeId} {t : TypeId} {b c : Nat} {kv : κ → Value} {l : Ents κ} [hm : InM b L kv l c] (hfo : evalE env fo = some (.func (.func f) #[] #[])) (hx : evalE env x = some (.iface t (.map (some b)))) :
    Ef P env L (.call { callee := .value fo, args := #[x], argTypes := ats }) (fun k => ∀ r, k (.iface t (.map (some r))) (mpe r kv l c :: L)) := by
  intro ro dst tt pos af g N E a w next Q k hf hh hk hn
  obtain ⟨R, htk⟩ := hm.ok
  have hob := hh.one_get htk
  obtain ⟨fn, h1, h2, h3, h4, h5⟩ := hb.ok
  have hr : (Extern.MapsClone.clone #[.iface t (.map (some b))]).run P w = .ok (.iface t (.map (some w.heap.size))) (w.alloc (.map (l.map (mke kv)).toArray c)) := by
    show (getObj b >>= fun o => match o with
      | .map entries clock => (newObj (.map entries clock) >>= fun n => pure (Value.iface t (.map (some n))))
      | _ => stuck "maps.clone: a map expected" : Sem Value).run P w = _
    simp [run_getObj_map hob, Result.andThen, go_sem]
  have hc := run_callFunc_extern (P := P) h1 h2 h3 h4 h5 #[.iface t (.map (some b))] w
  rw [hr] at hc
  exact wpIn_value (v := .iface t (.map (some w.heap.size))) (w' := w.alloc (.map (l.map (mke kv)).toArray c)) (by
    simp [execOp, resolve, hf.ev fo _ hfo, Deferred.ofValue, invoke, hf.ev x _ hx, hc, Result.andThen]) (hn _ _ _ (hk _) (hh.alloc _))
end
end SX
namespace SX
open Go
end SX
namespace SX
open Go
/-- with how many bytes two texts begin alike -/
def lcp : List UInt8 → List UInt8 → Nat
  | a :: as1, b :: bs1 => if a = b then lcp as1 bs1 + 1 else 0
  | _, _ => 0
theorem lcp_at : ∀ {i : Nat} {a b : List UInt8}, i ≤ a.length → i ≤ b.length → a.take i = b.take i → (i = a.length ∨ i = b.length ∨ a[i]? ≠ b[i]?) → lcp a b = i
  | 0, [], b, _, _, _, _ => by unfold lcp; rfl
  | 0, a :: as1, [], _, _, _, _ => by unfold lcp; rfl
  | 0, a :: as1, b :: bs1, _, _, _, h => by
    unfold lcp
    rcases h with h | h | h
    · cases h
    · cases h
    · rw [if_neg (fun e => h (by simp [e]))]
  | i + 1, [], b, h, _, _, _ => by cases h
  | i + 1, a :: as1, [], _, h, _, _ => by cases h
  | i + 1, a :: as1, b :: bs1, h1, h2, h3, h4 => by
    rw [List.take_succ_cons, List.take_succ_cons] at h3
    obtain ⟨h5, h6⟩ := List.cons.inj h3
    unfold lcp
    rw [if_pos h5, lcp_at (i := i) (by simpa using h1) (by simpa using h2) h6 (by simpa using h4)]
theorem lcp_right : ∀ (a b : List UInt8), lcp a b ≤ b.length
  | [], b => by unfold lcp; exact Nat.zero_le _
  | a :: as1, [] => by unfold lcp; exact Nat.le_refl _
  | a :: as1, b :: bs1 => by
    unfold lcp
    have := lcp_right as1 bs1
    split
    · rw [List.length_cons]; omega
    · exact Nat.zero_le _
/-- an entry's path as bytes -/
abbrev bts (e : En) : List UInt8 := e.1.data.toList
def encE1 (last : List UInt8) (e : En) : List UInt8 := numB 1 (lcp last (bts e)) ++ numB 1 ((bts e).length - lcp last (bts e)) ++ (bts e).drop (lcp last (bts e)) ++ numB 4 e.2.toNat
def encEs : List UInt8 → List En → List UInt8
  | _, [] => []
  | last, e :: t => encE1 last e ++ encEs (bts e) t
/-- a tree's bytes -/
def encT (t : List En) : List UInt8 := numB 2 t.length ++ encEs [] t
/-- the path ahead of entry i -/
def lastT (t : List En) : Nat → List UInt8
  | 0 => []
  | i + 1 => match t[i]? with | some e => bts e | none => []
theorem encEs_snoc : ∀ (last : List UInt8) (t : List En) (e : En), encEs last (t ++ [e]) = encEs last t ++ encE1 (match t.getLast? with | some x => bts x | none => last) e
  | last, [], e => by simp [encEs]
  | last, x :: t, e => by
    have e1 : (match (x :: t).getLast? with | some y => bts y | none => last) = (match t.getLast? with | some y => bts y | none => bts x) := by
      cases t with
      | nil => rfl
      | cons y t => rw [List.getLast?_cons_cons, List.getLast?_cons]
    rw [List.cons_append, encEs, encEs, encEs_snoc (bts x) t e, e1, List.append_assoc]
theorem lastT_take {t : List En} {i : Nat} (hi : i ≤ t.length) : (match (t.take i).getLast? with | some x => bts x | none => []) = lastT t i := by
  cases i with
  | zero => rfl
  | succ i =>
    have hlt : i < t.length := by omega
    rw [List.getLast?_take, if_neg (by omega)]
    show (match t[i + 1 - 1]?.or t.getLast? with | some x => bts x | none => []) = _
    rw [Nat.add_sub_cancel, List.getElem?_eq_getElem hlt]
    show _ = (match t[i]? with | some e => bts e | none => [])
    rw [List.getElem?_eq_getElem hlt]; rfl
theorem encEs_succ {t : List En} {i : Nat} {e : En} (h : t[i]? = some e) : encEs [] (t.take (i + 1)) = encEs [] (t.take i) ++ encE1 (lastT t i) e := by
  have hlt := (List.getElem?_eq_some_iff.1 h).1
  rw [List.take_add_one, h]
  show encEs [] (t.take i ++ [e]) = _
  rw [encEs_snoc, lastT_take (by omega)]
theorem lastT_succ {t : List En} {i : Nat} {e : En} (h : t[i]? = some e) : lastT t (i + 1) = bts e := by
  show (match t[i]? with | some e => bts e | none => []) = _
  rw [h]
/-- an entry, read from where the reader stands -/
def entP (s : List UInt8) (first : Bool) (last : List UInt8) (pos : Nat) : Option ((List UInt8 × Nat) × Nat) :=
  if s.length < pos + 2 then none else
  if last.length < valB ((s.drop pos).take 1) then none else
  if s.length < pos + 2 + valB ((s.drop (pos + 1)).take 1) then none else
  if 255 < (last.take (valB ((s.drop pos).take 1)) ++ (s.drop (pos + 2)).take (valB ((s.drop (pos + 1)).take 1))).length ∨
     lcp last (last.take (valB ((s.drop pos).take 1)) ++ (s.drop (pos + 2)).take (valB ((s.drop (pos + 1)).take 1))) ≠ valB ((s.drop pos).take 1) ∨
     (first = false ∧ strLt (str last) (str (last.take (valB ((s.drop pos).take 1)) ++ (s.drop (pos + 2)).take (valB ((s.drop (pos + 1)).take 1)))) = false) then none else
  if s.length < pos + 2 + valB ((s.drop (pos + 1)).take 1) + 4 then none else
  if valB ((s.drop (pos + 2 + valB ((s.drop (pos + 1)).take 1))).take 4) = 0 then none else
  some ((last.take (valB ((s.drop pos).take 1)) ++ (s.drop (pos + 2)).take (valB ((s.drop (pos + 1)).take 1)), valB ((s.drop (pos + 2 + valB ((s.drop (pos + 1)).take 1))).take 4)), pos + 2 + valB ((s.drop (pos + 1)).take 1) + 4)
def enOf (x : List UInt8 × Nat) : En := (str x.1, (x.2 : Int))
def decL (s : List UInt8) : Nat → Bool → List UInt8 → Nat → Option (List En × Nat)
  | 0, _, _, pos => some ([], pos)
  | n + 1, first, last, pos => match entP s first last pos with
    | none => none
    | some (x, pos') => match decL s n false x.1 pos' with
      | none => none
      | some (l, q) => some (enOf x :: l, q)
/-- the tree of bytes -/
def decT (s : List UInt8) : Option (List En) :=
  if s.length < 2 then none else if 1024 < valB (s.take 2) then none else
  match decL s (valB (s.take 2)) true [] 2 with
  | none => none
  | some (l, pos) => if pos = s.length then some l else none
theorem entP_pos {s : List UInt8} {first : Bool} {last : List UInt8} {pos : Nat} {x : List UInt8 × Nat} {q : Nat} (h : entP s first last pos = some (x, q)) : q ≤ s.length ∧ pos < q ∧ x.1.length ≤ 255 ∧ 0 < x.2 ∧ x.2 < 4294967296 := by
  unfold entP at h
  split at h
  · cases h
  split at h
  · cases h
  split at h
  · cases h
  split at h
  · cases h
  rename_i hc
  split at h
  · cases h
  split at h
  · cases h
  rename_i hz
  cases h
  refine ⟨by omega, by omega, ?_, by omega, ?_⟩
  · exact Nat.le_of_not_lt fun k => hc (.inl k)
  · have h1 := valB_lt ((s.drop (pos + 2 + valB ((s.drop (pos + 1)).take 1))).take 4)
    have h2 : 256 ^ ((s.drop (pos + 2 + valB ((s.drop (pos + 1)).take 1))).take 4).length ≤ 256 ^ 4 := Nat.pow_le_pow_right (by decide) (by rw [List.length_take]; exact Nat.min_le_left _ _)
    have h3 : 256 ^ 4 = 4294967296 := by decide
    omega
end SX
namespace SX
open Go
theorem encE1_len (last : List UInt8) (e : En) (h : (bts e).length ≤ 255) : (encE1 last e).length ≤ 261 := by
  unfold encE1
  have := lcp_right last (bts e)
  simp only [List.length_append, numB_len, List.length_drop]
  omega
theorem encEs_len : ∀ (last : List UInt8) (t : List En), (∀ e ∈ t, (bts e).length ≤ 255) → (encEs last t).length ≤ 261 * t.length
  | _, [], _ => Nat.zero_le _
  | last, e :: t, h => by
    have h1 := encE1_len last e (h e List.mem_cons_self)
    have h2 := encEs_len (bts e) t fun x hx => h x (List.mem_cons_of_mem _ hx)
    rw [encEs, List.length_append, List.length_cons]
    omega
theorem lastT_len {t : List En} {i : Nat} (h : ∀ e ∈ t, (bts e).length ≤ 255) : (lastT t i).length ≤ 255 := by
  cases i with
  | zero => exact Nat.zero_le _
  | succ i =>
    show (match t[i]? with | some e => bts e | none => []).length ≤ 255
    cases hi : t[i]? with
    | none => exact Nat.zero_le _
    | some e => exact h e (List.mem_of_getElem? hi)
end SX
namespace SX
open Go

/-! what a row's check says -/
/-! sorted lists -/
/-! the numbers of a whole graph -/
end SX
namespace SX
open Go Go.Sort
theorem H.grow {E : Ctx} {w : World} {L : List Assn} (h : H E w L) (os : Array Obj) : H E (Go.Sort.grow w os) L := by
  obtain ⟨h1, h2, h3, h4, h5⟩ := h
  refine ⟨h1, h2, h3, by simp only [Go.Sort.grow, Array.size_append]; omega, h5.mono fun b o hb => ?_⟩
  have hlt : b < w.heap.size := (Array.getElem?_eq_some_iff.1 hb).1
  show (w.heap ++ os)[b]? = some o
  rw [Array.getElem?_append_left hlt]; exact hb
section
variable {α : Type} [Inhabited α] {enc : α → Value}
theorem putCells_front (d : List α) (zs ex : List Value) (hl : zs.length = d.length) : putCells enc 0 d.toArray (zs ++ ex).toArray = (d.map enc ++ ex).toArray := by
  apply Array.ext_getElem?
  intro k
  unfold putCells
  rw [Array.getElem?_mapIdx]
  simp only [List.getElem?_toArray, List.size_toArray, Nat.zero_add, Nat.sub_zero, Nat.zero_le, true_and]
  by_cases hk : k < d.length
  · rw [List.getElem?_append_left (by omega), List.getElem?_append_left (by rw [List.length_map]; exact hk), List.getElem?_map, List.getElem?_eq_getElem hk, List.getElem?_eq_getElem (by omega)]
    simp [hk]
  · rw [List.getElem?_append_right (by omega), List.getElem?_append_right (by rw [List.length_map]; omega), List.length_map, hl]
    cases ex[k - d.length]? <;> simp [hk]
theorem H.sorted {E : Ctx} {w : World} {L : List Assn} {b e n : Nat} {d d' : List α} {ex : List Value} {os : Array Obj} (h : H E w (blk b e (d.map enc ++ ex) :: L)) (hl : d'.length = d.length) :
    H E (Go.Sort.grow (putRow enc (Go.Sort.ahead w n) b 0 d'.toArray) os) (blk b e (d'.map enc ++ ex) :: L) := by
  refine H.grow ?_ os
  have hb := h.one_get .here
  refine H.upd (o' := .cells (d'.map enc ++ ex).toArray e (0, 0)) h .here _ rfl rfl rfl ?_ ?_ ?_
  · simp [putRow, mapBlock, Go.Sort.ahead]
  · show ((Go.Sort.ahead w n).heap.modify b (onCells (putCells enc 0 d'.toArray)))[b]? = _
    rw [Array.getElem?_modify]
    have : (Go.Sort.ahead w n).heap[b]? = some (.cells (d.map enc ++ ex).toArray e (0, 0)) := hb
    rw [if_pos rfl, this]
    show some (Obj.cells (putCells enc 0 d'.toArray (d.map enc ++ ex).toArray) e (0, 0)) = _
    rw [putCells_front d' (d.map enc) ex (by rw [List.length_map]; exact hl.symm)]
  · intro k hk
    show ((Go.Sort.ahead w n).heap.modify b _)[k]? = _
    rw [Array.getElem?_modify, if_neg (fun e => hk e.symm)]
    rfl
end
theorem icsk_map (xs : List Int) : xs.flatMap (icsk .i64) = xs.map (Value.int .i64) := by
  induction xs with
  | nil => rfl
  | cons a l ih => rw [List.flatMap_cons, List.map_cons, ih]; rfl
end SX
namespace SX
open Go Go.Proofs Go.Sort Go.RowKit
/-! ## the paths, plainly -/
end SX
namespace SX
open Go
/-- a number of 32 bits -/
def U32 (n : Int) : Prop := 0 ≤ n ∧ n ≤ 4294967295
theorem U32.bv {n : Int} (h : U32 n) : n = ((BitVec.ofInt 32 n).toNat : Int) := by
  obtain ⟨h1, h2⟩ := h
  rw [BitVec.toNat_ofInt]
  omega
def U32s (l : List En) : Prop := ∀ e ∈ l, U32 e.2
/-! ## the document's -/
end SX
namespace SX
open Go
/-- the first value that isn't 0 -/
def firstNZ (f : Nat → Int) (n : Nat) : Int := ((List.range n).map f).find? (· ≠ 0) |>.getD 0
theorem firstNZ_at {f : Nat → Int} {n i : Nat} (hi : i < n) (h1 : ∀ j < i, f j = 0) (h2 : f i ≠ 0) : firstNZ f n = f i := by
  unfold firstNZ
  have : ((List.range n).map f).find? (· ≠ 0) = some (f i) := by
    rw [List.find?_eq_some_iff_getElem]
    refine ⟨by simpa using h2, i, by simpa using hi, by simp, fun j hj => ?_⟩
    simp [h1 j hj]
  rw [this]; rfl
theorem firstNZ_ok {f : Nat → Int} {n : Nat} (h1 : ∀ j < n, f j = 0) : firstNZ f n = 0 := by
  unfold firstNZ
  have : ((List.range n).map f).find? (· ≠ 0) = none := by
    rw [List.find?_eq_none]
    intro x hx
    obtain ⟨j, hj, rfl⟩ := List.mem_map.1 hx
    simp [h1 j (List.mem_range.1 hj)]
  rw [this]; rfl
theorem firstNZ_zero {f : Nat → Int} {n : Nat} (h : firstNZ f n = 0) : ∀ j < n, f j = 0 := by
  intro j hj
  induction j using Nat.strongRecOn with
  | _ j ih =>
    by_cases h0 : f j = 0
    · exact h0
    · exact absurd ((firstNZ_at hj (fun k hk => ih k hk (by omega)) h0).symm.trans h) h0
/-- a number of an object -/
def inO (n : Int) : Bool := decide (0 ≤ n) && decide (n < 65536)
theorem inO_iff {n : Int} : inO n = true ↔ 0 ≤ n ∧ n < 65536 := by unfold inO; simp
/-- a commit: its parents and its tree -/
abbrev Cm : Type := List Int × Int
def wrongP (ps : List Int) (i : Nat) : Int := match ps[i]? with
  | none => 0
  | some p => if inO p = false then 1 else if (ps.take i).contains p then 11 else 0
def checkC (c : Cm) : Int := if 16 < c.1.length then 5 else if inO c.2 = false then 1 else firstNZ (wrongP c.1) c.1.length
theorem wrongP_at {ps : List Int} {i : Nat} {p : Int} (h : ps[i]? = some p) : wrongP ps i = if inO p = false then 1 else if (ps.take i).contains p then 11 else 0 := by
  unfold wrongP; rw [h]
theorem checkC_ok {c : Cm} (h : checkC c = 0) : c.1.length ≤ 16 ∧ (0 ≤ c.2 ∧ c.2 < 65536) ∧ (∀ p ∈ c.1, 0 ≤ p ∧ p < 65536) := by
  unfold checkC at h
  split at h
  · cases h
  split at h
  · cases h
  rename_i h1 h2
  refine ⟨by omega, inO_iff.1 (by simpa using h2), fun p hp => ?_⟩
  obtain ⟨i, hi⟩ := List.getElem?_of_mem hp
  have hz := firstNZ_zero h i (List.getElem?_eq_some_iff.1 hi).1
  rw [wrongP_at hi] at hz
  by_cases hq : inO p = false
  · rw [if_pos hq] at hz; cases hz
  · exact inO_iff.1 (by simpa using hq)
def encPs (ps : List Int) : List UInt8 := ps.flatMap fun p => numB 4 p.toNat
/-- a commit's bytes -/
def encC' (c : Cm) : List UInt8 := numB 4 c.2.toNat ++ numB 1 c.1.length ++ encPs c.1
theorem encPs_len (ps : List Int) : (encPs ps).length = 4 * ps.length := by
  induction ps with
  | nil => rfl
  | cons p ps ih => 
    show (numB 4 p.toNat ++ encPs ps).length = _
    rw [List.length_append, numB_len, ih, List.length_cons]; omega
theorem encPs_succ {ps : List Int} {i : Nat} {p : Int} (h : ps[i]? = some p) : encPs (ps.take (i + 1)) = encPs (ps.take i) ++ numB 4 p.toNat := by
  unfold encPs
  rw [List.take_add_one, h, List.flatMap_append]
  simp
def comV (c : Cm) : List UInt8 := if checkC c = 0 then encC' c else []
/-- k numbers of four bytes each -/
def numsAt (s : List UInt8) : Nat → Nat → List Int
  | 0, _ => []
  | k + 1, pos => ((valB ((s.drop pos).take 4) : Nat) : Int) :: numsAt s k (pos + 4)
theorem numsAt_snoc (s : List UInt8) : ∀ (k pos : Nat), numsAt s (k + 1) pos = numsAt s k pos ++ [((valB ((s.drop (pos + 4 * k)).take 4) : Nat) : Int)]
  | 0, pos => rfl
  | k + 1, pos => by
    rw [numsAt, numsAt_snoc s k (pos + 4), numsAt, List.cons_append]
    rw [show pos + 4 + 4 * k = pos + 4 * (k + 1) by omega]
/-- the commit of bytes -/
def decC (s : List UInt8) : Option Cm :=
  if s.length < 5 then none else if 16 < valB ((s.drop 4).take 1) then none else
  if s.length ≠ 5 + 4 * valB ((s.drop 4).take 1) then none else
  if checkC (numsAt s (valB ((s.drop 4).take 1)) 5, ((valB (s.take 4) : Nat) : Int)) ≠ 0 then none else
  some (numsAt s (valB ((s.drop 4).take 1)) 5, ((valB (s.take 4) : Nat) : Int))
end SX
namespace SX
open Go
def sumN (l : List UInt8) : Nat := (sumW l).toNat
theorem sumN_lt (l : List UInt8) : sumN l < 4294967296 := (sumW l).isLt
/-- a frame: its kind and its body -/
abbrev Fm : Type := Nat × List UInt8
def headF (f : Fm) : List UInt8 := numB 1 f.1 ++ numB 4 f.2.length ++ f.2
def encFm (f : Fm) : List UInt8 := headF f ++ numB 4 (sumN (headF f))
theorem headF_len (f : Fm) : (headF f).length = f.2.length + 5 := by
  unfold headF; simp only [List.length_append, numB_len]; omega
theorem encFm_len (f : Fm) : (encFm f).length = f.2.length + 9 := by
  unfold encFm; rw [List.length_append, headF_len, numB_len]
/-- the frame with which bytes begin, and its size -/
def decF (s : List UInt8) : Option (Fm × Nat) :=
  if s.length < 5 then none else if valB (s.take 1) = 0 then none else
  if 1048576 < valB ((s.drop 1).take 4) then none else
  if s.length < valB ((s.drop 1).take 4) + 9 then none else
  if valB ((s.drop (valB ((s.drop 1).take 4) + 5)).take 4) ≠ sumN (s.take (valB ((s.drop 1).take 4) + 5)) then none else
  some ((valB (s.take 1), (s.drop 5).take (valB ((s.drop 1).take 4))), valB ((s.drop 1).take 4) + 9)
theorem decF_short {s : List UInt8} (h : s.length < 5) : decF s = none := by unfold decF; rw [if_pos h]
theorem decF_kind {s : List UInt8} (h : valB (s.take 1) = 0) : decF s = none := by
  unfold decF
  split
  · rfl
  · first | rfl | rw [if_pos h]
theorem decF_big {s : List UInt8} (h : 1048576 < valB ((s.drop 1).take 4)) : decF s = none := by
  unfold decF
  split
  · rfl
  · split
    · rfl
    · first | rfl | rw [if_pos h]
theorem decF_cut {s : List UInt8} {n : Nat} (hn : valB ((s.drop 1).take 4) = n) (h : s.length < n + 9) : decF s = none := by
  unfold decF
  rw [hn]
  split
  · rfl
  · split
    · rfl
    · split
      · rfl
      · first | rfl | rw [if_pos h]
theorem decF_sum {s : List UInt8} {n : Nat} (hn : valB ((s.drop 1).take 4) = n) (h0 : valB (s.take 1) ≠ 0) (h1 : n ≤ 1048576) (h2 : n + 9 ≤ s.length) :
    decF s = if valB ((s.drop (n + 5)).take 4) ≠ sumN (s.take (n + 5)) then none else some ((valB (s.take 1), (s.drop 5).take n), n + 9) := by
  unfold decF
  rw [hn, if_neg (by omega), if_neg h0, if_neg (by omega), if_neg (by omega)]
theorem decF_some {s : List UInt8} {f : Fm} {n : Nat} (h : decF s = some (f, n)) : n = f.2.length + 9 ∧ n ≤ s.length ∧ 0 < f.1 ∧ f.1 < 256 ∧ f.2.length ≤ 1048576 := by
  unfold decF at h
  split at h
  · cases h
  split at h
  · cases h
  split at h
  · cases h
  split at h
  · cases h
  split at h
  · cases h
  cases h
  have hl : (s.take 1).length ≤ 1 := by rw [List.length_take]; exact Nat.min_le_left _ _
  have h1 := valB_lt (s.take 1)
  have h2 : 256 ^ (s.take 1).length ≤ 256 ^ 1 := Nat.pow_le_pow_right (by decide) hl
  refine ⟨?_, by omega, by show 0 < valB _; omega, by show valB _ < 256; omega, ?_⟩
  · show _ = (List.take _ _).length + 9
    rw [List.length_take, List.length_drop]; omega
  · show (List.take _ _).length ≤ _
    rw [List.length_take]; omega
/-- the frames from the front -/
def scanF : Nat → List UInt8 → List Fm
  | 0, _ => []
  | k + 1, s => if s = [] then [] else match decF s with
    | none => []
    | some (f, n) => f :: scanF k (s.drop n)
theorem scanF_enough : ∀ (k j : Nat) (s : List UInt8), s.length ≤ k → s.length ≤ j → scanF k s = scanF j s
  | 0, 0, s, _, _ => rfl
  | 0, j + 1, s, h, _ => by
    have : s = [] := List.eq_nil_of_length_eq_zero (by omega)
    rw [scanF, scanF, if_pos this]
  | k + 1, 0, s, _, h => by
    have : s = [] := List.eq_nil_of_length_eq_zero (by omega)
    rw [scanF, scanF, if_pos this]
  | k + 1, j + 1, s, h1, h2 => by
    rw [scanF, scanF]
    by_cases h : s = []
    · rw [if_pos h, if_pos h]
    · rw [if_neg h, if_neg h]
      cases hd : decF s with
      | none => rfl
      | some x =>
        obtain ⟨f, n⟩ := x
        obtain ⟨q1, q2, _⟩ := decF_some hd
        show f :: scanF k (s.drop n) = f :: scanF j (s.drop n)
        rw [scanF_enough k j (s.drop n) (by rw [List.length_drop]; omega) (by rw [List.length_drop]; omega)]
/-- the frames of a text, from its front -/
def scan (s : List UInt8) : List Fm := scanF s.length s
theorem scan_nil : scan [] = [] := rfl
theorem scan_none {s : List UInt8} (h : decF s = none) : scan s = [] := by
  unfold scan
  cases hl : s.length with
  | zero => rfl
  | succ k =>
    rw [scanF, h]
    split <;> rfl
theorem scan_some {s : List UInt8} {f : Fm} {n : Nat} (h : decF s = some (f, n)) : scan s = f :: scan (s.drop n) := by
  obtain ⟨q1, q2, _⟩ := decF_some h
  unfold scan
  cases hl : s.length with
  | zero => omega
  | succ k =>
    rw [scanF, h, if_neg (fun e => by rw [e] at hl; cases hl)]
    show f :: scanF k (s.drop n) = _
    rw [scanF_enough k (s.drop n).length (s.drop n) (by rw [List.length_drop]; omega) (Nat.le_refl _)]
/-- how many bytes frames take -/
def sizeF (l : List Fm) : Nat := (l.map fun f => f.2.length + 9).sum
theorem sizeF_app (a b : List Fm) : sizeF (a ++ b) = sizeF a + sizeF b := by unfold sizeF; rw [List.map_append, List.sum_append]
end SX
namespace SX
open Go
structure Fl where
  bytes : List UInt8
  safe : Nat
abbrev Nm : Type := ByteArray × Nat
structure Cg where
  gone : ByteArray
  come : ByteArray
  file : Nat
structure Dk where
  quota : Int
  files : List Fl
  seen : List Nm
  safe : List Nm
  pend : List Cg
  falls : Int
  off : Bool
abbrev nos : ByteArray := ⟨#[]⟩
def goodN (s : ByteArray) : Bool := decide (1 ≤ s.size) && (decide (s.size ≤ 32) && s.data.toList.all fun b => decide (33 ≤ b.toNat) && decide (b.toNat ≤ 126))
def findN : List Nm → ByteArray → Option Nat
  | [], _ => none
  | x :: l, s => if strEq x.1 s = true then some x.2 else findN l s
def keepN (c : Cg) (x : Nm) : Bool := !strEq x.1 c.gone && !strEq x.1 c.come
def chgN (l : List Nm) (c : Cg) : List Nm := l.filter (keepN c) ++ (if strEq c.come nos = true then [] else [(c.come, c.file)])
def Dk.fl (d : Dk) (k : Nat) : Fl := (d.files[k]?).getD ⟨[], 0⟩
def Dk.used (d : Dk) : Nat := (d.seen.map fun x => (d.fl x.2).bytes.length).sum
def Dk.setF (d : Dk) (k : Nat) (f : Fl) : Dk := { d with files := d.files.set k f }
def Dk.chg (d : Dk) (c : Cg) : Dk := { d with seen := chgN d.seen c, pend := d.pend ++ [c] }
def stepD (d : Dk) : Dk × Int := if 0 < d.falls then (if d.falls = 1 then ({ d with falls := 0, off := true }, 8) else ({ d with falls := d.falls - 1 }, 0)) else (d, 0)
/-- a step, and what is done if the power does not go -/
def atStep (d : Dk) (f : Dk → Dk) : Dk × Int := if (stepD d).2 = 0 then (f (stepD d).1, 0) else ((stepD d).1, (stepD d).2)
def newD (q : Int) : Dk := ⟨q, [], [], [], [], 0, false⟩
def createD (d : Dk) (s : ByteArray) : Dk × Int :=
  if d.off = true then (d, 8) else if goodN s = false then (d, 1) else if (findN d.seen s).isNone = true ∧ 64 ≤ d.seen.length then (d, 7) else
    atStep d fun d => ({ d with files := d.files ++ [⟨[], 0⟩] } : Dk).chg ⟨nos, s, d.files.length⟩
/-- a question of a file -/
def onFile (d : Dk) (s : ByteArray) (f : Nat → Dk × Int) : Dk × Int := if d.off = true then (d, 8) else match findN d.seen s with | none => (d, 6) | some k => f k
def appendD (d : Dk) (s : ByteArray) (t : List UInt8) : Dk × Int := onFile d s fun k =>
  if 0 < t.length ∧ d.quota < (d.used : Int) + t.length then (d, 7) else atStep d fun d => d.setF k ⟨(d.fl k).bytes ++ t, (d.fl k).safe⟩
def cutD (d : Dk) (s : ByteArray) (n : Int) : Dk × Int := onFile d s fun k =>
  if n < 0 ∨ ((d.fl k).bytes.length : Int) < n then (d, 1) else atStep d fun d => d.setF k ⟨(d.fl k).bytes.take n.toNat, min (d.fl k).safe n.toNat⟩
def syncD (d : Dk) (s : ByteArray) : Dk × Int := onFile d s fun k => atStep d fun d => d.setF k ⟨(d.fl k).bytes, (d.fl k).bytes.length⟩
def syncNamesD (d : Dk) : Dk × Int := if d.off = true then (d, 8) else atStep d fun d => { d with safe := d.seen, pend := [] }
def renameD (d : Dk) (s t : ByteArray) : Dk × Int := onFile d s fun k => if goodN t = false then (d, 1) else atStep d fun d => if strEq s t = true then d else d.chg ⟨s, t, k⟩
def removeD (d : Dk) (s : ByteArray) : Dk × Int := onFile d s fun _ => atStep d fun d => d.chg ⟨s, nos, 0⟩
def damageD (d : Dk) (s : ByteArray) (n : Int) (t : List UInt8) : Dk × Int := onFile d s fun k =>
  if n < 0 ∨ ((d.fl k).bytes.length : Int) < n then (d, 1) else
    if 0 < (t.length : Int) - ((d.fl k).bytes.length - n) ∧ d.quota < (d.used : Int) + ((t.length : Int) - ((d.fl k).bytes.length - n)) then (d, 7) else
      (d.setF k ⟨(d.fl k).bytes.take n.toNat ++ t ++ (d.fl k).bytes.drop (n.toNat + t.length), ((d.fl k).bytes.take n.toNat ++ t ++ (d.fl k).bytes.drop (n.toNat + t.length)).length⟩, 0)
def readD (d : Dk) (s : ByteArray) : List UInt8 × Int := if d.off = true then ([], 8) else match findN d.seen s with | none => ([], 6) | some k => ((d.fl k).bytes, 0)
def fallD (d : Dk) (n : Int) : Dk := { d with falls := max n 0 }
/-- how many bytes more stay of a file -/
def moreF (keep : List Int) (k : Nat) (f : Fl) : Nat := if keep.length = 0 then 0 else (min (max ((keep[k % keep.length]?).getD 0) 0) ((f.bytes.length : Int) - f.safe)).toNat
def cutF (keep : List Int) (k : Nat) (f : Fl) : Fl := ⟨f.bytes.take (f.safe + moreF keep k f), f.safe + moreF keep k f⟩
def namesAt (d : Dk) (n : Int) : List Nm := (d.pend.take (min (max n 0).toNat d.pend.length)).foldl chgN d.safe
def crashD (d : Dk) (n : Int) (keep : List Int) : Dk :=
  { d with files := (List.range d.files.length).map fun k => if (namesAt d n).any (fun x => decide (x.2 = k)) = true then cutF keep k (d.fl k) else ⟨[], 0⟩,
           seen := namesAt d n, safe := namesAt d n, pend := [], falls := 0, off := false }
/-- how long a file can be, how many names -/
abbrev mostF : Nat := 16777216
/-- names: each is good, none stands twice, each has a file -/
structure NmOk (n : Nat) (l : List Nm) : Prop where
  nodup : (l.map (·.1)).Nodup
  good : ∀ x ∈ l, goodN x.1 = true ∧ x.2 < n
structure Dk.Ok (d : Dk) : Prop where
  q : 0 ≤ d.quota ∧ d.quota ≤ 16777216
  fl : ∀ f ∈ d.files, f.bytes.length ≤ mostF ∧ f.safe ≤ f.bytes.length
  safe : NmOk d.files.length d.safe
  pend : ∀ c ∈ d.pend, strEq c.come nos = false → goodN c.come = true ∧ c.file < d.files.length
  seen : d.seen = d.pend.foldl chgN d.safe
  hist : ∀ i, ((d.pend.take i).foldl chgN d.safe).length ≤ 64
  falls : 0 ≤ d.falls ∧ d.falls ≤ 9223372036854775807
theorem goodN_ne {s : ByteArray} (h : goodN s = true) : strEq s nos = false := by
  rw [strEq_false]; rintro rfl
  revert h; decide
theorem NmOk.mono {n m : Nat} {l : List Nm} (h : NmOk n l) (k : n ≤ m) : NmOk m l := ⟨h.nodup, fun x hx => ⟨(h.good x hx).1, by have := (h.good x hx).2; omega⟩⟩
theorem NmOk.chg {n : Nat} {l : List Nm} (h : NmOk n l) {c : Cg} (hc : strEq c.come nos = false → goodN c.come = true ∧ c.file < n) : NmOk n (chgN l c) := by
  unfold chgN
  have h1 : NmOk n (l.filter (keepN c)) := ⟨h.nodup.sublist ((List.filter_sublist (p := keepN c)).map _), fun x hx => h.good x (List.mem_filter.1 hx).1⟩
  by_cases he : strEq c.come nos = true
  · rw [if_pos he, List.append_nil]; exact h1
  · rw [if_neg he]
    obtain ⟨k1, k2⟩ := hc (by simpa using he)
    refine ⟨?_, fun x hx => ?_⟩
    · rw [List.map_append, List.nodup_append]
      refine ⟨h1.nodup, by simp, fun a ha b hb e => ?_⟩
      obtain ⟨x, hx, rfl⟩ := List.mem_map.1 ha
      have := (List.mem_filter.1 hx).2
      simp only [List.map_cons, List.map_nil, List.mem_singleton] at hb
      rw [hb] at e
      unfold keepN at this
      rw [e, strEq_refl] at this
      simp at this
    · rcases List.mem_append.1 hx with hx | hx
      · exact h1.good x hx
      · rw [List.mem_singleton.1 hx]; exact ⟨k1, k2⟩
theorem NmOk.chgs {n : Nat} : ∀ {cs : List Cg} {l : List Nm}, NmOk n l → (∀ c ∈ cs, strEq c.come nos = false → goodN c.come = true ∧ c.file < n) → NmOk n (cs.foldl chgN l)
  | [], _, h, _ => h
  | c :: cs, l, h, hc => NmOk.chgs (cs := cs) (l := chgN l c) (h.chg (hc c (.head _))) fun x hx => hc x (.tail _ hx)
theorem Dk.Ok.seenOk {d : Dk} (h : d.Ok) : NmOk d.files.length d.seen := by rw [h.seen]; exact h.safe.chgs h.pend
theorem Dk.Ok.seenLe {d : Dk} (h : d.Ok) : d.seen.length ≤ 64 := by
  have := h.hist d.pend.length
  rwa [List.take_length, ← h.seen] at this
theorem Dk.fl_ok {d : Dk} (h : d.Ok) (k : Nat) : (d.fl k).bytes.length ≤ mostF ∧ (d.fl k).safe ≤ (d.fl k).bytes.length := by
  unfold Dk.fl
  cases hk : d.files[k]? with
  | none => exact ⟨Nat.zero_le _, Nat.zero_le _⟩
  | some f => exact h.fl f (List.mem_of_getElem? hk)
theorem sum_le {α : Type} (f : α → Nat) (m : Nat) : ∀ (l : List α), (∀ x ∈ l, f x ≤ m) → (l.map f).sum ≤ l.length * m
  | [], _ => by simp
  | x :: l, h => by
    have := sum_le f m l fun y hy => h y (.tail _ hy)
    have := h x (.head _)
    simp only [List.map_cons, List.sum_cons, List.length_cons, Nat.add_mul, Nat.one_mul]; omega
theorem mem_le_sum {α : Type} (f : α → Nat) : ∀ (l : List α) (x : α), x ∈ l → f x ≤ (l.map f).sum
  | y :: l, x, h => by
    simp only [List.map_cons, List.sum_cons]
    rcases List.mem_cons.1 h with rfl | h
    · omega
    · have := mem_le_sum f l x h; omega
theorem Dk.used_le {d : Dk} (h : d.Ok) : d.used ≤ 1073741824 := by
  have := sum_le (fun x : Nm => (d.fl x.2).bytes.length) mostF d.seen fun x _ => (d.fl_ok h x.2).1
  have := h.seenLe
  unfold Dk.used
  have : d.seen.length * mostF ≤ 64 * mostF := Nat.mul_le_mul_right _ this
  simp only [mostF] at *
  omega
theorem findN_mem {l : List Nm} {s : ByteArray} {k : Nat} (h : findN l s = some k) : (s, k) ∈ l := by
  induction l with
  | nil => cases h
  | cons x l ih =>
    unfold findN at h
    by_cases e : strEq x.1 s = true
    · rw [if_pos e] at h
      have := strEq_iff.1 e
      have h2 := Option.some.inj h
      rw [← this, ← h2]; exact .head _
    · rw [if_neg e] at h; exact .tail _ (ih h)
theorem findN_none {l : List Nm} {s : ByteArray} : findN l s = none ↔ ∀ x ∈ l, x.1 ≠ s := by
  induction l with
  | nil => simp [findN]
  | cons x l ih =>
    unfold findN
    by_cases e : strEq x.1 s = true
    · rw [if_pos e]; simp; exact fun h => absurd (strEq_iff.1 e) h
    · rw [if_neg e, ih]
      simp only [List.mem_cons, forall_eq_or_imp]
      exact ⟨fun h => ⟨fun k => e (strEq_iff.2 k), h⟩, fun h => h.2⟩
theorem findN_of {l : List Nm} (hn : (l.map (·.1)).Nodup) {s : ByteArray} {k : Nat} (h : (s, k) ∈ l) : findN l s = some k := by
  induction l with
  | nil => cases h
  | cons x l ih =>
    unfold findN
    rw [List.map_cons, List.nodup_cons] at hn
    rcases List.mem_cons.1 h with rfl | h
    · rw [if_pos (strEq_refl _)]
    · rw [if_neg (fun e => hn.1 (by rw [strEq_iff.1 e]; exact List.mem_map.2 ⟨_, h, rfl⟩))]
      exact ih hn.2 h
end SX
namespace SX
open Go
/-- a file as it lies in memory: its block, its bytes' slice -/
structure Rc where
  a : Nat
  v : Value
  f : Fl
def adr (rs : List Rc) (k : Nat) : Value := match rs[k]? with | some r => .pointer (some ⟨r.a, 0, none⟩) | none => .pointer none
theorem adr_at {rs : List Rc} {k : Nat} {r : Rc} (h : rs[k]? = some r) : adr rs k = .pointer (some ⟨r.a, 0, none⟩) := by unfold adr; rw [h]
theorem adr_set {rs : List Rc} {i : Nat} {r r' : Rc} (h : rs[i]? = some r) (ha : r'.a = r.a) (k : Nat) : adr (rs.set i r') k = adr rs k := by
  by_cases e : i = k
  · subst e; rw [adr_at h, adr_at (List.getElem?_set_self (List.getElem?_eq_some_iff.1 h).1), ha]
  · unfold adr; rw [List.getElem?_set_ne e]
theorem adr_app {rs : List Rc} {k : Nat} (h : k < rs.length) (r : Rc) : adr (rs ++ [r]) k = adr rs k := by unfold adr; rw [List.getElem?_append_left h]
theorem adr_new (rs : List Rc) (r : Rc) : adr (rs ++ [r]) rs.length = .pointer (some ⟨r.a, 0, none⟩) := adr_at (by simp)
/-- a map of names is a plain list of names -/
structure NmRel (es : Ents ByteArray) (l : List Nm) (rs : List Rc) : Prop where
  keys : (es.map (·.1)).Nodup
  look : ∀ s, mlook es s = (findN l s).map (adr rs)
theorem NmRel.nil (rs : List Rc) : NmRel [] [] rs := ⟨List.nodup_nil, fun _ => rfl⟩
theorem NmRel.to {es : Ents ByteArray} {l : List Nm} {rs rs' : List Rc} (h : NmRel es l rs) (k : ∀ x ∈ l, adr rs' x.2 = adr rs x.2) : NmRel es l rs' :=
  ⟨h.keys, fun s => by
    rw [h.look]
    cases hf : findN l s with
    | none => rfl
    | some i => rw [Option.map_some, Option.map_some, k _ (findN_mem hf)]⟩
theorem NmRel.perm {es : Ents ByteArray} {l : List Nm} {rs : List Rc} (h : NmRel es l rs) (hn : (l.map (·.1)).Nodup) : (es.map fun x => (x.1, x.2.1)).Perm (l.map fun x => (x.1, adr rs x.2)) := by
  have n1 : (es.map fun x => (x.1, x.2.1)).Nodup := by
    have := h.keys
    rw [show es.map (·.1) = (es.map fun x => (x.1, x.2.1)).map (·.1) by rw [List.map_map]; rfl] at this
    exact List.Pairwise.of_map _ (fun a b h e => h (by rw [e])) this
  have n2 : (l.map fun x => (x.1, adr rs x.2)).Nodup := by
    have := hn
    rw [show l.map (·.1) = (l.map fun x => (x.1, adr rs x.2)).map (·.1) by rw [List.map_map]; rfl] at this
    exact List.Pairwise.of_map _ (fun a b h e => h (by rw [e])) this
  refine (List.perm_ext_iff_of_nodup n1 n2).2 fun ⟨s, v⟩ => ?_
  constructor
  · intro hm
    obtain ⟨x, hx, e⟩ := List.mem_map.1 hm
    have h1 := mlook_of h.keys hx
    rw [h.look] at h1
    obtain ⟨k, hk, hv⟩ := Option.map_eq_some_iff.1 h1
    obtain ⟨rfl, rfl⟩ := Prod.mk.inj e
    exact List.mem_map.2 ⟨_, findN_mem hk, by simp only [hv]⟩
  · intro hm
    obtain ⟨x, hx, e⟩ := List.mem_map.1 hm
    obtain ⟨rfl, rfl⟩ := Prod.mk.inj e
    have h1 := findN_of hn (s := x.1) (k := x.2) hx
    refine mlook_mem ?_
    rw [h.look, h1, Option.map_some]
theorem NmRel.len {es : Ents ByteArray} {l : List Nm} {rs : List Rc} (h : NmRel es l rs) (hn : (l.map (·.1)).Nodup) : es.length = l.length := by
  have := (h.perm hn).length_eq; simpa using this
theorem findN_cons (x : Nm) (l : List Nm) (s : ByteArray) : findN (x :: l) s = if strEq x.1 s = true then some x.2 else findN l s := rfl
theorem find_filter {l : List Nm} {q : Nm → Bool} (hq : ∀ x y : Nm, x.1 = y.1 → q x = q y) (s : ByteArray) : findN (l.filter q) s = if q (s, 0) = true then findN l s else none := by
  induction l with
  | nil => simp [findN]
  | cons x l ih =>
    rw [List.filter_cons]
    by_cases hx : q x = true
    · rw [if_pos hx]
      unfold findN
      by_cases e : strEq x.1 s = true
      · rw [if_pos e, if_pos e, if_pos (by rw [← hq x (s, 0) (strEq_iff.1 e)]; exact hx)]
      · rw [if_neg e, if_neg e, ih]
    · rw [if_neg hx, ih]
      by_cases e : strEq x.1 s = true
      · rw [if_neg (by rw [← hq x (s, 0) (strEq_iff.1 e)]; exact hx), if_neg (by rw [← hq x (s, 0) (strEq_iff.1 e)]; exact hx)]
      · conv => rhs; unfold findN
        rw [if_neg e]
theorem find_app (l m : List Nm) (s : ByteArray) : findN (l ++ m) s = (findN l s).or (findN m s) := by
  induction l with
  | nil => simp [findN]
  | cons x l ih =>
    rw [List.cons_append, findN_cons, findN_cons]
    by_cases e : strEq x.1 s = true
    · rw [if_pos e, if_pos e]; rfl
    · rw [if_neg e, if_neg e, ih]
theorem find_chg (l : List Nm) (c : Cg) (s : ByteArray) : findN (chgN l c) s = if strEq c.come nos = false ∧ c.come = s then some c.file else if s = c.gone ∨ s = c.come then none else findN l s := by
  unfold chgN
  rw [find_app, find_filter (fun x y h => by unfold keepN; rw [h])]
  have hk : keepN c (s, 0) = true ↔ ¬ (s = c.gone ∨ s = c.come) := by
    unfold keepN
    rw [Bool.and_eq_true, Bool.not_eq_true', Bool.not_eq_true', strEq_false, strEq_false]
    exact ⟨fun h k => k.elim h.1 h.2, fun h => ⟨fun k => h (.inl k), fun k => h (.inr k)⟩⟩
  by_cases h1 : strEq c.come nos = true
  · rw [if_pos h1]
    simp only [h1, Bool.true_eq_false, false_and, if_false]
    have : findN [] s = none := rfl
    rw [this, Option.or_none]
    by_cases h2 : s = c.gone ∨ s = c.come
    · rw [if_neg (fun k => hk.1 k h2), if_pos h2]
    · rw [if_pos (hk.2 h2), if_neg h2]
  · have h1' : strEq c.come nos = false := by simpa using h1
    rw [if_neg h1]
    have hs : findN [(c.come, c.file)] s = if strEq c.come s = true then some c.file else none := rfl
    rw [hs]
    by_cases h3 : c.come = s
    · rw [if_pos (strEq_iff.2 h3), if_pos (show strEq c.come nos = false ∧ c.come = s from ⟨h1', h3⟩), if_neg (fun k : keepN c (s, 0) = true => hk.1 k (.inr h3.symm))]; rfl
    · rw [if_neg (show ¬ (strEq c.come nos = false ∧ c.come = s) from fun k => h3 k.2), if_neg (show ¬ strEq c.come s = true from fun k => h3 (strEq_iff.1 k)), Option.or_none]
      by_cases h2 : s = c.gone ∨ s = c.come
      · rw [if_neg (show ¬ keepN c (s, 0) = true from fun k => hk.1 k h2), if_pos h2]
      · rw [if_pos (hk.2 h2), if_neg h2]
/-- a pending change as it lies in memory -/
abbrev Pc : Type := ByteArray × ByteArray × Value
abbrev encP (p : Pc) : List Value := [.string p.1, .string p.2.1, p.2.2]
def PcRel (rs : List Rc) (p : Pc) (c : Cg) : Prop := p.2.1 = c.come ∧ (p.1 = c.gone ∨ (c.gone = nos ∧ p.1 = c.come)) ∧ p.2.2 = if strEq c.come nos = true then .pointer none else adr rs c.file
/-- what a change does to a map -/
def doE (es : Ents ByteArray) (cl : Nat) (p : Pc) : Ents ByteArray := match p.2.2 with | .pointer none => del es p.1 | _ => upd (del es p.1) cl p.2.1 p.2.2
def doC (es : Ents ByteArray) (cl : Nat) (p : Pc) : Nat := match p.2.2 with | .pointer none => cl | _ => updC (del es p.1) cl p.2.1
theorem doE_born {es : Ents ByteArray} {cl : Nat} (h : Born es cl) (p : Pc) : Born (doE es cl p) (doC es cl p) := by
  unfold doE doC
  split
  · exact h.del _
  · exact (h.del _).upd _ _
theorem doE_rel {es : Ents ByteArray} {cl : Nat} {l : List Nm} {rs : List Rc} (h : NmRel es l rs) (hl : ∀ x ∈ l, strEq x.1 nos = false) {p : Pc} {c : Cg} (hp : PcRel rs p c) (hc : strEq c.come nos = false → c.file < rs.length) : NmRel (doE es cl p) (chgN l c) rs := by
  obtain ⟨h1, h2, h3⟩ := hp
  have hno : findN l nos = none := findN_none.2 fun x hx e => by have := hl x hx; rw [e, strEq_refl] at this; cases this
  by_cases he : strEq c.come nos = true
  · rw [if_pos he] at h3
    have hE : doE es cl p = del es p.1 := by unfold doE; rw [h3]
    rw [hE]
    refine ⟨del_keys h.keys _, fun s => ?_⟩
    rw [mlook_del h.keys, find_chg, if_neg (show ¬ (strEq c.come nos = false ∧ c.come = s) from fun k => by rw [he] at k; cases k.1), h.look]
    have hcn := strEq_iff.1 he
    by_cases e1 : p.1 = s
    · rw [if_pos e1]
      rcases h2 with h2 | ⟨h2, h2'⟩
      · rw [if_pos (.inl (by rw [← e1, h2]))]; rfl
      · rw [if_pos (.inr (by rw [← e1, h2']))]; rfl
    · rw [if_neg e1]
      by_cases e2 : s = c.gone ∨ s = c.come
      · rw [if_pos e2]
        have : s = nos := by
          rcases h2 with h2 | ⟨h2, h2'⟩
          · rcases e2 with e2 | e2
            · exact absurd (by rw [h2, e2]) e1
            · rw [e2, hcn]
          · rcases e2 with e2 | e2
            · rw [e2, h2]
            · exact absurd (by rw [h2', e2]) e1
        rw [this, hno]
      · rw [if_neg e2]
  · have he' : strEq c.come nos = false := by simpa using he
    rw [if_neg he] at h3
    obtain ⟨r, hr⟩ : ∃ r, rs[c.file]? = some r := ⟨_, List.getElem?_eq_getElem (hc he')⟩
    have hE : doE es cl p = upd (del es p.1) cl p.2.1 (adr rs c.file) := by unfold doE; rw [h3, adr_at hr]
    rw [hE]
    refine ⟨upd_keys (del_keys h.keys _) _ _ _, fun s => ?_⟩
    rw [mlook_upd, mlook_del h.keys, find_chg, h.look, h1]
    by_cases e0 : c.come = s
    · rw [if_pos e0, if_pos (show strEq c.come nos = false ∧ c.come = s from ⟨he', e0⟩)]; rfl
    · rw [if_neg e0, if_neg (show ¬ (strEq c.come nos = false ∧ c.come = s) from fun k => e0 k.2)]
      by_cases e1 : p.1 = s
      · rw [if_pos e1]
        rcases h2 with h2 | ⟨h2, h2'⟩
        · rw [if_pos (.inl (by rw [← e1, h2]))]; rfl
        · exact absurd (by rw [← h2', e1]) e0
      · rw [if_neg e1]
        by_cases e2 : s = c.gone ∨ s = c.come
        · rw [if_pos e2]
          have : s = nos := by
            rcases h2 with h2 | ⟨h2, h2'⟩
            · rcases e2 with e2 | e2
              · exact absurd (by rw [h2, e2]) e1
              · exact absurd e2.symm e0
            · rcases e2 with e2 | e2
              · rw [e2, h2]
              · exact absurd e2.symm e0
          rw [this, hno]
        · rw [if_neg e2]
end SX
namespace SX
open Go

def viaB (P : Program) (t : TypeId) (name : String) (ft off : Nat) (fn : Option (FuncId × Bool)) : Bool :=
  match P.info? t with
  | some inf => match inf.methods.find? (·.name == name) with
    | some m => decide (m.func = fn) && match m.path.toList with
      | [st] => st.deref && match P.underlying st.struct with
        | some (.struct fs) => match fs[st.index]? with
          | some f => f.type == ft && (f.offset == off && ((P.info? f.type).map (·.size != 0)).getD false)
          | none => false
        | _ => false
      | _ => false
    | none => false
  | none => false
/-- the method is promoted from the field at off, of type ft -/
class TVia (P : Program) (t : TypeId) (name : String) (ft off : outParam Nat) (fn : outParam (Option (FuncId × Bool))) : Prop where
  okB : viaB P t name ft off fn = true
theorem TVia.ok {P : Program} {t : TypeId} {name : String} {ft off : Nat} {fn : Option (FuncId × Bool)} (h : TVia P t name ft off fn) : ∃ inf m st fs f j, P.info? t = some inf ∧ inf.methods.find? (·.name == name) = some m ∧ m.func = fn ∧ m.path.toList = [st] ∧ st.deref = true ∧ P.underlying st.struct = some (.struct fs) ∧ fs[st.index]? = some f ∧ f.type = ft ∧ f.offset = off ∧ P.info? f.type = some j ∧ j.size ≠ 0 := by
  have h := h.okB
  unfold viaB at h
  split at h
  · rename_i inf hi
    split at h
    · rename_i m hm
      simp only [Bool.and_eq_true, decide_eq_true_eq] at h
      obtain ⟨h1, h⟩ := h
      split at h
      · rename_i st hp
        simp only [Bool.and_eq_true] at h
        obtain ⟨h2, h⟩ := h
        split at h
        · rename_i fs hu
          split at h
          · rename_i f hf
            simp only [Bool.and_eq_true, beq_iff_eq] at h
            obtain ⟨h3, h4, h5⟩ := h
            cases hj : P.info? f.type with
            | none => simp [hj] at h5
            | some j => simp [hj] at h5; exact ⟨inf, m, st, fs, f, j, hi, hm, h1, hp, h2, hu, hf, h3, h4, hj, h5⟩
          · cases h
        · cases h
      · cases h
    · cases h
  · cases h
section
variable {P : Program}
theorem InvS.exA {α : Type} {F : α → List Assn} {d : Nat} {t : TypeId} {v : Value} {name : String} {args : List Value} {R : List Assn} {post : Value → List Assn → Prop} (h : ∀ x, InvS P d t v name args (F x ++ R) post) : InvS P d t v name args (exA F :: R) post := fun E w hw => by
  obtain ⟨k1, k2, k3, k4, k5⟩ := hw
  have k6 : Sat (SX.exA F :: (E.X ++ R)) (fun b => w.heap[b]?) := Sat.perm (perm_out (.refl _)) _ k5
  obtain ⟨x, hx⟩ := exA_open k6
  refine h x E w ⟨k1, k2, k3, k4, Sat.perm ?_ _ hx⟩
  rw [← List.append_assoc, ← List.append_assoc]
  exact List.Perm.append_right _ List.perm_append_comm
theorem H.ex {α : Type} {F : α → List Assn} {L : List Assn} {E : Ctx} {w : World} (hh : H E w (exA F :: L)) : ∃ x, H E w (F x ++ L) := by
  obtain ⟨k1, k2, k3, k4, k5⟩ := hh
  have k6 : Sat (exA F :: (E.X ++ L)) (fun b => w.heap[b]?) := Sat.perm (perm_out (.refl _)) _ k5
  obtain ⟨x, hx⟩ := exA_open k6
  exact ⟨x, k1, k2, k3, k4, Sat.perm (by rw [← List.append_assoc, ← List.append_assoc]; exact List.Perm.append_right _ List.perm_append_comm) _ hx⟩
theorem rd_mlook2E {κ : Type} [DecidableEq κ] {env : Env} {L : List Assn} {t kt et b c : Nat} {kv : κ → Value} {l : Ents κ} {z : Value} [hm : TMap P t kt et] [hk : TKey P kt kv] [hz : TZv P et z] {m x : Operand} [hb : InM b L kv l c] (a : κ) {o : Option Value} (h : mlook l a = o) (hx : evalE env m = some (.map (some b))) (hy : evalE env x = some (kv a)) : Rd P env L (.lookup t m x true) (.tuple #[o.getD z, .bool o.isSome]) := by
  subst h; exact rd_mlook2 a hx hy
end
end SX
namespace SX
open Go
section
variable {P : Program} {ro : Option Nat} {ops : Array Oper} {Q : Post} {N : Nat} {rds : List Nat} {fuel : Nat} {listed : Array Bool} {env : Env} {Lr Lx : List Assn}
theorem swd_factf {p : Prop} (h : ∀ m, Sat Lx m → p) (k : p → swd P ro ops Q N rds fuel listed false env Lr Lx) : swd P ro ops Q N rds fuel listed false env Lr Lx :=
  fun E D a w hd hf hh hc => k (h _ (show H (E.add D) w Lx from hh).sat) E D a w hd hf hh hc
theorem swd_factt {p : Prop} (h : ∀ m, Sat (Lr ++ Lx) m → p) (k : p → swd P ro ops Q N rds fuel listed true env Lr Lx) : swd P ro ops Q N rds fuel listed true env Lr Lx :=
  fun E D a w hd hf hh hc => k (h _ (show H (E.add D) w (Lr ++ Lx) from hh).sat) E D a w hd hf hh hc
end
end SX
namespace SX
open Go
theorem Spec.fr {P : Program} {f : FuncId} {args : List Value} {pre : List Assn} {post : Value → List Assn → Prop} (h : Spec P f args pre post) (R : List Assn) : Spec P f args (pre ++ R) (fun v L => ∃ L', post v L' ∧ L = L' ++ R) :=
  fun _ _ hw => (h.frame hw).mono fun _ _ ⟨v, L', e, p, k⟩ => ⟨v, _, e, ⟨L', p, rfl⟩, k⟩
end SX
namespace SX
open Go
theorem ent_open {α : Type} {F : α → List Assn} {L L' : List Assn} (h : ∀ x, Ent (F x ++ L) L') : Ent (exA F :: L) L' := fun m hm => by
  obtain ⟨x, hx⟩ := exA_open hm
  exact h x m hx
end SX
namespace SX
open Go
section
variable {P : Program}
theorem InOwn {e n b cap l : Nat} {xs : List Value} {L L' : List Assn} (t : Take (own e n (.slice (some ⟨b, 0, none⟩) l cap) l xs) L L') {E : Ctx} {w : World} (hh : H E w L) : ∃ ex, H E w (blk b e (xs ++ ex) :: L') := by
  obtain ⟨k1, k2, k3, k4, k5⟩ := hh.take t
  have k6 : Sat (own e n (.slice (some ⟨b, 0, none⟩) l cap) l xs :: (E.X ++ L')) (fun b => w.heap[b]?) := Sat.perm (perm_out (.refl _)) _ k5
  rcases own_open k6 with ⟨a1, a2, a3⟩ | ⟨b', cap', ex, a1, a2, a3, a4, a5, a6⟩
  · cases a1
  · injection a1 with e1 e2 e3
    injection e1 with e1
    injection e1 with e1
    subst e1
    exact ⟨ex, k1, k2, k3, k4, Sat.perm (perm_out (.refl _)).symm _ a6⟩
theorem ld_ownN {L L' : List Assn} {b cap l n : Nat} {xs : List Value} {e : TypeId} (t : Take (own e n (.slice (some ⟨b, 0, none⟩) l cap) l xs) L L') {ty : TypeId} [TOne P ty] {j : Nat} {v : Value} (hv : xs[j]? = some v) : Ld P L ty ⟨b, j, none⟩ v := by
  intro E w hh
  obtain ⟨ex, h⟩ := InOwn t hh
  exact ld_one (L := blk b e (xs ++ ex) :: L') (ty := e) (cs := xs ++ ex) (by rw [List.getElem?_append_left (List.getElem?_eq_some_iff.1 hv).1]; exact hv) E w h
theorem ld_ownA {L L' : List Assn} {b cap l n : Nat} {xs : List Value} {e : TypeId} (t : Take (own e n (.slice (some ⟨b, 0, none⟩) l cap) l xs) L L') {ty k : TypeId} [TAgg P ty k] {i : Nat} {vs : List Value} (hl : vs.length = k) (hv : ∀ j v, vs[j]? = some v → xs[i + j]? = some v) : Ld P L ty ⟨b, i, none⟩ (.agg vs.toArray) := by
  intro E w hh
  obtain ⟨ex, h⟩ := InOwn t hh
  exact ld_agg (L := blk b e (xs ++ ex) :: L') (ty := e) (cs := xs ++ ex) hl (fun j v h2 => by have h3 := hv j v h2; rw [List.getElem?_append_left (List.getElem?_eq_some_iff.1 h3).1]; exact h3) E w h
end
end SX
namespace SX
open Go
theorem d_entx {P : Program} {ro : Option Nat} {ops : Array Oper} {Q : Post} {N : Nat} {rds : List Nat} {fuel : Nat} {listed : Array Bool} {env : Env} {Lr Lx L' : List Assn} {live : Bool} (he : Ent Lx L') (k : swd P ro ops Q N rds fuel listed live env Lr L') : swd P ro ops Q N rds fuel listed live env Lr Lx := by
  cases live with
  | false => exact d_ent he k
  | true =>
    intro E D a w hD hf hh hc
    refine k E D a w hD hf ?_ hc
    have hh' : H (E.add D) w (Lr ++ Lx) := hh
    show H (E.add D) w (Lr ++ L')
    exact hh'.ent ((Ent.perm List.perm_append_comm).trans ((Ent.app he).trans (Ent.perm List.perm_append_comm)))
end SX
namespace SX
open Go
variable {P : Program} {Q : Post} {N : Nat} {env : Env} {L : List Assn}

/-- an iterator's contract: A is lent to the loop's body, K is kept (K' behind the last round) -/
def IterK {α : Type} (P : Program) (f : FuncId) (ca : List Value) (enc : α → List Value) (ok : List α → α → Prop) (fin : List α → Prop) (A : List Assn) (K K' : Assn) : Prop :=
  ∀ (l : Nat) (I : List α → Assn) (X R : Assn), Ent (A ++ [R]) [I []] →
    (∀ pre x, ok pre x → YSp P l (enc x) [I pre] (fun v L' => (v = .bool true ∧ L' = [I (pre ++ [x])]) ∨ (v = .bool false ∧ L' = [X]))) →
    Spec P f (yv l :: ca) (A ++ [R, K]) (fun _ L' => (∃ ys, fin ys ∧ L' = [I ys, K']) ∨ L' = [X, K'])

theorem swp_rangeK {α : Type} {g : Operand} {ps : List Tmp} {assign body : Code} {f : FuncId} [hbf : Body P f] {ca : List Value} {enc : α → List Value} {ok : List α → α → Prop} {fin : List α → Prop} {A B : List Assn} {K K' : Assn}
    (it : IterK P f ca enc ok fin A K K') (C : List α → Assn) (Cr : Assn) (Cx : Nat → Assn)
    (hg : evalE env g = some (.func (.func f) #[] ca.toArray)) (hps : ps.all (Nat.blt · N) = true) (hlen : ∀ x, (enc x).length = ps.length)
    (hL : Ent L (K :: (A ++ B))) (h0 : Ent (A ++ B) [C []])
    (round : ∀ l pre x, ok pre x → swp P (some l) assign (SThen (fun env' L' => swp P (some l) body (RndQ (C (pre ++ [x])) Cr Cx) N env' L') (fun _ _ _ => False)) N (bindE ps (enc x) env) [C pre])
    (kn : ∀ ys, fin ys → Q .normal env [C ys, K']) (kr : swp P none .ret Q N env [Cr, K']) (kx : ∀ i, swp P none (.exit i) Q N env [Cx i, K']) :
    swp P none (.rangeFunc g ps.toArray assign body) Q N env L := by
  intro E D a w hd hf hh
  refine wpIn_rangeFunc fun fn _ => ?_
  obtain ⟨rec, hr⟩ : ∃ rec : LoopState → Option Code → Loop, rec = fun st pe => { state := st, pending := pe, fn, tmps := a.tmps, params := ps.toArray, assign, body, defers := w.heap.size } := ⟨_, rfl⟩
  have hrec : RecOf rec N env ps assign body := ⟨fn, a.tmps, w.heap.size, ⟨hf.1, hf.2⟩, hr⟩
  have hW1 := (hh.alloc (.deferred (some []))).alloc (.loop (rec .ready none))
  rw [World.size_alloc] at hW1
  have hE := hf.ev _ _ hg
  refine ⟨w.heap.size + 1, [mark w.heap.size], (w.alloc (.deferred (some []))).alloc (.loop (rec .ready none)), { target := .fn (.func f) ca.toArray, args := #[yv (w.heap.size + 1)] }, (w.alloc (.deferred (some []))).alloc (.loop (rec .ready none)), f, #[yv (w.heap.size + 1)] ++ ca.toArray, (w.alloc (.deferred (some []))).alloc (.loop (rec .ready none)),
    by rw [hr]; exact run_enterLoop_outer _ _ _ _ _, ?_, fun _ _ => trivial, ?_, fun hd => (by cases hd), ?_⟩
  · simp only [resolve, hE]
    simp [go_sem, yv]
  · simp [invoke, go_sem, run_callFunc]
  · have hs := it (w.heap.size + 1) (fun pre => star [lp rec (w.heap.size + 1) .ready none, C pre]) (Left rec (w.heap.size + 1) Cr Cx) (star (lp rec (w.heap.size + 1) .ready none :: B))
      (by
        refine (Ent.perm List.perm_append_comm).trans ?_
        refine star_ent.trans ?_
        refine Ent.trans (L2 := lp rec (w.heap.size + 1) .ready none :: [C []]) (Ent.cons ?_) star_close1
        exact (Ent.perm List.perm_append_comm).trans h0)
      (fun pre x hok => ysp_round hrec (hlen x) hps (round _ pre x hok))
    have hE2 : H (E.add (w.heap.size :: D)) ((w.alloc (.deferred (some []))).alloc (.loop (rec .ready none))) (A ++ [star (lp rec (w.heap.size + 1) .ready none :: B), K]) := by
      have b1 : H (E.add (w.heap.size :: D)) ((w.alloc (.deferred (some []))).alloc (.loop (rec .ready none))) (lp rec (w.heap.size + 1) .ready none :: L) := by
        refine ⟨hW1.1, hW1.2.1, hW1.2.2.1, hW1.2.2.2.1, Sat.perm ?_ _ hW1.2.2.2.2⟩
        show ((dfr D ++ E.X) ++ (_ :: one _ _ :: L)).Perm ((one _ _ :: (dfr D ++ E.X)) ++ (_ :: L))
        exact (List.Perm.append_left _ (.swap _ _ _)).trans List.perm_middle
      refine b1.ent ((Ent.cons hL).trans ?_)
      refine Ent.trans (L2 := K :: (star (lp rec (w.heap.size + 1) .ready none :: B) :: A)) ?_ ?_
      · refine Ent.swap.trans (Ent.cons ?_)
        refine Ent.trans ?_ (star_close (K := lp rec (w.heap.size + 1) .ready none :: B) (L := A))
        exact Ent.perm (List.Perm.cons _ List.perm_append_comm)
      · refine Ent.swap.trans ?_
        exact Ent.perm (List.perm_append_comm (l₁ := [_, _]))
    have hc := hs _ _ hE2
    have ha : (yv (w.heap.size + 1) :: ca).toArray = #[yv (w.heap.size + 1)] ++ ca.toArray := by simp
    rw [ha] at hc
    refine fw_calls (hc.mono fun e w3 ⟨v, L', he, hp, h3⟩ => ?_)
    subst he
    have hd2 : Dfs P ({ a with defers := [mark w.heap.size] ++ a.defers } : Act).defers (w.heap.size :: D) := .mark hd _
    have fin2 : ∀ {st : LoopState} {pe : Option Code} {M : List Assn}, st ≠ .busy → H (E.add (w.heap.size :: D)) w3 (lp rec (w.heap.size + 1) st pe :: M) →
        ∃ w4, (Instr.endLoop (w.heap.size + 1)).run P w3 = .ok pe w4 ∧ H (E.add (w.heap.size :: D)) w4 M := by
      intro st pe M hst h4
      rw [hr] at h4
      exact ⟨_, run_endLoop (h4.one_get .here) hst, (h4.loop).ent Ent.drop⟩
    rcases hp with ⟨ys, hy, rfl⟩ | rfl
    · obtain ⟨w4, r4, h4⟩ := fin2 (by decide) (h3.ent (star_ent (L := [K'])))
      exact ⟨none, w4, r4, _, env, _, hd2, ⟨hf.1, hf.2⟩, h4, kn ys hy⟩
    · have h5 : H (E.add (w.heap.size :: D)) w3 [lp rec (w.heap.size + 1) .done (some .ret), Cr, K'] ∨ ∃ i, H (E.add (w.heap.size :: D)) w3 [lp rec (w.heap.size + 1) .done (some (.exit i)), Cx i, K'] := by
        obtain ⟨q1, q2, q3, q4, q5⟩ := h3
        obtain ⟨m1, m2, z1, z2, z3, z4, z5⟩ := Sat.perm (perm_out (.refl _)) _ q5
        have back : ∀ {M1 M2 : Assn}, Sat [M1, M2] m1 → Sat ((E.add (w.heap.size :: D)).X ++ [M1, M2, K']) (fun b => w3.heap[b]?) := fun {M1 M2} z => by
          have s1 : Sat (M1 :: M2 :: ((E.add (w.heap.size :: D)).X ++ [K'])) (fun b => w3.heap[b]?) := star_open ⟨m1, m2, z, z2, z3, z4, z5⟩
          exact Sat.perm ((perm_out (.refl _)).trans (List.Perm.cons _ (perm_out (.refl _)))).symm _ s1
        rcases z1 with z1 | ⟨i, z1⟩
        · exact .inl ⟨q1, q2, q3, q4, back z1⟩
        · exact .inr ⟨i, q1, q2, q3, q4, back z1⟩
      rcases h5 with h5 | ⟨i, h5⟩
      · obtain ⟨w4, r4, h4⟩ := fin2 (by decide) h5
        exact ⟨some .ret, w4, r4, kr E _ _ w4 hd2 ⟨hf.1, hf.2⟩ h4⟩
      · obtain ⟨w4, r4, h4⟩ := fin2 (by decide) h5
        exact ⟨some (.exit i), w4, r4, kx i E _ _ w4 hd2 ⟨hf.1, hf.2⟩ h4⟩
end SX
namespace SX
open Go
section
variable {P : Program} {env : Env} {L : List Assn} {μ : PH}
end
section
variable {P : Program} {env : Env} {L R : List Assn} {μ : PH}
end
end SX
namespace SX
open Go
theorem moreF_le (keep : List Int) (k : Nat) (f : Fl) (h : f.safe ≤ f.bytes.length) : f.safe + moreF keep k f ≤ f.bytes.length := by
  unfold moreF
  split
  · omega
  · omega
theorem cutF_idem (keep : List Int) (k : Nat) (f : Fl) (h : f.safe ≤ f.bytes.length) : cutF keep k (cutF keep k f) = cutF keep k f := by
  have h1 := moreF_le keep k f h
  have h2 : moreF keep k (cutF keep k f) = 0 := by
    have hl : (cutF keep k f).bytes.length = (cutF keep k f).safe := by
      show (f.bytes.take (f.safe + moreF keep k f)).length = f.safe + moreF keep k f
      rw [List.length_take, Nat.min_eq_left h1]
    unfold moreF
    split
    · rfl
    · rw [hl]; omega
  have h3 : cutF keep k (cutF keep k f) = ⟨(cutF keep k f).bytes.take ((cutF keep k f).safe + 0), (cutF keep k f).safe + 0⟩ := by
    show (⟨(cutF keep k f).bytes.take ((cutF keep k f).safe + moreF keep k (cutF keep k f)), (cutF keep k f).safe + moreF keep k (cutF keep k f)⟩ : Fl) = _
    rw [h2]
  rw [h3]
  show (⟨(f.bytes.take (f.safe + moreF keep k f)).take (f.safe + moreF keep k f + 0), f.safe + moreF keep k f + 0⟩ : Fl) = _
  rw [Nat.add_zero, List.take_take, Nat.min_self]; rfl
/-- the files behind a crash, as far as the names are done -/
structure Crs (l : List Nm) (keep : List Int) (dn : List ByteArray) (rs rs' : List Rc) : Prop where
  len : rs'.length = rs.length
  at_ : ∀ (k : Nat) (r : Rc), rs[k]? = some r → ∃ r', rs'[k]? = some r' ∧ r'.a = r.a ∧ ((∃ s ∈ dn, findN l s = some k) → r'.f = cutF keep k r.f) ∧ ((¬ ∃ s ∈ dn, findN l s = some k) → r'.f = r.f)
theorem Crs.start (l : List Nm) (keep : List Int) (rs : List Rc) : Crs l keep [] rs rs := ⟨rfl, fun _ r h => ⟨r, h, rfl, (fun ⟨_, h, _⟩ => by cases h), fun _ => rfl⟩⟩
theorem Crs.adr {l : List Nm} {keep : List Int} {dn : List ByteArray} {rs rs' : List Rc} (h : Crs l keep dn rs rs') (k : Nat) : adr rs' k = adr rs k := by
  by_cases hk : k < rs.length
  · obtain ⟨r', h1, h2, _⟩ := h.at_ k _ (List.getElem?_eq_getElem hk)
    rw [adr_at h1, adr_at (List.getElem?_eq_getElem hk), h2]
  · unfold SX.adr
    rw [List.getElem?_eq_none (show rs'.length ≤ k by rw [h.len]; omega), List.getElem?_eq_none (show rs.length ≤ k by omega)]
/-- the file that comes next: what it was, what it is -/
theorem Crs.now {l : List Nm} {keep : List Int} {dn : List ByteArray} {rs rs' : List Rc} (h : Crs l keep dn rs rs') {k : Nat} {r : Rc} (hr : rs[k]? = some r) (hs : r.f.safe ≤ r.f.bytes.length) :
    ∃ r', rs'[k]? = some r' ∧ r'.a = r.a ∧ cutF keep k r'.f = cutF keep k r.f ∧ r'.f.safe ≤ r'.f.bytes.length ∧ r'.f.bytes.length ≤ r.f.bytes.length := by
  obtain ⟨r', h1, h2, h3, h4⟩ := h.at_ k r hr
  by_cases hd : ∃ s ∈ dn, findN l s = some k
  · refine ⟨r', h1, h2, ?_, ?_, ?_⟩
    · rw [h3 hd, cutF_idem _ _ _ hs]
    · rw [h3 hd]
      show r.f.safe + moreF keep k r.f ≤ (r.f.bytes.take _).length
      rw [List.length_take, Nat.min_eq_left (moreF_le keep k _ hs)]; exact Nat.le_refl _
    · rw [h3 hd]
      show (r.f.bytes.take _).length ≤ _
      rw [List.length_take]; omega
  · exact ⟨r', h1, h2, by rw [h4 hd], by rw [h4 hd]; exact hs, by rw [h4 hd]; exact Nat.le_refl _⟩
theorem Crs.step {l : List Nm} {keep : List Int} {dn : List ByteArray} {rs rs' : List Rc} (h : Crs l keep dn rs rs') {s : ByteArray} {k : Nat} {r r2 : Rc} (hf : findN l s = some k) (hr : rs[k]? = some r) (ha : r2.a = r.a) (h2 : r2.f = cutF keep k r.f) :
    Crs l keep (dn ++ [s]) rs (rs'.set k r2) := by
  refine ⟨by rw [List.length_set]; exact h.len, fun j q hq => ?_⟩
  have hmem : (∃ z ∈ dn ++ [s], findN l z = some j) ↔ (∃ z ∈ dn, findN l z = some j) ∨ k = j := by
    constructor
    · rintro ⟨z, hz, e⟩
      rcases List.mem_append.1 hz with hz | hz
      · exact .inl ⟨z, hz, e⟩
      · rw [List.mem_singleton.1 hz, hf] at e; exact .inr (Option.some.inj e)
    · rintro (⟨z, hz, e⟩ | e)
      · exact ⟨z, List.mem_append_left _ hz, e⟩
      · exact ⟨s, by simp, by rw [hf, e]⟩
  by_cases e : k = j
  · subst e
    have hlt : k < rs'.length := by rw [h.len]; exact (List.getElem?_eq_some_iff.1 hr).1
    rw [hr] at hq
    obtain rfl := Option.some.inj hq
    exact ⟨r2, List.getElem?_set_self hlt, ha, fun _ => h2, fun hn => absurd (hmem.2 (.inr rfl)) hn⟩
  · obtain ⟨q', h1, h3, h4, h5⟩ := h.at_ j q hq
    refine ⟨q', by rw [List.getElem?_set_ne e]; exact h1, h3, fun hm => h4 ?_, fun hm => h5 fun hn => hm (hmem.2 (.inl hn))⟩
    exact (hmem.1 hm).resolve_right e
/-- names behind some of the changes -/
abbrev namesK (d : Dk) (i : Nat) : List Nm := (d.pend.take i).foldl chgN d.safe
theorem namesK_ok {d : Dk} (h : d.Ok) (i : Nat) : NmOk d.files.length (namesK d i) := h.safe.chgs fun c hc => h.pend c (List.mem_of_mem_take hc)
theorem namesAt_eq (d : Dk) (n : Int) : namesAt d n = namesK d (min (max n 0).toNat d.pend.length) := rfl
end SX
namespace SX
theorem Crs.perm {l : List Nm} {keep : List Int} {dn dn' : List ByteArray} {rs rs' : List Rc} (h : Crs l keep dn rs rs') (hp : dn.Perm dn') : Crs l keep dn' rs rs' :=
  ⟨h.len, fun k r hr => let ⟨r', h1, h2, h3, h4⟩ := h.at_ k r hr; ⟨r', h1, h2, (fun ⟨s, hs, e⟩ => h3 ⟨s, hp.mem_iff.2 hs, e⟩), fun hn => h4 fun ⟨s, hs, e⟩ => hn ⟨s, hp.mem_iff.1 hs, e⟩⟩⟩
end SX
namespace SX
open Go
/-- how much there is of files and changes -/
def Within (m : Nat) (d : Dk) : Prop := d.files.length ≤ m ∧ d.pend.length ≤ m
theorem Within.mono {m n : Nat} {d : Dk} (h : Within m d) (k : m ≤ n) : Within n d := ⟨Nat.le_trans h.1 k, Nat.le_trans h.2 k⟩
theorem onFile_P {P : Dk → Prop} {d : Dk} {s : ByteArray} {f : Nat → Dk × Int} (h0 : P d) (h : ∀ k, findN d.seen s = some k → P (f k).1) : P (onFile d s f).1 := by
  unfold onFile
  split
  · exact h0
  · cases hf : findN d.seen s with
    | none => exact h0
    | some k => exact h k hf
theorem atStep_P {P : Dk → Prop} {d : Dk} {f : Dk → Dk} (h0 : P { d with falls := 0, off := true }) (h1 : P (f { d with falls := if 0 < d.falls then d.falls - 1 else d.falls })) : P (atStep d f).1 := by
  unfold atStep stepD
  by_cases a : 0 < d.falls
  · rw [if_pos a] at h1 ⊢
    by_cases b : d.falls = 1
    · rw [if_pos b]; exact h0
    · rw [if_neg b]; exact h1
  · rw [if_neg a] at h1 ⊢; exact h1
theorem Ok_fa {d : Dk} (h : d.Ok) {fl : Int} (hf : 0 ≤ fl ∧ fl ≤ 9223372036854775807) (off : Bool) : Dk.Ok { d with falls := fl, off := off } := ⟨h.q, h.fl, h.safe, h.pend, h.seen, h.hist, hf⟩
theorem Ok_fa0 {d : Dk} (h : d.Ok) : Dk.Ok { d with falls := 0, off := true } := Ok_fa h (by omega) true
theorem Ok_fa1 {d : Dk} (h : d.Ok) : Dk.Ok { d with falls := if 0 < d.falls then d.falls - 1 else d.falls } := Ok_fa h (by have := h.falls; split <;> omega) d.off
theorem newD_ok {q : Int} (h : 0 ≤ q ∧ q ≤ 16777216) : (newD q).Ok :=
  ⟨h, (fun f hf => by cases hf), ⟨List.nodup_nil, fun x hx => by cases hx⟩, (fun c hc => by cases hc), rfl, (fun i => by simp [newD]), by show (0 : Int) ≤ 0 ∧ (0 : Int) ≤ 9223372036854775807; omega⟩
theorem setF_ok {d : Dk} (h : d.Ok) {k : Nat} {f : Fl} (h1 : f.bytes.length ≤ mostF) (h2 : f.safe ≤ f.bytes.length) : (d.setF k f).Ok := by
  have e : (d.setF k f).files.length = d.files.length := by unfold Dk.setF; rw [List.length_set]
  refine ⟨h.q, fun g hg => ?_, ?_, ?_, h.seen, h.hist, h.falls⟩
  · rcases List.mem_or_eq_of_mem_set hg with hg | rfl
    · exact h.fl g hg
    · exact ⟨h1, h2⟩
  · rw [e]; exact h.safe
  · rw [e]; exact h.pend
theorem newF_ok {d : Dk} (h : d.Ok) : Dk.Ok { d with files := d.files ++ [⟨[], 0⟩] } := by
  refine ⟨h.q, fun f hf => ?_, h.safe.mono (by rw [List.length_append]; omega), fun c hc k => ?_, h.seen, h.hist, h.falls⟩
  · rcases List.mem_append.1 hf with hf | hf
    · exact h.fl f hf
    · rw [List.mem_singleton.1 hf]; exact ⟨Nat.zero_le _, Nat.le_refl _⟩
  · obtain ⟨k1, k2⟩ := h.pend c hc k
    exact ⟨k1, by rw [List.length_append]; omega⟩
theorem chg_ok {d : Dk} (h : d.Ok) {c : Cg} (hc : strEq c.come nos = false → goodN c.come = true ∧ c.file < d.files.length) (hl : (chgN d.seen c).length ≤ 64) : (d.chg c).Ok := by
  refine ⟨h.q, h.fl, h.safe, fun e he k => ?_, ?_, fun i => ?_, h.falls⟩
  · rcases List.mem_append.1 he with he | he
    · exact h.pend e he k
    · rw [List.mem_singleton.1 he] at k ⊢; exact hc k
  · show chgN d.seen c = (d.pend ++ [c]).foldl chgN d.safe
    rw [List.foldl_append, ← h.seen]; rfl
  · show (((d.pend ++ [c]).take i).foldl chgN d.safe).length ≤ 64
    by_cases hi : i ≤ d.pend.length
    · rw [List.take_append_of_le_length hi]; exact h.hist i
    · rw [List.take_of_length_le (by rw [List.length_append]; simp; omega), List.foldl_append, ← h.seen]; exact hl
theorem filter_gone {l : List Nm} {s : ByteArray} {k : Nat} (hf : findN l s = some k) {c : Cg} (hc : c.gone = s ∨ c.come = s) : (l.filter (keepN c)).length + 1 ≤ l.length := by
  have : (l.filter (keepN c)).length < l.length := List.length_filter_lt_length_iff_exists.2 ⟨_, findN_mem hf, by
    unfold keepN
    rcases hc with hc | hc
    · rw [hc, strEq_refl]; simp
    · rw [hc, strEq_refl]; simp⟩
  omega
theorem chgN_le (l : List Nm) (c : Cg) : (chgN l c).length ≤ (l.filter (keepN c)).length + 1 := by
  unfold chgN
  rw [List.length_append]
  split <;> simp
theorem fl_le_used {d : Dk} {s : ByteArray} {k : Nat} (h : findN d.seen s = some k) : (d.fl k).bytes.length ≤ d.used := mem_le_sum (fun x : Nm => (d.fl x.2).bytes.length) d.seen _ (findN_mem h)
theorem createD_ok {d : Dk} (h : d.Ok) (s : ByteArray) : (createD d s).1.Ok := by
  unfold createD
  split
  · exact h
  · split
    · exact h
    · next hg =>
      split
      · exact h
      · next hn =>
        refine atStep_P (Ok_fa0 h) ?_
        refine chg_ok (newF_ok (Ok_fa1 h)) (fun _ => ⟨by simpa using hg, by show d.files.length < (d.files ++ [_]).length; rw [List.length_append]; simp⟩) ?_
        have h1 := chgN_le d.seen ⟨nos, s, d.files.length⟩
        have h2 := h.seenLe
        show (chgN d.seen ⟨nos, s, d.files.length⟩).length ≤ 64
        cases hf : findN d.seen s with
        | none =>
          have h3 : ¬ 64 ≤ d.seen.length := fun h3 => hn ⟨by rw [hf]; rfl, h3⟩
          have h4 := List.length_filter_le (keepN ⟨nos, s, d.files.length⟩) d.seen
          omega
        | some k => have := filter_gone hf (c := ⟨nos, s, d.files.length⟩) (.inr rfl); omega
theorem appendD_ok {d : Dk} (h : d.Ok) (s : ByteArray) (t : List UInt8) : (appendD d s t).1.Ok := by
  refine onFile_P h fun k hk => ?_
  split
  · exact h
  · next hn =>
    refine atStep_P (Ok_fa0 h) ?_
    have h1 := Dk.fl_ok h k
    have h2 := fl_le_used hk
    have hq := h.q
    refine setF_ok (Ok_fa1 h) ?_ ?_
    · show ((d.fl k).bytes ++ t).length ≤ mostF
      rw [List.length_append]
      simp only [mostF] at *
      by_cases h0 : 0 < t.length
      · have : ¬ d.quota < (d.used : Int) + t.length := fun e => hn ⟨h0, e⟩
        omega
      · omega
    · show (d.fl k).safe ≤ ((d.fl k).bytes ++ t).length
      rw [List.length_append]; omega
theorem cutD_ok {d : Dk} (h : d.Ok) (s : ByteArray) (n : Int) : (cutD d s n).1.Ok := by
  refine onFile_P h fun k hk => ?_
  split
  · exact h
  · next hn =>
    refine atStep_P (Ok_fa0 h) ?_
    have h1 := Dk.fl_ok h k
    refine setF_ok (Ok_fa1 h) ?_ ?_
    · show ((d.fl k).bytes.take n.toNat).length ≤ mostF
      rw [List.length_take]; omega
    · show min (d.fl k).safe n.toNat ≤ ((d.fl k).bytes.take n.toNat).length
      rw [List.length_take]; omega
theorem syncD_ok {d : Dk} (h : d.Ok) (s : ByteArray) : (syncD d s).1.Ok := by
  refine onFile_P h fun k hk => ?_
  refine atStep_P (Ok_fa0 h) ?_
  exact setF_ok (Ok_fa1 h) (Dk.fl_ok h k).1 (Nat.le_refl _)
theorem syncNamesD_ok {d : Dk} (h : d.Ok) : (syncNamesD d).1.Ok := by
  unfold syncNamesD
  split
  · exact h
  · refine atStep_P (Ok_fa0 h) ?_
    have h1 := Ok_fa1 h
    exact ⟨h1.q, h1.fl, h.seenOk, (fun c hc => by cases hc), rfl, (fun i => by rw [List.take_nil]; exact h.seenLe), h1.falls⟩
theorem crashD_ok {d : Dk} (h : d.Ok) (n : Int) (keep : List Int) : (crashD d n keep).Ok := by
  have hl : (crashD d n keep).files.length = d.files.length := by unfold crashD; simp
  have hno : NmOk d.files.length (namesAt d n) := by rw [namesAt_eq]; exact namesK_ok h _
  refine ⟨h.q, fun f hf => ?_, by rw [hl]; exact hno, (fun c hc => by cases hc), rfl, (fun i => ?_), ⟨Int.le_refl _, show (0 : Int) ≤ 9223372036854775807 by omega⟩⟩
  · obtain ⟨k, _, rfl⟩ := List.mem_map.1 hf
    split
    · have h1 := Dk.fl_ok h k
      have h2 := moreF_le keep k (d.fl k) h1.2
      show ((d.fl k).bytes.take ((d.fl k).safe + moreF keep k (d.fl k))).length ≤ mostF ∧ (d.fl k).safe + moreF keep k (d.fl k) ≤ ((d.fl k).bytes.take ((d.fl k).safe + moreF keep k (d.fl k))).length
      rw [List.length_take]; omega
    · exact ⟨Nat.zero_le _, Nat.le_refl _⟩
  · show ((([] : List Cg).take i).foldl chgN (namesAt d n)).length ≤ 64
    rw [List.take_nil]; exact h.hist _
/-! ## how much -/
theorem set_in {d : Dk} {m : Nat} (h : Within m d) (k : Nat) (f : Fl) : Within m (d.setF k f) := ⟨by unfold Dk.setF; rw [List.length_set]; exact h.1, h.2⟩
theorem appendD_in {d : Dk} {m : Nat} (h : Within m d) (s : ByteArray) (t : List UInt8) : Within m (appendD d s t).1 := by
  refine onFile_P h fun k hk => ?_
  split
  · exact h
  · exact atStep_P (P := Within m) h (set_in h _ _)
end SX
namespace SX
open Go
section
variable {P : Program} {env : Env}
end
/-- the settings -/
structure Sett where
  ha : Int
  pe : Int
  mo : Int
  seed : W32
def Sett.bad (s : Sett) : Prop := s.ha < 1 ∨ 16 < s.ha ∨ s.pe < 1 ∨ 64 < s.pe ∨ s.mo < 0 ∨ 512 < s.mo
instance (s : Sett) : Decidable s.bad := by unfold Sett.bad; infer_instance
end SX
namespace SX
open Go
section
variable {P : Program} {env : Env} {L L' : List Assn}
theorem own_cap2 {e n : Nat} {v : Value} {l : Nat} {xs : List Value} {m : PH} (h : Sat (own e n v l xs :: L) m) : ∃ A c, v = .slice A l c ∧ l ≤ c ∧ c ≤ maxLen ∧ (A = none → c = 0) ∧ ∀ a, A = some a → ∃ b, a = ⟨b, 0, none⟩ := by
  obtain ⟨m1, _, ⟨_, ho⟩, _⟩ := h
  rcases ho with ⟨rfl, rfl⟩ | ⟨g, cap, cur, rfl, _, h3, h4, _⟩
  · exact ⟨_, _, rfl, Nat.le_refl _, Nat.zero_le _, (fun _ => rfl), fun a h => by cases h⟩
  · exact ⟨_, _, rfl, h3, h4, (fun h => by cases h), fun a h => ⟨g, (Option.some.inj h).symm⟩⟩
theorem own_cell {E : Ctx} {w : World} {e n b c l i : Nat} {xs : List Value} {v : Value} (hh : H E w L) (hL : Take (own e n (.slice (some ⟨b, 0, none⟩) l c) l xs) L L') (hv : xs[i]? = some v) : w.cell? ⟨b, i, none⟩ = some v := by
  obtain ⟨m1, m2, ⟨_, ho⟩, _, _, s1, _⟩ := (hh.ent (Ent.perm hL.perm)).sat
  rcases ho with ⟨h0, _⟩ | ⟨g, cap, cur, h1, hg, _, _, _, htk⟩
  · cases h0
  · obtain ⟨h2, _, _⟩ := Value.slice.inj h1
    obtain ⟨rfl, _, _⟩ := Addr.mk.inj (Option.some.inj h2)
    have hw : w.heap[b]? = some (.cells cur e (0, 0)) := s1 _ _ hg
    rw [← htk, List.getElem?_take] at hv
    split at hv
    · rw [cell_of_row w b i _ e (0, 0) hw, ← Array.getElem?_toList]; exact hv
    · cases hv
/-- an element of a slice of the call's own -/
theorem rd_own {t : TypeId} [ht : TOne P t] {x : Operand} {e n b c l i : Nat} {xs : List Value} {v : Value} (hx : evalE env x = some (.pointer (some ⟨b, i, none⟩))) (hL : Take (own e n (.slice (some ⟨b, 0, none⟩) l c) l xs) L L') (hv : xs[i]? = some v) : Rd P env L (.load t x) v :=
  rd_of_ld hx fun {E w} hh => by
    have ha := run_isAgg ht.und w
    simp [loadVar, ha, own_cell hh hL hv]
theorem rd_ownA {t k : Nat} [ht : TAgg P t k] {x : Operand} {e n b c l i : Nat} {xs vs : List Value} (hx : evalE env x = some (.pointer (some ⟨b, i, none⟩))) (hL : Take (own e n (.slice (some ⟨b, 0, none⟩) l c) l xs) L L') (hl : vs.length = k) (hv : ∀ (j : Nat) (v : Value), vs[j]? = some v → xs[i + j]? = some v) : Rd P env L (.load t x) (.agg vs.toArray) :=
  rd_of_ld hx fun {E w} hh => by
    have ha := run_isAgg ht.und w
    have hr := run_loadCells_list (P := P) w ⟨b, i, none⟩ vs (fun j v hj => by rw [addr_add]; exact own_cell hh hL (hv j v hj))
    rw [hl] at hr
    simp [loadVar, ha, run_sizeOf ht.inf, hr]
theorem set_app {xs ex : List Value} {i : Nat} {v : Value} (h : i < xs.length) : (xs ++ ex).set i v = xs.set i v ++ ex := by rw [List.set_append_left _ _ h]
/-- an element of a slice of the call's own is written -/
theorem ef_store_own {t : TypeId} [ht : TOne P t] {x y : Operand} {e n b c l i : Nat} {xs : List Value} {v : Value} {R : List Assn} (hx : evalE env x = some (.pointer (some ⟨b, i, none⟩))) (hy : evalE env y = some v) (hL : Split L [own e n (.slice (some ⟨b, 0, none⟩) l c) l xs] R) (hi : i < xs.length) (hv : v.oneCell' = true) :
    Ef P env L (.store t x y) (fun k => k undef (own e n (.slice (some ⟨b, 0, none⟩) l c) l (xs.set i v) :: R)) := by
  intro ro dst tt pos af g N E a w next Q k hf hh hk hn
  have h2 := hh.ent hL.ent
  obtain ⟨h21, h22, h23, h24, h25⟩ := h2
  have k6 : Sat (own e n (.slice (some ⟨b, 0, none⟩) l c) l xs :: (E.X ++ R)) (fun b => w.heap[b]?) := Sat.perm (perm_out (.refl _)) _ h25
  rcases own_open k6 with ⟨h0, _⟩ | ⟨b', cap, ex, h1, h3, h4, h5, h6, h7⟩
  · cases h0
  · obtain ⟨h8, _, rfl⟩ := Value.slice.inj h1
    obtain ⟨rfl, _, _⟩ := Addr.mk.inj (Option.some.inj h8)
    have h9 : H E w (blk b e (xs ++ ex) :: R) := ⟨h21, h22, h23, h24, Sat.perm (perm_out (.refl _)).symm _ h7⟩
    refine ef_storeP (P := P) (t := t) (L := blk b e (xs ++ ex) :: R) (i := i) hx hy hv (by rw [List.length_append]; omega) ro dst tt pos af g N E a w next Q (fun u L' => u = undef ∧ Ent L' (own e n (.slice (some ⟨b, 0, none⟩) l c) l (xs.set i v) :: R)) hf h9 ⟨rfl, ?_⟩ ?_
    · rw [set_app hi]
      exact own_close (by rw [List.length_set]; exact h5) h6 h3 h4
    · rintro u w' L' ⟨rfl, he⟩ hh'
      exact hn _ _ _ hk (hh'.ent he)
theorem over_app {xs ex vs : List Value} {i : Nat} (h : i + vs.length ≤ xs.length) : over (xs ++ ex) vs i = over xs vs i ++ ex := by
  unfold over
  rw [List.take_append_of_le_length (by omega), List.drop_append_of_le_length h]; simp only [List.append_assoc]
theorem over_len {xs vs : List Value} {i : Nat} (h : i + vs.length ≤ xs.length) : (over xs vs i).length = xs.length := by
  unfold over; rw [List.length_append, List.length_append, List.length_take, List.length_drop]; omega
theorem ef_store_ownA {t k : Nat} [ht : TAgg P t k] {x y : Operand} {e n b c l i : Nat} {xs vs : List Value} {R : List Assn} (hx : evalE env x = some (.pointer (some ⟨b, i, none⟩))) (hy : evalE env y = some (.agg vs.toArray)) (hL : Split L [own e n (.slice (some ⟨b, 0, none⟩) l c) l xs] R) (hi : i + vs.length ≤ xs.length) (hl : vs.length = k) (hv : vs.all Value.oneCell' = true) :
    Ef P env L (.store t x y) (fun k => k undef (own e n (.slice (some ⟨b, 0, none⟩) l c) l (over xs vs i) :: R)) := by
  intro ro dst tt pos af g N E a w next Q k hf hh hk hn
  have h2 := hh.ent hL.ent
  obtain ⟨h21, h22, h23, h24, h25⟩ := h2
  have k6 : Sat (own e n (.slice (some ⟨b, 0, none⟩) l c) l xs :: (E.X ++ R)) (fun b => w.heap[b]?) := Sat.perm (perm_out (.refl _)) _ h25
  rcases own_open k6 with ⟨h0, _⟩ | ⟨b', cap, ex, h1, h3, h4, h5, h6, h7⟩
  · cases h0
  · obtain ⟨h8, _, rfl⟩ := Value.slice.inj h1
    obtain ⟨rfl, _, _⟩ := Addr.mk.inj (Option.some.inj h8)
    have h9 : H E w (blk b e (xs ++ ex) :: R) := ⟨h21, h22, h23, h24, Sat.perm (perm_out (.refl _)).symm _ h7⟩
    refine ef_storeAP (P := P) (t := t) (L := blk b e (xs ++ ex) :: R) (i := i) hx hy hv hl (by rw [List.length_append]; omega) ro dst tt pos af g N E a w next Q (fun u L' => u = undef ∧ Ent L' (own e n (.slice (some ⟨b, 0, none⟩) l c) l (over xs vs i) :: R)) hf h9 ⟨rfl, ?_⟩ ?_
    · rw [over_app hi]
      exact own_close (by rw [over_len hi]; exact h5) h6 h3 h4
    · rintro u w' L' ⟨rfl, he⟩ hh'
      exact hn _ _ _ hk (hh'.ent he)
/-- elements laid in cells -/
theorem flat_at {α : Type} {f : α → List Value} {n : Nat} (hf : ∀ a, (f a).length = n) {l : List α} {i : Nat} {a : α} (h : l[i]? = some a) (j : Nat) (v : Value) (hj : (f a)[j]? = some v) : (l.flatMap f)[i * n + j]? = some v := by
  have := flat_get hf l [] i a h j v hj
  rwa [List.append_nil] at this
end
end SX
namespace SX
open Go
/-- a disk of one file under one synced name -/
def one1 (q : Int) (s : ByteArray) (f : Fl) (fa : Int) (off : Bool) : Dk := ⟨q, [f], [(s, 0)], [(s, 0)], [], fa, off⟩
theorem one_find (s : ByteArray) : findN [(s, 0)] s = some 0 := by unfold findN; rw [if_pos (strEq_refl _)]
theorem one_used (q : Int) (s : ByteArray) (f : Fl) (fa : Int) (off : Bool) : (one1 q s f fa off).used = f.bytes.length := by
  show ([(s, 0)].map fun x : Nm => ((one1 q s f fa off).fl x.2).bytes.length).sum = _
  simp only [List.map_cons, List.map_nil, List.sum_cons, List.sum_nil]; rfl
theorem atStep1 {d : Dk} (h : d.falls = 1) (f : Dk → Dk) : atStep d f = ({ d with falls := 0, off := true }, 8) := by
  have e : stepD d = ({ d with falls := 0, off := true }, 8) := by unfold stepD; rw [if_pos (show 0 < d.falls by omega), if_pos h]
  unfold atStep; rw [e]; rfl
theorem atStepN {d : Dk} (h : d.falls ≠ 1) (f : Dk → Dk) : atStep d f = (f { d with falls := if 0 < d.falls then d.falls - 1 else d.falls }, 0) := by
  have e : stepD d = (({ d with falls := if 0 < d.falls then d.falls - 1 else d.falls } : Dk), (0 : Int)) := by
    unfold stepD
    by_cases h0 : 0 < d.falls
    · rw [if_pos h0, if_neg h, if_pos h0]
    · rw [if_neg h0, if_neg h0]
  unfold atStep; rw [e]; rfl
theorem one_append {q : Int} {s : ByteArray} {f : Fl} {fa : Int} {t : List UInt8} (hq : (f.bytes.length : Int) + t.length ≤ q) :
    appendD (one1 q s f fa false) s t = if fa = 1 then (one1 q s f 0 true, 8) else (one1 q s ⟨f.bytes ++ t, f.safe⟩ (if 0 < fa then fa - 1 else fa) false, 0) := by
  unfold appendD onFile
  have e : findN (one1 q s f fa false).seen s = some 0 := one_find s
  rw [if_neg (show ¬ (one1 q s f fa false).off = true by show ¬ false = true; decide), e]
  simp only
  rw [if_neg (show ¬ (0 < t.length ∧ (one1 q s f fa false).quota < ((one1 q s f fa false).used : Int) + t.length) by
    rw [one_used]; rintro ⟨_, h⟩; have h : q < (f.bytes.length : Int) + t.length := h; omega)]
  by_cases h1 : fa = 1
  · rw [if_pos h1, atStep1 (show (one1 q s f fa false).falls = 1 from h1)]; rfl
  · rw [if_neg h1, atStepN (show (one1 q s f fa false).falls ≠ 1 from h1)]; rfl
theorem one_sync (q : Int) (s : ByteArray) (f : Fl) : syncD (one1 q s f 0 false) s = (one1 q s ⟨f.bytes, f.bytes.length⟩ 0 false, 0) := by
  unfold syncD onFile
  have e : findN (one1 q s f 0 false).seen s = some 0 := one_find s
  rw [if_neg (show ¬ (one1 q s f 0 false).off = true by show ¬ false = true; decide), e]; rfl
end SX
namespace SX
open Go
end SX
namespace SX
open Go Go.ChangeShapes Go.WideShapes Go.ChangeAt Go.RowKit
variable {P : Program} {H0 : Type} {enc : TypeId × Value → H0} {W : World}
end SX
namespace SX
open Go Go.ChangeShapes Go.WideShapes Go.ChangeAt Go.RowKit
variable {P : Program} {W : World} {H0 : Type} {enc : TypeId × Value → H0}
/-- a call: kind, name, to, text, number, and a fate (a number, a list) -/
structure OpA where
  kind : Int
  name : ByteArray
  to : ByteArray
  text : ByteArray
  n : Int
  fn : Int
  kv : Value
  keep : List Int
instance : Inhabited OpA := ⟨⟨0, ⟨#[]⟩, ⟨#[]⟩, ⟨#[]⟩, 0, 0, .bool false, []⟩⟩
structure OpOk (μ : PH) (o : OpA) : Prop where
  kind : 0 ≤ o.kind ∧ o.kind ≤ 255
  n : -9223372036854775808 ≤ o.n ∧ o.n ≤ 9223372036854775807
  keep : Row μ o.kv 1 o.keep.length (o.keep.flatMap (icsk .i64))
theorem OpOk.le {μ μ' : PH} {o : OpA} (h : OpOk μ o) (k : Le μ μ') : OpOk μ' o := ⟨h.kind, h.n, h.keep.le k⟩
end SX
namespace SX
open Go
def opD (d : Dk) (o : OpA) : Dk :=
  if o.kind % 12 = 0 then (createD d o.name).1 else if o.kind % 12 = 2 then (cutD d o.name o.n).1 else if o.kind % 12 = 3 then (syncD d o.name).1 else
  if o.kind % 12 = 4 then (renameD d o.name o.to).1 else if o.kind % 12 = 5 then (removeD d o.name).1 else if o.kind % 12 = 6 then (syncNamesD d).1 else
  if o.kind % 12 = 7 then fallD d o.n else if o.kind % 12 = 8 then crashD d o.fn o.keep else if o.kind % 12 = 9 then (damageD d o.name o.n o.text.data.toList).1 else
  if o.kind % 12 = 10 then d else (appendD d o.name o.text.data.toList).1
theorem opD_P {P : Dk → Prop} {d : Dk} {o : OpA} (h0 : P (createD d o.name).1) (h2 : P (cutD d o.name o.n).1) (h3 : P (syncD d o.name).1) (h4 : o.kind % 12 = 4 → P (renameD d o.name o.to).1) (h5 : P (removeD d o.name).1) (h6 : P (syncNamesD d).1)
    (h7 : P (fallD d o.n)) (h8 : P (crashD d o.fn o.keep)) (h9 : P (damageD d o.name o.n o.text.data.toList).1) (h10 : P d) (h11 : P (appendD d o.name o.text.data.toList).1) : P (opD d o) := by
  unfold opD
  repeat' split
  all_goals first | assumption | exact h4 (by assumption)
/-! ## a name that stays -/
/-- a list of names has s with k, and k under no other name -/
def Has (s : ByteArray) (k : Nat) (l : List Nm) : Prop := (s, k) ∈ l ∧ ∀ x ∈ l, x.2 = k → x.1 = s
/-- a change that has nothing to do with s and k -/
def Far (s : ByteArray) (k : Nat) (c : Cg) : Prop := c.gone ≠ s ∧ c.come ≠ s ∧ (strEq c.come nos = true ∨ c.file ≠ k)
theorem Has.chg {s : ByteArray} {k : Nat} {l : List Nm} (h : Has s k l) {c : Cg} (hc : Far s k c) : Has s k (chgN l c) := by
  unfold chgN
  refine ⟨List.mem_append_left _ (List.mem_filter.2 ⟨h.1, ?_⟩), fun x hx e => ?_⟩
  · unfold keepN
    rw [show strEq s c.gone = false from by rw [Bool.eq_false_iff]; exact fun q => hc.1 (strEq_iff.1 q).symm,
      show strEq s c.come = false from by rw [Bool.eq_false_iff]; exact fun q => hc.2.1 (strEq_iff.1 q).symm]
    rfl
  · rcases List.mem_append.1 hx with hx | hx
    · exact h.2 x (List.mem_filter.1 hx).1 e
    · split at hx
      · cases hx
      · rename_i hne
        rw [List.mem_singleton.1 hx] at e
        rcases hc.2.2 with q | q
        · exact absurd q hne
        · exact absurd e q
theorem Has.chgs {s : ByteArray} {k : Nat} : ∀ {cs : List Cg} {l : List Nm}, Has s k l → (∀ c ∈ cs, Far s k c) → Has s k (cs.foldl chgN l)
  | [], _, h, _ => h
  | c :: _, _, h, hc => (h.chg (hc c (List.mem_cons_self ..))).chgs fun e he => hc e (List.mem_cons_of_mem _ he)
structure Stay (s : ByteArray) (k : Nat) (t : List UInt8) (d : Dk) : Prop where
  lt : k < d.files.length
  fl : d.fl k = ⟨t, t.length⟩
  safe : Has s k d.safe
  seen : Has s k d.seen
  pend : ∀ c ∈ d.pend, Far s k c
section
variable {s : ByteArray} {k : Nat} {t : List UInt8} {d : Dk}
theorem Stay.fa (h : Stay s k t d) (fl : Int) (off : Bool) : Stay s k t { d with falls := fl, off := off } := ⟨h.lt, h.fl, h.safe, h.seen, h.pend⟩
theorem Stay.set (h : Stay s k t d) {j : Nat} (hj : j ≠ k) (f : Fl) : Stay s k t (d.setF j f) := by
  refine ⟨?_, ?_, h.safe, h.seen, h.pend⟩
  · unfold Dk.setF; rw [List.length_set]; exact h.lt
  · unfold Dk.setF Dk.fl; rw [List.getElem?_set_ne hj]; exact h.fl
theorem Stay.chg (h : Stay s k t d) {c : Cg} (hc : Far s k c) : Stay s k t (d.chg c) :=
  ⟨h.lt, h.fl, h.safe, h.seen.chg hc, fun e he => by
    rcases List.mem_append.1 he with he | he
    · exact h.pend e he
    · rw [List.mem_singleton.1 he]; exact hc⟩
theorem Stay.newF (h : Stay s k t d) : Stay s k t { d with files := d.files ++ [⟨[], 0⟩] } := by
  refine ⟨?_, ?_, h.safe, h.seen, h.pend⟩
  · show k < (d.files ++ [_]).length
    rw [List.length_append]; have := h.lt; omega
  · have e := h.fl
    unfold Dk.fl at e ⊢
    show ((d.files ++ [_])[k]?).getD _ = _
    rw [List.getElem?_append_left h.lt]; exact e
theorem Stay.atStep (h : Stay s k t d) {f : Dk → Dk} (hf : ∀ fl, Stay s k t (f { d with falls := fl })) : Stay s k t (atStep d f).1 :=
  atStep_P (h.fa _ _) (hf _)
theorem Stay.other (h : Stay s k t d) {n : ByteArray} (hn : n ≠ s) {j : Nat} (hj : findN d.seen n = some j) : j ≠ k := fun e => hn (h.seen.2 _ (findN_mem hj) e)
theorem Stay.create (h : Stay s k t d) {n : ByteArray} (hn : n ≠ s) (hs : s ≠ nos) : Stay s k t (createD d n).1 := by
  unfold createD
  split
  · exact h
  · split
    · exact h
    · split
      · exact h
      · refine h.atStep fun fl => ?_
        exact ((h.fa fl d.off).newF).chg ⟨Ne.symm hs, hn, .inr (by have := h.lt; show d.files.length ≠ k; omega)⟩
theorem Stay.append (h : Stay s k t d) {n : ByteArray} (hn : n ≠ s) (x : List UInt8) : Stay s k t (appendD d n x).1 :=
  onFile_P h fun j hj => by
    split
    · exact h
    · exact h.atStep fun fl => (h.fa fl d.off).set (h.other hn hj) _
theorem Stay.cut (h : Stay s k t d) {n : ByteArray} (hn : n ≠ s) (x : Int) : Stay s k t (cutD d n x).1 :=
  onFile_P h fun j hj => by
    split
    · exact h
    · exact h.atStep fun fl => (h.fa fl d.off).set (h.other hn hj) _
theorem Stay.sync (h : Stay s k t d) {n : ByteArray} (hn : n ≠ s) : Stay s k t (syncD d n).1 :=
  onFile_P h fun _ hj => h.atStep fun fl => (h.fa fl d.off).set (h.other hn hj) _
theorem Stay.damage (h : Stay s k t d) {n : ByteArray} (hn : n ≠ s) (x : Int) (y : List UInt8) : Stay s k t (damageD d n x y).1 :=
  onFile_P h fun j hj => by
    split
    · exact h
    · split
      · exact h
      · exact h.set (h.other hn hj) _
theorem Stay.syncN (h : Stay s k t d) : Stay s k t (syncNamesD d).1 := by
  unfold syncNamesD
  split
  · exact h
  · exact h.atStep fun fl => ⟨h.lt, h.fl, h.seen, h.seen, fun c hc => by cases hc⟩
theorem Stay.rename (h : Stay s k t d) {n m : ByteArray} (hn : n ≠ s) (hm : m ≠ s) : Stay s k t (renameD d n m).1 :=
  onFile_P h fun j hj => by
    split
    · exact h
    · refine h.atStep fun fl => ?_
      split
      · exact h.fa fl d.off
      · exact (h.fa fl d.off).chg ⟨hn, hm, .inr (h.other hn hj)⟩
theorem Stay.remove (h : Stay s k t d) {n : ByteArray} (hn : n ≠ s) (hs : s ≠ nos) : Stay s k t (removeD d n).1 :=
  onFile_P h fun _ _ => h.atStep fun fl => (h.fa fl d.off).chg ⟨hn, Ne.symm hs, .inl (strEq_refl _)⟩
theorem Stay.names (h : Stay s k t d) (n : Int) : Has s k (namesAt d n) := h.safe.chgs fun c hc => h.pend c (List.mem_of_mem_take hc)
theorem Stay.crash (h : Stay s k t d) (n : Int) (keep : List Int) : Stay s k t (crashD d n keep) := by
  have hn := h.names n
  refine ⟨?_, ?_, hn, hn, fun c hc => by cases hc⟩
  · unfold crashD; simp; exact h.lt
  · have e : (namesAt d n).any (fun x => decide (x.2 = k)) = true := List.any_eq_true.2 ⟨(s, k), hn.1, by simp⟩
    have e2 : (crashD d n keep).fl k = cutF keep k (d.fl k) := by
      unfold crashD Dk.fl
      show (((List.range d.files.length).map _)[k]?).getD _ = _
      rw [List.getElem?_map, List.getElem?_range h.lt]
      show (if _ then _ else _) = _
      rw [if_pos e]
    rw [e2, h.fl]
    have e3 : moreF keep k ⟨t, t.length⟩ = 0 := by
      unfold moreF
      split
      · rfl
      · show (min _ ((t.length : Int) - t.length)).toNat = 0
        omega
    unfold cutF
    rw [e3]
    show (⟨t.take (t.length + 0), t.length + 0⟩ : Fl) = _
    rw [Nat.add_zero, List.take_length]
theorem Stay.op (h : Stay s k t d) {o : OpA} (hn : o.name ≠ s) (ht : o.kind % 12 = 4 → o.to ≠ s) (hs : s ≠ nos) : Stay s k t (opD d o) :=
  opD_P (h.create hn hs) (h.cut hn _) (h.sync hn) (fun q => h.rename hn (ht q)) (h.remove hn hs) h.syncN (h.fa _ _) (h.crash _ _) (h.damage hn _ _) h (h.append hn _)
theorem Stay.read (h : Stay s k t d) (hd : d.Ok) (n : Int) (keep : List Int) : readD (crashD d n keep) s = (t, 0) := by
  have hc := h.crash n keep
  have hf : findN (crashD d n keep).seen s = some k := findN_of (crashD_ok hd n keep).seenOk.nodup hc.seen.1
  unfold readD
  rw [if_neg (by show ¬ (false = true); decide), hf]
  show (((crashD d n keep).fl k).bytes, (0 : Int)) = _
  rw [hc.fl]
end
end SX
namespace SX
open Go
end SX
namespace SX
open Go Go.ChangeShapes Go.WideShapes Go.ChangeAt Go.RowKit
variable {P : Program} {W : World} {H0 : Type} {enc : TypeId × Value → H0}
end SX
namespace SX
open Go Go.ChangeShapes Go.WideShapes Go.ChangeAt Go.RowKit
variable {P : Program} {W : World} {H0 : Type} {enc : TypeId × Value → H0}
end SX
namespace SX
open Go Go.ChangeShapes Go.WideShapes Go.ChangeAt Go.RowKit
variable {P : Program} {W : World} {H0 : Type} {enc : TypeId × Value → H0}
/-- a call of the law, as it lies -/
structure OpS where
  kind : Nat
  tv : Value
  t : List En
  cv : Value
  c : Cm
  n : Int
  fn : Int
  kv : Value
  keep : List Int
instance : Inhabited OpS := ⟨⟨0, .bool false, [], .bool false, ([], 0), 0, 0, .bool false, []⟩⟩
structure OpS.Ok (μ : PH) (o : OpS) : Prop where
  kd : o.kind < 256
  tr : Row μ o.tv 2 o.t.length (ens o.t)
  tu : U32s o.t
  cr : Row μ o.cv 1 o.c.1.length (o.c.1.flatMap (icsk .i64))
  nr : -9223372036854775808 ≤ o.n ∧ o.n ≤ 9223372036854775807
  kr : Row μ o.kv 1 o.keep.length (o.keep.flatMap (icsk .i64))
theorem OpS.Ok.le {μ μ' : PH} {o : OpS} (h : o.Ok μ) (k : Le μ μ') : o.Ok μ' := ⟨h.kd, h.tr.le k, h.tu, h.cr.le k, h.nr, h.kr.le k⟩
end SX
namespace SX
open Go
/-- what is the call's own is lent to be read, and comes back -/
theorem sat_lend {b : Nat} {o : Obj} {μ : PH} {L : List Assn} {m : PH} (h : Sat (one b o :: ro μ :: L) m) :
    ∃ μ', Le μ μ' ∧ μ' b = some o ∧ Sat (ro μ' :: L) m ∧ ∀ μ'', Le μ' μ'' → ∃ μ3, Le μ μ3 ∧ ∀ L', Ent (ro μ'' :: L') (one b o :: ro μ3 :: L') := by
  have hb : μ b = none := by
    obtain ⟨m1, m2, h1, ⟨m3, m4, h3, h4, hd2, t1, t2⟩, hd, s1, s2⟩ := h
    cases hx : μ b with
    | none => rfl
    | some x =>
      have := (hd b).resolve_left (by unfold one at h1; rw [h1]; simp)
      rw [t1 b x (h3 b x hx)] at this; cases this
  obtain ⟨μ', k1, k2, k3⟩ := sat_share h
  refine ⟨μ', k1, k2, k3, fun μ'' hle => ⟨fun k => if k = b then none else μ'' k, fun k x hk => ?_, fun L' m' hs => ?_⟩⟩
  · have : k ≠ b := by rintro rfl; rw [hb] at hk; cases hk
    simp only [this, if_false]
    exact hle k x (k1 k x hk)
  · obtain ⟨m1, m2, a1, a2, ad, as1, as2⟩ := hs
    have hm1 : m1 b = some o := a1 b o (hle b o k2)
    have hm2 : m2 b = none := (ad b).resolve_left (by rw [hm1]; simp)
    refine ⟨fun k => if k = b then some o else none, fun k => if k = b then none else m' k, by simp [one], ⟨fun k => if k = b then none else m1 k, m2, fun k x hk => ?_, a2, fun k => ?_, fun k x hk => ?_, fun k x hk => ?_⟩, fun k => ?_, fun k x hk => ?_, fun k x hk => ?_⟩
    · by_cases e : k = b
      · simp [e] at hk
      · simp only [e, if_false] at hk ⊢; exact a1 k x hk
    · by_cases e : k = b
      · exact .inl (by simp [e])
      · simp only [e, if_false]; exact ad k
    · by_cases e : k = b
      · simp [e] at hk
      · simp only [e, if_false] at hk ⊢; exact as1 k x hk
    · have e : k ≠ b := by rintro rfl; rw [hm2] at hk; cases hk
      simp only [e, if_false]; exact as2 k x hk
    · by_cases e : k = b
      · exact .inr (by simp [e])
      · exact .inl (by simp [e])
    · by_cases e : k = b
      · subst e; simp at hk; subst hk; exact as1 _ _ hm1
      · simp [e] at hk
    · by_cases e : k = b
      · simp [e] at hk
      · simp only [e, if_false] at hk; exact hk
def Back (e n : Nat) (v : Value) (l : Nat) (xs : List Value) (μ μ' : PH) : Prop := ∀ μ'', Le μ' μ'' → ∃ μ3, Le μ μ3 ∧ ∀ L', Ent (ro μ'' :: L') (own e n v l xs :: ro μ3 :: L')
section
variable {P : Program} {env : Env} {μ : PH} {L : List Assn} {rn : Option Nat} {Q : Post} {N : Nat}
theorem H.lend_own {E : Ctx} {w : World} {e n : Nat} {v : Value} {l : Nat} {xs : List Value} (h : H E w (own e n v l xs :: ro μ :: L)) :
    ∃ μ', Le μ μ' ∧ Row μ' v n l xs ∧ H E w (ro μ' :: L) ∧ Back e n v l xs μ μ' := by
  obtain ⟨h1, h2, h3, h4, h5⟩ := h
  have k6 : Sat (own e n v l xs :: (E.X ++ (ro μ :: L))) (fun b => w.heap[b]?) := Sat.perm (perm_out (.refl _)) _ h5
  rcases own_open k6 with ⟨a1, a2, a3⟩ | ⟨b, cap, ex, a1, a2, a3, a4, a5, a6⟩
  · subst a1 a2 a3
    exact ⟨μ, Le.refl _, Row.nil _ _, ⟨h1, h2, h3, h4, k6.tail⟩, fun μ'' hle => ⟨μ'', hle, fun L' => own_nil_ent⟩⟩
  · have p : (one b (.cells (xs ++ ex).toArray e (0, 0)) :: (E.X ++ (ro μ :: L))).Perm (one b (.cells (xs ++ ex).toArray e (0, 0)) :: ro μ :: (E.X ++ L)) := List.Perm.cons _ (perm_out (.refl _))
    obtain ⟨μ', b1, b2, b3, b4⟩ := sat_lend (Sat.perm p _ a6)
    refine ⟨μ', b1, ⟨a4, some ⟨b, 0, none⟩, cap, a1, a2, a3, fun h => (by cases h), fun _ => ⟨b, 0, rfl, fun j u hj => ⟨_, _, _, b2, ?_⟩⟩⟩, ⟨h1, h2, h3, h4, Sat.perm (perm_out (.refl _)).symm _ b3⟩, fun μ'' hle => ?_⟩
    · have hlt : j < xs.length := (List.getElem?_eq_some_iff.1 hj).1
      simpa [List.getElem?_append_left hlt] using hj
    · obtain ⟨μ3, c1, c2⟩ := b4 μ'' hle
      refine ⟨μ3, c1, fun L' => (c2 L').trans ?_⟩
      rw [a1]
      exact own_close a4 a5 a2 a3
theorem swl_lend_own {ops : Array Oper} {ol : List Oper} {e n : Nat} {v : Value} {l : Nat} {xs : List Value} {L0 : List Assn} (hL : Split L0 [own e n v l xs, ro μ] L)
    (h : ∀ μ', Le μ μ' → Row μ' v n l xs → Back e n v l xs μ μ' → swl P rn ops Q N ol env (ro μ' :: L)) : swl P rn ops Q N ol env L0 := fun E D a w hd hf hh => by
  obtain ⟨μ', h1, h2, h3, h4⟩ := (hh.ent hL.ent).lend_own
  exact h μ' h1 h2 h4 E D a w hd hf h3
end
section
variable {P : Program} {tG : Nat}
end
end SX
namespace SX
open Go
end SX
namespace SX
open Go Go.ChangeShapes Go.WideShapes Go.ChangeAt Go.RowKit
variable {P : Program} {W : World} {H0 : Type} {enc : TypeId × Value → H0}
theorem arg_entriesL {t e ts tu : TypeId} {f0 f1 : Field} {v : Value} {d : DataW H0} {ps : List MemPlace} {r : Go.Reach} {b0 : Nat} (ht : P.underlying t = some (.slice e)) (he : P.underlying e = some (.struct #[f0, f1])) (h0 : f0.type = ts ∧ f0.offset = 0) (h1 : f1.type = tu ∧ f1.offset = 1)
    (hs : P.underlying ts = some .string) (hu : P.underlying tu = some (.int .u32)) (hc : P.cellsOf e = 2) (hcs : P.cellsOf ts = 1) (hcu : P.cellsOf tu = 1)
    (hv : Value.okWide P W r b0 t v) (h : DataW.Trod enc P W 0 (fun _ => true) true t v d ps) :
    ∃ xs : List En, Row (fun b => W.heap[b]?) v 2 xs.length (ens xs) ∧ U32s xs ∧ ((d = .nil ∧ xs.length = 0) ∨ ∃ (Ds sp : List (DataW H0)), d = .slice Ds sp ∧ Ds.length = xs.length) := by
  obtain ⟨a0, len, cap, rfl⟩ := okWide_slice ht hv
  obtain ⟨fuel, hf⟩ := h
  obtain ⟨v', xs, hcs2, hrow, hd⟩ := trod_slice (f := enc1) (by decide) enc1_len (fun x _ => U32 x.2) ht hc (fun fuel cs D Pl h => by
    obtain ⟨y0, y1, n, _, hl, k0, k1⟩ := trod_struct2 he h
    rw [h0.1, h0.2, hcs] at k0
    rw [h1.1, h1.2, hcu] at k1
    obtain ⟨b, hb, _, _⟩ := DataW.trod_string hs k0
    obtain ⟨x, hx, _, hw⟩ := DataW.trod_int hu k1
    rw [hc] at hl
    match cs, hl with
    | [c0, c1], _ =>
      simp at hb hx
      subst hb hx
      exact ⟨(b, x), rfl, wf_u32 hw⟩) hf
  simp only [Value.cells, List.cons.injEq, and_true] at hcs2
  subst hcs2
  refine ⟨xs, hrow, fun x hx => ?_, hd.imp (fun h => ⟨h.1, by rw [h.2]; rfl⟩) fun ⟨Ds, sp, q1, q2, _⟩ => ⟨Ds, sp, q1, q2⟩⟩
  rcases hd with ⟨_, rfl⟩ | ⟨Ds, sp, q1, q2, q3⟩
  · cases hx
  · obtain ⟨i, hi⟩ := List.getElem?_of_mem hx
    have hlt := (List.getElem?_eq_some_iff.1 hi).1
    exact q3 i x Ds[i] hi (List.getElem?_eq_getElem (by omega))
end SX
namespace SX
open Go Go.ChangeShapes Go.WideShapes Go.ChangeAt Go.RowKit
variable {P : Program} {W : World} {H0 : Type} {enc : TypeId × Value → H0}
theorem arg_commitL {tf ti tk : TypeId} (hF : ∃ g0 g1, P.underlying tf = some (.struct #[g0, g1]) ∧ (g0.type = tk ∧ g0.offset = 0) ∧ g1.type = ti ∧ g1.offset = 1) (ui : P.underlying ti = some (.int .i64)) (uk : P.underlying tk = some (.slice ti))
    (cs : P.cellsOf ti = 1 ∧ P.cellsOf tf = 2 ∧ P.cellsOf tk = 1) {v : Value} {d : DataW H0} {ps : List MemPlace} {r : Go.Reach} {b0 : Nat} (hv : Value.okWide P W r b0 tf v) (h : DataW.Trod enc P W 0 (fun _ => true) true tf v d ps) :
    ∃ (kv : Value) (ks : List Int) (n : Int) (a b : DataW H0), v = .agg #[kv, .int .i64 n] ∧ Row (fun b => W.heap[b]?) kv 1 ks.length (ks.flatMap (icsk .i64)) ∧ d = .agg [a, b] ∧ ((a = .nil ∧ ks.length = 0) ∨ ∃ (Ds sp : List (DataW H0)), a = .slice Ds sp ∧ Ds.length = ks.length) := by
  obtain ⟨g0, g1, hf, k0, k1, k2⟩ := hF
  obtain ⟨cI, cF, cK⟩ := cs
  unfold Value.okWide at hv
  rw [hf] at hv
  obtain ⟨cs, rfl, hcs, _⟩ := hv
  obtain ⟨fuel, hh⟩ := h
  have hl : cs.toList.length = 2 := by rw [Array.length_toList, hcs]; exact cF
  have hh : DataW.trod enc P W 0 (fun _ => true) true fuel tf cs.toList = some (d, ps) := hh
  match hc : cs.toList, hl with
  | [c0, c1], _ =>
    rw [hc] at hh
    obtain ⟨z0, z1, m, hz, _, p0, p1⟩ := trod_struct2 hf hh
    rw [k0.1, k0.2, cK] at p0
    rw [k1, k2, cI] at p1
    obtain ⟨n5, r5, _, _⟩ := DataW.trod_int ui p1
    have p0' : DataW.trod enc P W 0 (fun _ => true) true m tk [c0] = some (z0.1, z0.2) := p0
    obtain ⟨v', ks, hcs2, hk, hd⟩ := trod_slice (f := icsk .i64) (by decide) (icsk_len .i64) (fun _ _ => True) uk cI (fun fuel cs D Pl h => by
      obtain ⟨y, rfl, _, hw⟩ := DataW.trod_int ui h
      exact ⟨y, rfl, trivial⟩) p0'
    simp only [List.cons.injEq, and_true] at hcs2
    subst hcs2
    simp at r5
    subst r5
    have e : cs = #[c0, .int .i64 n5] := by rw [← Array.toList_inj, hc]
    refine ⟨c0, ks, n5, z0.1, z1.1, by rw [e], hk, (Prod.mk.inj hz).1, ?_⟩
    rcases hd with ⟨h1, h2⟩ | ⟨Ds, sp, h1, h2, _⟩
    · exact .inl ⟨h1, by rw [h2]; rfl⟩
    · exact .inr ⟨Ds, sp, h1, h2⟩
end SX
namespace SX
open Go Go.ChangeShapes
section
variable {H : Type} {enc : TypeId × Value → H}
theorem returns_sized {a : Assume} {C : Checked} {os : Os} {f : FuncId} {fn : Func} {s : ChangeSpec} {conds : List PathCond} {apart fresh handsOn again : Bool}
    (own : ownKnob C.prog.godebug = none) (started : os.Started) (noInit : C.prog.inits.idxOf? f = none) (hfn : C.prog.funcs[f]? = some fn)
    (witness : ∃ (w : World) (tape : Tape) (i : Input), w.os = os ∧ (w.forCall tape i).Shaped C.prog ∧ i.vars = [] ∧ Input.okWide C.prog (w.forCall tape i) .any w.heap.size f i ∧
      s.pre6 enc C.prog fn conds apart (w.forCall tape i).memory i.args ∧ a.holds C.prog (lone (Frame.enter C.prog f i.args .normal) [] (w.forCall tape i)))
    (contract : ∀ (W : World) (base : Nat) (args : Array Value) (ds gs : List (DataW H)) (before : List MemPlace),
      (∀ (j : Nat) t v, fn.params[j]? = some t → args[j]? = some v → Value.okWide C.prog W .any base t v) →
      DataW.Whole enc C.prog fn.params.toList s.vars apart W args.toList ds gs before →
      (DataW.weightsEach C.prog (fn.params.toList ++ s.plain.varTypes C.prog) (ds ++ gs)).all (· ≤ reachBytes) = true →
      Calls C.prog f args W fun e W' => ∃ v, e = .returned v ∧ s.post enc C.prog fn apart fresh handsOn again W args v W') :
    ReturnsInHanded a C os f .any (s.pre6 enc C.prog fn conds apart) (s.post enc C.prog fn apart fresh handsOn again) := by
  refine returnsInHanded_of_calls own started noInit witness ?_
  intro w tape i _ _ _ hok hpre _
  obtain ⟨_, _, _, fn', hfn', _, _, _, _, hval⟩ := hok
  have e : fn' = fn := Option.some.inj (hfn'.symm.trans hfn)
  subst e
  obtain ⟨⟨ds, gs, before, hw, _⟩, hz⟩ := hpre
  have hw' := DataW.Whole.of_heap (w' := w.forCall tape i) (by rfl) hw
  refine (contract (w.forCall tape i) w.heap.size i.args ds gs before hval hw' (hz.weights hw)).mono fun e W' ⟨v, he, hp⟩ => ?_
  subst he
  exact ChangeSpec.post_blind hp
end
section
variable {H : Type} {P : Program}
theorem weights_at : ∀ {ts : List TypeId} {ds : List (DataW H)} {i : Nat} {t : TypeId} {d : DataW H}, ts[i]? = some t → ds[i]? = some d → (DataW.weightsEach P ts ds).all (· ≤ reachBytes) = true → (d.weights P t).all (· ≤ reachBytes) = true
  | t0 :: ts, d0 :: ds, 0, t, d, ht, hd, h => by
    obtain rfl := Option.some.inj ht
    obtain rfl := Option.some.inj hd
    rw [DataW.weightsEach, List.all_append, Bool.and_eq_true] at h
    exact h.1
  | t0 :: ts, d0 :: ds, i + 1, t, d, ht, hd, h => by
    rw [DataW.weightsEach, List.all_append, Bool.and_eq_true] at h
    exact weights_at (i := i) (by simpa using ht) (by simpa using hd) h.2
/-- a slice: its length, and what is in it -/
theorem slice_sized {t e : TypeId} (ht : P.underlying t = some (.slice e)) (hb : 8 ≤ P.bytesOf e) {Ds sp : List (DataW H)} (h : ((DataW.slice Ds sp : DataW H).weights P t).all (· ≤ reachBytes) = true) : Ds.length ≤ 17592186043904 ∧ (DataW.weightsAll P e Ds).all (· ≤ reachBytes) = true := by
  rw [DataW.weights, ht] at h
  dsimp only at h
  rw [List.all_cons, List.all_append, Bool.and_eq_true, Bool.and_eq_true] at h
  have h1 : (Ds.length + sp.length) * P.bytesOf e ≤ reachBytes := of_decide_eq_true h.1
  have h2 : (Ds.length + sp.length) * 8 ≤ (Ds.length + sp.length) * P.bytesOf e := Nat.mul_le_mul_left _ hb
  have h3 : reachBytes = 140737488351232 := rfl
  exact ⟨by omega, h.2.1⟩
end
end SX
namespace SX
open Go Go.ChangeShapes Go.WideShapes Go.ChangeAt Go.RowKit
variable {P : Program} {W : World} {H0 : Type} {enc : TypeId × Value → H0}
end SX
namespace SX
open Go Go.ChangeShapes
variable {H : Type} {P : Program}
/-- a list of things of 24 bytes -/
theorem list24 {t e : TypeId} (ht : P.underlying t = some (.slice e)) (hb : 24 ≤ P.bytesOf e) {n : Nat} {d : DataW H} (h : (d.weights P t).all (· ≤ reachBytes) = true) (hd : (d = .nil ∧ n = 0) ∨ ∃ (Ds sp : List (DataW H)), d = .slice Ds sp ∧ Ds.length = n) : n ≤ 5864062014634 := by
  rcases hd with ⟨_, rfl⟩ | ⟨Ds, sp, rfl, hl⟩
  · exact Nat.zero_le _
  · rw [DataW.weights, ht] at h
    dsimp only at h
    rw [List.all_cons, Bool.and_eq_true] at h
    have h1 : (Ds.length + sp.length) * P.bytesOf e ≤ reachBytes := of_decide_eq_true h.1
    have h2 : (Ds.length + sp.length) * 24 ≤ (Ds.length + sp.length) * P.bytesOf e := Nat.mul_le_mul_left _ hb
    have h3 : reachBytes = 140737488351232 := rfl
    omega
theorem list8 {t e : TypeId} (ht : P.underlying t = some (.slice e)) (hb : 8 ≤ P.bytesOf e) {n : Nat} {d : DataW H} (h : (d.weights P t).all (· ≤ reachBytes) = true) (hd : (d = .nil ∧ n = 0) ∨ ∃ (Ds sp : List (DataW H)), d = .slice Ds sp ∧ Ds.length = n) : n ≤ 17592186043904 := by
  rcases hd with ⟨_, rfl⟩ | ⟨Ds, sp, rfl, hl⟩
  · exact Nat.zero_le _
  · rw [← hl]; exact (slice_sized ht hb h).1
/-- the first part's list, of things of 8 bytes -/
theorem fst8 {t t0 e : TypeId} {f0 f1 : Field} (hS : P.underlying t = some (.struct #[f0, f1])) (h0 : f0.type = t0) (ht : P.underlying t0 = some (.slice e)) (hb : 8 ≤ P.bytesOf e) {n : Nat} {a b : DataW H} (h : ((DataW.agg [a, b] : DataW H).weights P t).all (· ≤ reachBytes) = true)
    (hd : (a = .nil ∧ n = 0) ∨ ∃ (Ds sp : List (DataW H)), a = .slice Ds sp ∧ Ds.length = n) : n ≤ 17592186043904 := by
  rw [DataW.weights, hS] at h
  subst h0
  exact list8 ht hb (weights_at (i := 0) (t := f0.type) (d := a) rfl rfl h) hd
end SX
