/- A part of the proof: walks of the program's functions, and the rules by which they go. -/
import Derived.Test.YtkldhmbmahgnjaaDoorB5c872605
import Derived.OpenShut
import Derived.ChangeSame
import Derived.Test.YtkldhmbmahgnjaaDoorProg
import Derived.Test.YtkldhmbmahgnjaaDoorB9028228d
namespace SX
open Go
section
variable {P : Program}
theorem run_method_val {t : TypeId} {name : String} {ft off : Nat} {f : FuncId} [h : TVia P t name ft off (some (f, true))] {fs : Array Field} (hu : P.underlying ft = some (.struct fs)) {b : Nat} {w : World} (k : Nat) :
    (method (k + 1) t (.pointer (some ⟨b, 0, none⟩)) name).run P w = .ok (f, .pointer (some ⟨b, off, none⟩)) w := by
  obtain ⟨inf, m, h1, h2, h3, h4, h5⟩ := run_follow1 (P := P) (t := t) (name := name) b w
  unfold method
  simp [typeInfo, h1, h2, h5, h3, receiverAt, run_underlying hu]
theorem InvS.val {t : TypeId} {name : String} {ft off : Nat} {f : FuncId} [h : TVia P t name ft off (some (f, true))] [hb : Body P f] {fs : Array Field} (hu : P.underlying ft = some (.struct fs)) {b : Nat} {args : List Value} {pre : List Assn} {post : Value → List Assn → Prop} (hi : Spec P f (.pointer (some ⟨b, off, none⟩) :: args) pre post) :
    InvS P 0 t (.pointer (some ⟨b, 0, none⟩)) name args pre post := fun E w hw =>
  ⟨f, .pointer (some ⟨b, off, none⟩), fun k _ => run_method_val hu k, hb, hi E w hw⟩
end
end SX
namespace SX
open Go
section
variable {P : Program} {env : Env}
theorem pu_add_w32 {t u : TypeId} {x y : Operand} {a b : BitVec 32} (hx : evalE env x = some (.int .u32 (a.toNat : Nat))) (hy : evalE env y = some (.int .u32 (b.toNat : Nat))) : Pu P env (.binOp .add t x y u) (.int .u32 ((a + b).toNat : Nat)) := by
  have h := pu_add (P := P) (t := t) (u := u) hx hy
  have e : IntKind.u32.wrap ((a.toNat : Int) + (b.toNat : Int)) = ((a + b).toNat : Nat) := by
    have e1 : ((a.toNat : Int) + (b.toNat : Int)) = ((a.toNat + b.toNat : Nat) : Int) := by omega
    rw [e1]
    simp [IntKind.wrap, IntKind.bits, IntKind.signed, BitVec.toNat_add]
  rwa [e] at h
theorem pu_mul_w32 {t u : TypeId} {x y : Operand} {a b : BitVec 32} (hx : evalE env x = some (.int .u32 (a.toNat : Nat))) (hy : evalE env y = some (.int .u32 (b.toNat : Nat))) : Pu P env (.binOp .mul t x y u) (.int .u32 ((a * b).toNat : Nat)) := by
  have h := pu_mul (P := P) (t := t) (u := u) hx hy
  have e : IntKind.u32.wrap ((a.toNat : Int) * (b.toNat : Int)) = ((a * b).toNat : Nat) := by
    have e1 : ((a.toNat : Int) * (b.toNat : Int)) = ((a.toNat * b.toNat : Nat) : Int) := by rw [Int.natCast_mul]
    rw [e1]
    simp [IntKind.wrap, IntKind.bits, IntKind.signed, BitVec.toNat_mul]
  rwa [e] at h
theorem pu_rem_nat {k : IntKind} {t u : TypeId} {x y : Operand} {a b : Nat} (hx : evalE env x = some (.int k (a : Nat))) (hy : evalE env y = some (.int k (b : Nat))) (h0 : 0 < b) : Pu P env (.binOp .rem t x y u) (.int k ((a % b : Nat) : Int)) := by
  have h := pu_rem (P := P) (t := t) (u := u) hx hy (by omega)
  rwa [Int.tmod_eq_emod_of_nonneg (by omega), ← Int.natCast_emod] at h
theorem pu_quo_nat {k : IntKind} {t u : TypeId} {x y : Operand} {a b : Nat} (hx : evalE env x = some (.int k (a : Nat))) (hy : evalE env y = some (.int k (b : Nat))) (h0 : 0 < b) (hw : k.wrap ((a / b : Nat) : Int) = ((a / b : Nat) : Int)) : Pu P env (.binOp .quo t x y u) (.int k ((a / b : Nat) : Int)) := by
  have h := pu_quo (P := P) (t := t) (u := u) hx hy (by omega)
  rwa [Int.tdiv_eq_ediv_of_nonneg (by omega), ← Int.natCast_ediv, hw] at h
end
/-- the settings -/
structure Sett where
  ha : Int
  pe : Int
  mo : Int
  seed : W32
def encS (s : Sett) : List Value := [.int .i64 s.ha, .int .i64 s.pe, .int .i64 s.mo, .int .u32 (s.seed.toNat : Nat)]
def Sett.bad (s : Sett) : Prop := s.ha < 1 ∨ 16 < s.ha ∨ s.pe < 1 ∨ 64 < s.pe ∨ s.mo < 0 ∨ 512 < s.mo
instance (s : Sett) : Decidable s.bad := by unfold Sett.bad; infer_instance
def hash1 (h : W32) (b : UInt8) : W32 := (h ^^^ BitVec.ofNat 32 b.toNat) * 16777619#32
def mix1 (h : W32) : W32 := (h ^^^ h >>> 16) * 2246822507#32
def mix2 (h : W32) : W32 := (h ^^^ h >>> 13) * 3266489909#32
def hashW (seed : W32) (s : List UInt8) : W32 :=
  let h := mix2 (mix1 (s.foldl hash1 (2166136261#32 ^^^ seed)))
  h ^^^ h >>> 16
def placeW (s : Sett) (p : List UInt8) (n i : Nat) : Nat := (hashW s.seed p + BitVec.ofNat 32 i * (hashW (s.seed + 1#32) p ||| 1#32)).toNat % n
def placesW (s : Sett) (p : List UInt8) (n : Nat) : List Int := if s.bad ∨ n < 1 ∨ 4294967295 < n then [] else (List.range s.ha.toNat).map fun i => ((placeW s p n i : Nat) : Int)
theorem places_lt {s : Sett} {p : List UInt8} {n : Nat} {x : Int} (h : x ∈ placesW s p n) : 0 ≤ x ∧ x < n := by
  unfold placesW at h
  split at h
  · cases h
  · next k =>
    obtain ⟨i, _, rfl⟩ := List.mem_map.1 h
    have : placeW s p n i < n := Nat.mod_lt _ (by omega)
    omega
theorem places_len (s : Sett) (p : List UInt8) (n : Nat) : (placesW s p n).length ≤ 16 := by
  unfold placesW
  split
  · simp
  · next k => rw [List.length_map, List.length_range]; unfold Sett.bad at k; omega
/-- a bit of a row of bytes -/
def bitB (l : List UInt8) (k : Nat) : BitVec 8 := (((l[k / 8]?).getD 0).toBitVec >>> (k % 8)) &&& 1#8
abbrev Fil : Type := Int × List UInt8
def encF (f : Fil) : List Value := [.int .i64 f.1, .string ⟨f.2.toArray⟩]
def mayF (s : Sett) (f : Fil) (p : List UInt8) : Bool := decide (f.1 ≠ 1) || decide (f.2.length = 0) || (placesW s p (8 * f.2.length)).all fun k => !decide (bitB f.2 k.toNat = 0#8)
def setB (l : List UInt8) (k : Nat) : List UInt8 := l.set (k / 8) (UInt8.ofBitVec (((l[k / 8]?).getD 0).toBitVec ||| (1#8 <<< (k % 8))))
theorem setB_len (l : List UInt8) (k : Nat) : (setB l k).length = l.length := List.length_set
theorem bit8 (a : BitVec 8) (i : Nat) : (a >>> i) &&& 1#8 = 0#8 ↔ a.getLsbD i = false := by
  constructor
  · intro h
    have : ((a >>> i) &&& 1#8).getLsbD 0 = false := by rw [h]; rfl
    simpa using this
  · intro h
    apply BitVec.eq_of_getLsbD_eq
    intro j hj
    simp only [BitVec.getLsbD_and, BitVec.getLsbD_ushiftRight, BitVec.getLsbD_zero]
    by_cases hj0 : j = 0
    · subst hj0; simp [h]
    · have : (1#8).getLsbD j = false := by simp [BitVec.getLsbD_one, hj0]
      rw [this, Bool.and_false]
theorem bitB_iff (l : List UInt8) (k : Nat) : bitB l k = 0#8 ↔ (((l[k / 8]?).getD 0).toBitVec).getLsbD (k % 8) = false := bit8 _ _
theorem setB_self {l : List UInt8} {k : Nat} (h : k < 8 * l.length) : bitB (setB l k) k ≠ 0#8 := by
  have hk : k / 8 < l.length := by omega
  rw [Ne, bitB_iff]
  unfold setB
  rw [List.getElem?_set_self hk]
  have h8 : k % 8 < 8 := by omega
  simp [h8]
theorem setB_keep {l : List UInt8} {k j : Nat} (h : bitB l j ≠ 0#8) : bitB (setB l k) j ≠ 0#8 := by
  rw [Ne, bitB_iff] at h ⊢
  unfold setB
  by_cases e : k / 8 = j / 8
  · by_cases hk : k / 8 < l.length
    · rw [← e, List.getElem?_set_self hk]
      rw [← e] at h
      simp only [Option.getD_some, BitVec.getLsbD_or]
      simp at h ⊢
      simp [h]
    · rw [List.set_eq_of_length_le (by omega)]; exact h
  · rw [List.getElem?_set_ne e]; exact h
end SX
namespace SX
open Go
abbrev Chg : Type := ByteArray × Int × Int
abbrev encD (e : Chg) : List Value := [.string e.1, .int .u32 e.2.1, .int .u32 e.2.2]
abbrev chs (l : List Chg) : List Value := l.flatMap encD
theorem chs_app (a b : List Chg) : chs (a ++ b) = chs a ++ chs b := List.flatMap_append
def diffE : List En → List En → List Chg
  | [], [] => []
  | e :: a, [] => (e.1, e.2, 0) :: diffE a []
  | [], f :: b => (f.1, 0, f.2) :: diffE [] b
  | e :: a, f :: b => if strLt e.1 f.1 = true then (e.1, e.2, 0) :: diffE a (f :: b) else if strLt f.1 e.1 = true then (f.1, 0, f.2) :: diffE (e :: a) b else (if e.2 = f.2 then [] else [(e.1, e.2, f.2)]) ++ diffE a b
termination_by a b => a.length + b.length
decreasing_by all_goals simp <;> omega
theorem diff_nn : diffE [] [] = [] := by unfold diffE; rfl
theorem diff_a (e : En) (a b : List En) (h : ∀ f r, b = f :: r → strLt e.1 f.1 = true) : diffE (e :: a) b = (e.1, e.2, 0) :: diffE a b := by
  cases b with
  | nil => rw [diffE]
  | cons f b => rw [diffE, if_pos (h f b rfl)]
theorem diff_b (f : En) (a b : List En) (h : ∀ e r, a = e :: r → strLt f.1 e.1 = true) : diffE a (f :: b) = (f.1, 0, f.2) :: diffE a b := by
  cases a with
  | nil => rw [diffE]
  | cons e a => rw [diffE, if_neg (by rw [strLt_asym (h e a rfl)]; decide), if_pos (h e a rfl)]
theorem diff_ab (e f : En) (a b : List En) (h : e.1 = f.1) : diffE (e :: a) (f :: b) = (if e.2 = f.2 then [] else [(e.1, e.2, f.2)]) ++ diffE a b := by
  rw [diffE, if_neg (by rw [h, strLt_irrefl]; decide), if_neg (by rw [h, strLt_irrefl]; decide)]
theorem diff_len : ∀ (n : Nat) (a b : List En), a.length + b.length ≤ n → (diffE a b).length ≤ n
  | n, [], [], _ => by rw [diff_nn]; exact Nat.zero_le _
  | n, e :: a, [], h => by
    rw [diff_a e a [] (fun _ _ h => by cases h), List.length_cons]
    have := diff_len (n - 1) a [] (by simp at h ⊢; omega)
    simp at h; omega
  | n, [], f :: b, h => by
    rw [diff_b f [] b (fun _ _ h => by cases h), List.length_cons]
    have := diff_len (n - 1) [] b (by simp at h ⊢; omega)
    simp at h; omega
  | n, e :: a, f :: b, h => by
    simp only [List.length_cons] at h
    rcases strLt_total e.1 f.1 with k | k | k
    · rw [diff_a e a (f :: b) (fun _ _ h => by cases h; exact k), List.length_cons]
      have := diff_len (n - 1) a (f :: b) (by simp only [List.length_cons]; omega)
      omega
    · rw [diff_ab e f a b k, List.length_append]
      have := diff_len (n - 1) a b (by omega)
      split <;> simp <;> omega
    · rw [diff_b f (e :: a) b (fun _ _ h => by cases h; exact k), List.length_cons]
      have := diff_len (n - 1) (e :: a) b (by simp only [List.length_cons]; omega)
      omega
termination_by _ a b => a.length + b.length
decreasing_by all_goals simp <;> omega
theorem lookE_cons (e : En) (a : List En) (p : ByteArray) : lookE (e :: a) p = if strEq e.1 p = true then e.2 else lookE a p := rfl
theorem look_below {a : List En} {p : ByteArray} (h : ∀ e ∈ a, strLt p e.1 = true) : lookE a p = 0 := lookE_none fun e he => by
  rw [strEq_false]; exact (strLt_ne (h e he)).symm
/-- the paths of a difference are those at which the trees differ -/
theorem diff_mem : ∀ (a b : List En), GoodT a → GoodT b → ∀ p, p ∈ (diffE a b).map (·.1) ↔ lookE a p ≠ lookE b p
  | [], [], _, _, p => by rw [diff_nn]; simp [lookE]
  | e :: a, [], ha, hb, p => by
    have ga : GoodT a := ⟨(List.pairwise_cons.1 ha.rises).2, fun x hx => ha.short x (.tail _ hx), fun x hx => ha.full x (.tail _ hx)⟩
    rw [diff_a e a [] (fun _ _ h => by cases h), List.map_cons, List.mem_cons, diff_mem a [] ga hb p, lookE_cons]
    have h0 : lookE [] p = 0 := rfl
    by_cases hp : strEq e.1 p = true
    · have hp' := strEq_iff.1 hp
      rw [if_pos hp]
      simp only [hp', true_or, true_iff]
      exact ha.full e (.head _)
    · rw [if_neg hp]
      have : ¬ p = e.1 := fun h => hp (by rw [h]; exact strEq_refl _)
      simp [this]
  | [], f :: b, ha, hb, p => by
    have gb : GoodT b := ⟨(List.pairwise_cons.1 hb.rises).2, fun x hx => hb.short x (.tail _ hx), fun x hx => hb.full x (.tail _ hx)⟩
    rw [diff_b f [] b (fun _ _ h => by cases h), List.map_cons, List.mem_cons, diff_mem [] b ha gb p, lookE_cons]
    have h0 : lookE [] p = 0 := rfl
    by_cases hp : strEq f.1 p = true
    · have hp' := strEq_iff.1 hp
      rw [if_pos hp]
      simp only [hp', true_or, true_iff]
      exact fun h => hb.full f (.head _) h.symm
    · rw [if_neg hp]
      have : ¬ p = f.1 := fun h => hp (by rw [h]; exact strEq_refl _)
      simp [this]
  | e :: a, f :: b, ha, hb, p => by
    obtain ⟨a1, a2⟩ := List.pairwise_cons.1 ha.rises
    obtain ⟨b1, b2⟩ := List.pairwise_cons.1 hb.rises
    have ga : GoodT a := ⟨a2, fun x hx => ha.short x (.tail _ hx), fun x hx => ha.full x (.tail _ hx)⟩
    have gb : GoodT b := ⟨b2, fun x hx => hb.short x (.tail _ hx), fun x hx => hb.full x (.tail _ hx)⟩
    rcases strLt_total e.1 f.1 with k | k | k
    · rw [diff_a e a (f :: b) (fun _ _ h => by cases h; exact k), List.map_cons, List.mem_cons, diff_mem a (f :: b) ga hb p, lookE_cons e]
      by_cases hp : strEq e.1 p = true
      · have hp' := strEq_iff.1 hp
        rw [if_pos hp]
        have h0 : lookE (f :: b) p = 0 := look_below fun x hx => by
          rw [← hp']
          rcases List.mem_cons.1 hx with rfl | hx
          · exact k
          · exact strLt_trans k (b1 x hx)
        rw [h0]
        simp only [hp', true_or, true_iff]
        exact ha.full e (.head _)
      · rw [if_neg hp]
        have : ¬ p = e.1 := fun h => hp (by rw [h]; exact strEq_refl _)
        simp [this]
    · rw [diff_ab e f a b k, List.map_append, List.mem_append, diff_mem a b ga gb p, lookE_cons e, lookE_cons f, ← k]
      by_cases hp : strEq e.1 p = true
      · have hp' := strEq_iff.1 hp
        rw [if_pos hp, if_pos hp]
        have h1 : lookE a p = 0 := look_below fun x hx => by rw [← hp']; exact a1 x hx
        have h2 : lookE b p = 0 := look_below fun x hx => by rw [← hp', k]; exact b1 x hx
        rw [h1, h2]
        by_cases he : e.2 = f.2
        · simp [he]
        · simp [he, hp']
      · rw [if_neg hp, if_neg hp]
        have : ¬ p = e.1 := fun h => hp (by rw [h]; exact strEq_refl _)
        by_cases he : e.2 = f.2
        · simp [he]
        · simp [he, this]
    · rw [diff_b f (e :: a) b (fun _ _ h => by cases h; exact k), List.map_cons, List.mem_cons, diff_mem (e :: a) b ha gb p, lookE_cons f]
      by_cases hp : strEq f.1 p = true
      · have hp' := strEq_iff.1 hp
        rw [if_pos hp]
        have h0 : lookE (e :: a) p = 0 := look_below fun x hx => by
          rw [← hp']
          rcases List.mem_cons.1 hx with rfl | hx
          · exact k
          · exact strLt_trans k (a1 x hx)
        rw [h0]
        simp only [hp', true_or, true_iff]
        exact fun h => hb.full f (.head _) h.symm
      · rw [if_neg hp]
        have : ¬ p = f.1 := fun h => hp (by rw [h]; exact strEq_refl _)
        simp [this]
termination_by a b => a.length + b.length
decreasing_by all_goals simp <;> omega
theorem diff_short {a b : List En} (ha : ∀ e ∈ a, e.1.size ≤ 255) (hb : ∀ e ∈ b, e.1.size ≤ 255) (ga : GoodT a) (gb : GoodT b) : ∀ d ∈ diffE a b, d.1.size ≤ 255 := fun d hd => by
  have h := (diff_mem a b ga gb d.1).1 (List.mem_map.2 ⟨d, hd, rfl⟩)
  by_cases k : d.1 ∈ a.map (·.1)
  · obtain ⟨e, he, h1⟩ := List.mem_map.1 k; rw [← h1]; exact ha e he
  · by_cases k2 : d.1 ∈ b.map (·.1)
    · obtain ⟨e, he, h1⟩ := List.mem_map.1 k2; rw [← h1]; exact hb e he
    · rw [lookE_not k, lookE_not k2] at h; exact absurd rfl h
end SX
namespace SX
section
variable {τ : Type} (S : List Int → Int → List Int) (T : Int → τ) (M : τ → τ → τ → τ) (z : τ)
end
end SX
namespace SX
open Go Go.ChangeShapes Go.WideShapes Go.ChangeAt Go.RowKit
variable {P : Program} {H0 : Type} {enc : TypeId × Value → H0} {W : World}
theorem trod_ints {t e : TypeId} {k : IntKind} {v : Value} {fuel : Nat} {x : DataW H0 × List MemPlace} (ht : P.underlying t = some (.slice e)) (he : P.underlying e = some (.int k)) (hc : P.cellsOf e = 1)
    (hf : DataW.trod enc P W 0 (fun _ => true) true fuel t [v] = some x) :
    ∃ xs : List Int, Row (fun b => W.heap[b]?) v 1 xs.length (xs.flatMap (icsk k)) := by
  rcases open_ints ht he hc hf with ⟨hcs, _⟩ | ⟨a, len, cap, zs, hcs, _, hl, hm, hz, _, hcell, _⟩
  · rw [List.cons.injEq] at hcs
    rw [hcs.1]
    exact ⟨[], Row.nil _ _⟩
  · rw [List.cons.injEq] at hcs
    rw [hcs.1]
    simp only [if_true] at hz
    have hlen : (zs.take len).length = len := by rw [List.length_take]; omega
    refine ⟨zs.take len, ?_⟩
    rw [hlen]
    refine ⟨by rw [flat_length (icsk_len k), hlen], some a, cap, rfl, hl, hm, fun h => (by cases h), fun hpos => ?_⟩
    have h0 := hcell 0 (by omega)
    rw [show a.add 0 = a by simp [Addr.add]] at h0
    have ha := (spot_of_cell h0).1
    refine ⟨a.block, a.off, by rw [← ha], fun j u hj => ?_⟩
    have hj' : j < len := by
      have := (List.getElem?_eq_some_iff.1 hj).1
      rw [flat_length (icsk_len k), hlen] at this; omega
    obtain ⟨z, hzj⟩ : ∃ z, (zs.take len)[j]? = some z := ⟨_, List.getElem?_eq_getElem (by omega)⟩
    have hu := flat_get (icsk_len k) (zs.take len) [] j z hzj 0 (.int k z) rfl
    rw [List.append_nil, Nat.mul_one, Nat.add_zero] at hu
    rw [hu] at hj
    cases hj
    have hc2 := (spot_of_cell (hcell j (by omega))).2
    rw [addr_block, addr_off] at hc2
    have : zs.getD j 0 = z := by
      rw [List.getElem?_take, if_pos hj'] at hzj
      simp [List.getD, hzj]
    rw [this] at hc2
    exact hc2
end SX
namespace SX
open Go Go.ChangeShapes Go.WideShapes Go.ChangeAt Go.RowKit
variable {P : Program} {W : World} {H0 : Type} {enc : TypeId × Value → H0}
/-- a call: kind, name, to, text, number, and a fate (a number, a list) -/
structure OpA where
  kind : Int
  name : ByteArray
  to : ByteArray
  text : ByteArray
  n : Int
  fn : Int
  kv : Value
  keep : List Int
instance : Inhabited OpA := ⟨⟨0, ⟨#[]⟩, ⟨#[]⟩, ⟨#[]⟩, 0, 0, .bool false, []⟩⟩
structure OpOk (μ : PH) (o : OpA) : Prop where
  kind : 0 ≤ o.kind ∧ o.kind ≤ 255
  n : -9223372036854775808 ≤ o.n ∧ o.n ≤ 9223372036854775807
  keep : Row μ o.kv 1 o.keep.length (o.keep.flatMap (icsk .i64))
theorem OpOk.le {μ μ' : PH} {o : OpA} (h : OpOk μ o) (k : Le μ μ') : OpOk μ' o := ⟨h.kind, h.n, h.keep.le k⟩
end SX
namespace SX
open Go Go.ChangeShapes Go.WideShapes Go.ChangeAt Go.RowKit
variable {P : Program} {W : World} {H0 : Type} {enc : TypeId × Value → H0}
end SX
namespace SX
open Go Go.ChangeShapes Go.WideShapes Go.ChangeAt Go.RowKit
variable {P : Program} {W : World} {H0 : Type} {enc : TypeId × Value → H0}
/-- what a list's data say -/
def GraphD (xs : List (Value × List Int)) (d : DataW H0) : Prop := (d = .nil ∧ xs = []) ∨ ∃ (Ds sp : List (DataW H0)), d = .slice Ds sp ∧ Ds.length = xs.length ∧ ∀ (i : Nat) (a : Value × List Int) (D : DataW H0), xs[i]? = some a → Ds[i]? = some D → (D = .nil ∧ a.2 = []) ∨ ∃ (Ds sp : List (DataW H0)), D = .slice Ds sp ∧ Ds.length = a.2.length
theorem slice_all {α : Type} [Inhabited α] {d : DataW H0} {xs : List α} {R : α → DataW H0 → Prop} {Q : α → Prop} (hd : (d = .nil ∧ xs = []) ∨ ∃ (Ds sp : List (DataW H0)), d = .slice Ds sp ∧ Ds.length = xs.length ∧ ∀ (i : Nat) (a : α) (D : DataW H0), xs[i]? = some a → Ds[i]? = some D → R a D) (h : ∀ a D, R a D → Q a) : ∀ x ∈ xs, Q x := fun x hx => by
  rcases hd with ⟨_, rfl⟩ | ⟨Ds, sp, h1, h2, h3⟩
  · cases hx
  · obtain ⟨i, hi⟩ := List.getElem?_of_mem hx
    have hlt := (List.getElem?_eq_some_iff.1 hi).1
    exact h x _ (h3 i x Ds[i] hi (List.getElem?_eq_getElem (by omega)))
theorem trod_graph {t e q : TypeId} (ht : P.underlying t = some (.slice e)) (he : P.underlying e = some (.slice q)) (hq : P.underlying q = some (.int .i64)) (hc : P.cellsOf e = 1) (hcq : P.cellsOf q = 1)
    {fuel : Nat} {cs : List Value} {d : DataW H0} {ps : List MemPlace} (h : DataW.trod enc P W 0 (fun _ => true) true fuel t cs = some (d, ps)) :
    ∃ (v : Value) (xs : List (Value × List Int)), cs = [v] ∧ Row (fun b => W.heap[b]?) v 1 xs.length (xs.flatMap gcs) ∧ (∀ x ∈ xs, Row (fun b => W.heap[b]?) x.1 1 x.2.length (x.2.flatMap (icsk .i64))) ∧ GraphD xs d := by
  obtain ⟨v', xs, hcs, hrow, hd⟩ := trod_slice (f := gcs) (by decide) gcs_len (fun x D => Row (fun b => W.heap[b]?) x.1 1 x.2.length (x.2.flatMap (icsk .i64)) ∧ ((D = .nil ∧ x.2 = []) ∨ ∃ (Ds sp : List (DataW H0)), D = .slice Ds sp ∧ Ds.length = x.2.length)) ht hc (fun fuel cs D Pl h => by
    obtain ⟨v2, ys, rfl, hr2, hd2⟩ := trod_slice (f := icsk .i64) (by decide) (icsk_len .i64) (fun _ _ => True) he hcq (fun fuel cs D Pl h => by
      obtain ⟨y, rfl, _, hw⟩ := DataW.trod_int hq h
      exact ⟨y, rfl, trivial⟩) h
    exact ⟨(v2, ys), rfl, hr2, hd2.imp id fun ⟨Ds, sp, h1, h2, _⟩ => ⟨Ds, sp, h1, h2⟩⟩) h
  exact ⟨v', xs, hcs, hrow, slice_all hd fun _ _ h => h.1, hd.imp id fun ⟨Ds, sp, h1, h2, h3⟩ => ⟨Ds, sp, h1, h2, fun i a D ha hD => (h3 i a D ha hD).2⟩⟩
abbrev gTw (t : Value × List En) : List Value := [t.1]
theorem trod_trees {t q e ts tu : TypeId} {f0 f1 : Field} (ht : P.underlying t = some (.slice q)) (hq : P.underlying q = some (.slice e)) (he : P.underlying e = some (.struct #[f0, f1])) (h0 : f0.type = ts ∧ f0.offset = 0) (h1 : f1.type = tu ∧ f1.offset = 1)
    (hs : P.underlying ts = some .string) (hu : P.underlying tu = some (.int .u32)) (hc : P.cellsOf e = 2) (hcs : P.cellsOf ts = 1) (hcu : P.cellsOf tu = 1) (hcq : P.cellsOf q = 1)
    {fuel : Nat} {cs : List Value} {d : DataW H0} {ps : List MemPlace} (h : DataW.trod enc P W 0 (fun _ => true) true fuel t cs = some (d, ps)) :
    ∃ (v : Value) (xs : List (Value × List En)), cs = [v] ∧ Row (fun b => W.heap[b]?) v 1 xs.length (xs.flatMap gTw) ∧ (∀ x ∈ xs, Row (fun b => W.heap[b]?) x.1 2 x.2.length (ens x.2) ∧ U32s x.2) := by
  haveI : Inhabited (Value × List En) := ⟨(.bool false, [])⟩
  obtain ⟨v', xs, hcs2, hrow, hd⟩ := trod_slice (f := gTw) (by decide) (fun _ => rfl) (fun x _ => Row (fun b => W.heap[b]?) x.1 2 x.2.length (ens x.2) ∧ U32s x.2) ht hcq (fun fuel cs D Pl h => by
    obtain ⟨v2, ys, rfl, hr2, hd2⟩ := trod_slice (f := enc1) (by decide) enc1_len (fun x _ => U32 x.2) hq hc (fun fuel cs D Pl h => by
      obtain ⟨y0, y1, n, _, hl, k0, k1⟩ := trod_struct2 he h
      rw [h0.1, h0.2, hcs] at k0
      rw [h1.1, h1.2, hcu] at k1
      obtain ⟨b, hb, _, _⟩ := DataW.trod_string hs k0
      obtain ⟨x, hx, _, hw⟩ := DataW.trod_int hu k1
      rw [hc] at hl
      match cs, hl with
      | [c0, c1], _ =>
        simp at hb hx
        subst hb hx
        exact ⟨(b, x), rfl, wf_u32 hw⟩) h
    exact ⟨(v2, ys), rfl, hr2, slice_all hd2 fun _ _ h => h⟩) h
  exact ⟨v', xs, hcs2, hrow, slice_all hd fun _ _ h => h⟩
end SX
namespace SX
open Go Go.ChangeShapes Go.WideShapes Go.ChangeAt Go.RowKit
variable {P : Program} {W : World} {H0 : Type} {enc : TypeId × Value → H0}
theorem arg_three {t ti : TypeId} (hF : ∃ g0 g1 g2, P.underlying t = some (.struct #[g0, g1, g2]) ∧ (g0.type = ti ∧ g0.offset = 0) ∧ (g1.type = ti ∧ g1.offset = 1) ∧ g2.type = ti ∧ g2.offset = 2) (ui : P.underlying ti = some (.int .i64))
    (cs : P.cellsOf ti = 1 ∧ P.cellsOf t = 3) {v : Value} {d : DataW H0} {ps : List MemPlace} {r : Go.Reach} {b0 : Nat} (hv : Value.okWide P W r b0 t v) (h : DataW.Trod enc P W 0 (fun _ => true) true t v d ps) :
    ∃ a b c : Int, v = .agg #[.int .i64 a, .int .i64 b, .int .i64 c] := by
  obtain ⟨g0, g1, g2, hf, k0, k1, k2⟩ := hF
  obtain ⟨cI, cF⟩ := cs
  unfold Value.okWide at hv
  rw [hf] at hv
  obtain ⟨vs, rfl, hvs, _⟩ := hv
  obtain ⟨fuel, hh⟩ := h
  have hh : DataW.trod enc P W 0 (fun _ => true) true fuel t vs.toList = some (d, ps) := hh
  obtain ⟨xs, n, _, hx, hl, hlen, hel⟩ := DataW.trod_struct hf hh
  rw [cF] at hl
  match xs, hlen with
  | [y0, y1, y2], _ =>
    have q0 := hel 0 g0 rfl
    have q1 := hel 1 g1 rfl
    have q2 := hel 2 g2 rfl
    rw [k0.1, k0.2, cI] at q0
    rw [k1.1, k1.2, cI] at q1
    rw [k2.1, k2.2, cI] at q2
    match hc : vs.toList, hl with
    | [c0, c1, c2], _ =>
      rw [hc] at q0 q1 q2
      obtain ⟨n0, s0, _, _⟩ := DataW.trod_int ui q0
      obtain ⟨n1, s1, _, _⟩ := DataW.trod_int ui q1
      obtain ⟨n2, s2, _, _⟩ := DataW.trod_int ui q2
      simp at s0 s1 s2
      subst s0 s1 s2
      exact ⟨n0, n1, n2, by congr 1; rw [← Array.toList_inj, hc]⟩
/-- a source that says anything, as an argument -/
theorem arg_wild {t tI tG tS : TypeId} (hF : ∃ g0 g1 g2 g3, P.underlying t = some (.struct #[g0, g1, g2, g3]) ∧ (g0.type = tI ∧ g0.offset = 0) ∧ (g1.type = tG ∧ g1.offset = 1) ∧ (g2.type = tS ∧ g2.offset = 2) ∧ g3.type = tI ∧ g3.offset = 3) (uI : P.underlying tI = some (.int .i64)) (uG : P.underlying tG = some (.slice tS)) (uS : P.underlying tS = some (.slice tI))
    (cs : P.cellsOf tI = 1 ∧ P.cellsOf tG = 1 ∧ P.cellsOf tS = 1 ∧ P.cellsOf t = 4) {v : Value} {d : DataW H0} {ps : List MemPlace} {r : Go.Reach} {b0 : Nat} (hv : Value.okWide P W r b0 t v) (h : DataW.Trod enc P W 0 (fun _ => true) true t v d ps) :
    ∃ (m k : Int) (vG vN : Value) (G : List (Value × List Int)) (ns : List Int), v = .agg #[.int .i64 m, vG, vN, .int .i64 k] ∧ (Row (fun b => W.heap[b]?) vG 1 G.length (G.flatMap gcs) ∧ ∀ x ∈ G, Row (fun b => W.heap[b]?) x.1 1 x.2.length (x.2.flatMap (icsk .i64))) ∧ Row (fun b => W.heap[b]?) vN 1 ns.length (ns.flatMap (icsk .i64)) := by
  obtain ⟨g0, g1, g2, g3, hf, k0, k1, k2, k3⟩ := hF
  obtain ⟨cI, cG, cS, cF⟩ := cs
  unfold Value.okWide at hv
  rw [hf] at hv
  obtain ⟨vs, rfl, hvs, _⟩ := hv
  obtain ⟨fuel, hh⟩ := h
  have hh : DataW.trod enc P W 0 (fun _ => true) true fuel t vs.toList = some (d, ps) := hh
  obtain ⟨xs, n, _, hx, hl, hlen, hel⟩ := DataW.trod_struct hf hh
  rw [cF] at hl
  match xs, hlen with
  | [y0, y1, y2, y3], _ =>
    have q0 := hel 0 g0 rfl
    have q1 := hel 1 g1 rfl
    have q2 := hel 2 g2 rfl
    have q3 := hel 3 g3 rfl
    rw [k0.1, k0.2, cI] at q0
    rw [k1.1, k1.2, cG] at q1
    rw [k2.1, k2.2, cS] at q2
    rw [k3.1, k3.2, cI] at q3
    match hc : vs.toList, hl with
    | [c0, c1, c2, c3], _ =>
      rw [hc] at q0 q1 q2 q3
      obtain ⟨n0, s0, _, _⟩ := DataW.trod_int uI q0
      obtain ⟨v1, G, r1, hG, hGr, _⟩ := trod_graph uG uS uI cS cI q1
      obtain ⟨ns, hN⟩ := trod_ints (v := c2) uS uI cI q2
      obtain ⟨n3, s3, _, _⟩ := DataW.trod_int uI q3
      simp at s0 s3 r1
      subst s0 s3 r1
      exact ⟨n0, n3, c1, c2, G, ns, by congr 1; rw [← Array.toList_inj, hc], ⟨hG, hGr⟩, hN⟩
/-- a list of trees, as an argument -/
theorem arg_trees {t q e ts tu : TypeId} {f0 f1 : Field} (ht : P.underlying t = some (.slice q)) (hq : P.underlying q = some (.slice e)) (he : P.underlying e = some (.struct #[f0, f1])) (h0 : f0.type = ts ∧ f0.offset = 0) (h1 : f1.type = tu ∧ f1.offset = 1)
    (hs : P.underlying ts = some .string) (hu : P.underlying tu = some (.int .u32)) (hc : P.cellsOf e = 2 ∧ P.cellsOf ts = 1 ∧ P.cellsOf tu = 1 ∧ P.cellsOf q = 1) {v : Value} {d : DataW H0} {ps : List MemPlace} {r : Go.Reach} {b0 : Nat} (hv : Value.okWide P W r b0 t v) (h : DataW.Trod enc P W 0 (fun _ => true) true t v d ps) :
    ∃ xs : List (Value × List En), Row (fun b => W.heap[b]?) v 1 xs.length (xs.flatMap gTw) ∧ ∀ x ∈ xs, Row (fun b => W.heap[b]?) x.1 2 x.2.length (ens x.2) ∧ U32s x.2 := by
  obtain ⟨a0, len, cap, rfl⟩ := okWide_slice ht hv
  obtain ⟨fuel, hh⟩ := h
  obtain ⟨v', xs, r1, h1, h2⟩ := trod_trees ht hq he h0 h1 hs hu hc.1 hc.2.1 hc.2.2.1 hc.2.2.2 hh
  simp only [Value.cells, List.cons.injEq, and_true] at r1
  subst r1
  exact ⟨xs, h1, h2⟩
theorem pu_if_nil_nil {P : Program} {env : Env} {t u : TypeId} [h : TIface P t] {x : Operand} (hx : evalE env x = some .nilIface) : Pu P env (.binOp .eql t x (.const .nilIface) u) (.bool true) := fun ρ hρ _ _ _ _ _ w => by
  obtain ⟨e, he⟩ := h.und
  have hy : ρ (.const .nilIface) = .nilIface := hρ _ _ rfl
  have hg : ∀ X, eqGuard .eql t X (.const .nilIface) .nilIface .nilIface = pure () := fun X => by simp [eqGuard]
  have hb : binOp .eql t .nilIface .nilIface = (do pure (.bool (← Op.equal t .nilIface .nilIface))) := rfl
  have hd : ∀ d w, (Op.equalIn (d + 1) t .nilIface .nilIface).run P w = .ok true w := fun d w => by simp [Op.equalIn, run_underlying he]
  have hq : (Op.equal t .nilIface .nilIface).run P w = .ok true w := hd 9999 w
  simp only [execOp, hρ x _ hx, hy, Sem.run_bind, hg, hb, hq, Sem.run_pure, Result.andThen_ok]
end SX
namespace SX
open Go Go.Proofs
instance : Body Tryd.prog 2 := ⟨_, Tryd.func2, rfl, by decide⟩
instance : Body Tryd.prog 3 := ⟨_, Tryd.func3, rfl, by decide⟩
instance : Body Tryd.prog 4 := ⟨_, Tryd.func4, rfl, by decide⟩
instance : Body Tryd.prog 5 := ⟨_, Tryd.func5, rfl, by decide⟩
instance : Body Tryd.prog 6 := ⟨_, Tryd.func6, rfl, by decide⟩
instance : Body Tryd.prog 7 := ⟨_, Tryd.func7, rfl, by decide⟩
instance : Body Tryd.prog 8 := ⟨_, Tryd.func8, rfl, by decide⟩
instance : Body Tryd.prog 9 := ⟨_, Tryd.func9, rfl, by decide⟩
instance : Body Tryd.prog 10 := ⟨_, Tryd.func10, rfl, by decide⟩
instance : Body Tryd.prog 11 := ⟨_, Tryd.func11, rfl, by decide⟩
instance : Body Tryd.prog 12 := ⟨_, Tryd.func12, rfl, by decide⟩
instance : Body Tryd.prog 13 := ⟨_, Tryd.func13, rfl, by decide⟩
instance : Body Tryd.prog 14 := ⟨_, Tryd.func14, rfl, by decide⟩
instance : Body Tryd.prog 15 := ⟨_, Tryd.func15, rfl, by decide⟩
instance : Body Tryd.prog 16 := ⟨_, Tryd.func16, rfl, by decide⟩
instance : Body Tryd.prog 17 := ⟨_, Tryd.func17, rfl, by decide⟩
instance : Body Tryd.prog 18 := ⟨_, Tryd.func18, rfl, by decide⟩
instance : Body Tryd.prog 19 := ⟨_, Tryd.func19, rfl, by decide⟩
instance : Body Tryd.prog 20 := ⟨_, Tryd.func20, rfl, by decide⟩
instance : Body Tryd.prog 21 := ⟨_, Tryd.func21, rfl, by decide⟩
instance : Body Tryd.prog 22 := ⟨_, Tryd.func22, rfl, by decide⟩
instance : Body Tryd.prog 23 := ⟨_, Tryd.func23, rfl, by decide⟩
instance : Body Tryd.prog 24 := ⟨_, Tryd.func24, rfl, by decide⟩
instance : Body Tryd.prog 25 := ⟨_, Tryd.func25, rfl, by decide⟩
instance : Body Tryd.prog 26 := ⟨_, Tryd.func26, rfl, by decide⟩
instance : Body Tryd.prog 27 := ⟨_, Tryd.func27, rfl, by decide⟩
instance : Body Tryd.prog 28 := ⟨_, Tryd.func28, rfl, by decide⟩
instance : Body Tryd.prog 29 := ⟨_, Tryd.func29, rfl, by decide⟩
instance : Body Tryd.prog 30 := ⟨_, Tryd.func30, rfl, by decide⟩
instance : Body Tryd.prog 31 := ⟨_, Tryd.func31, rfl, by decide⟩
instance : Body Tryd.prog 32 := ⟨_, Tryd.func32, rfl, by decide⟩
instance : Body Tryd.prog 33 := ⟨_, Tryd.func33, rfl, by decide⟩
instance : Body Tryd.prog 34 := ⟨_, Tryd.func34, rfl, by decide⟩
instance : Body Tryd.prog 35 := ⟨_, Tryd.func35, rfl, by decide⟩
instance : Body Tryd.prog 36 := ⟨_, Tryd.func36, rfl, by decide⟩
instance : Body Tryd.prog 37 := ⟨_, Tryd.func37, rfl, by decide⟩
instance : Body Tryd.prog 38 := ⟨_, Tryd.func38, rfl, by decide⟩
instance : Body Tryd.prog 39 := ⟨_, Tryd.func39, rfl, by decide⟩
instance : Body Tryd.prog 40 := ⟨_, Tryd.func40, rfl, by decide⟩
instance : Body Tryd.prog 41 := ⟨_, Tryd.func41, rfl, by decide⟩
instance : Body Tryd.prog 42 := ⟨_, Tryd.func42, rfl, by decide⟩
instance : Body Tryd.prog 43 := ⟨_, Tryd.func43, rfl, by decide⟩
instance : Body Tryd.prog 44 := ⟨_, Tryd.func44, rfl, by decide⟩
instance : Body Tryd.prog 45 := ⟨_, Tryd.func45, rfl, by decide⟩
instance : Body Tryd.prog 46 := ⟨_, Tryd.func46, rfl, by decide⟩
instance : Body Tryd.prog 47 := ⟨_, Tryd.func47, rfl, by decide⟩
instance : Body Tryd.prog 48 := ⟨_, Tryd.func48, rfl, by decide⟩
instance : Body Tryd.prog 49 := ⟨_, Tryd.func49, rfl, by decide⟩
instance : Body Tryd.prog 50 := ⟨_, Tryd.func50, rfl, by decide⟩
instance : Body Tryd.prog 51 := ⟨_, Tryd.func51, rfl, by decide⟩
instance : Body Tryd.prog 52 := ⟨_, Tryd.func52, rfl, by decide⟩
instance : Body Tryd.prog 53 := ⟨_, Tryd.func53, rfl, by decide⟩
instance : Body Tryd.prog 54 := ⟨_, Tryd.func54, rfl, by decide⟩
instance : Body Tryd.prog 55 := ⟨_, Tryd.func55, rfl, by decide⟩
instance : Body Tryd.prog 56 := ⟨_, Tryd.func56, rfl, by decide⟩
instance : Body Tryd.prog 57 := ⟨_, Tryd.func57, rfl, by decide⟩
instance : Body Tryd.prog 58 := ⟨_, Tryd.func58, rfl, by decide⟩
instance : Body Tryd.prog 59 := ⟨_, Tryd.func59, rfl, by decide⟩
instance : Body Tryd.prog 60 := ⟨_, Tryd.func60, rfl, by decide⟩
instance : Body Tryd.prog 61 := ⟨_, Tryd.func61, rfl, by decide⟩
instance : Body Tryd.prog 62 := ⟨_, Tryd.func62, rfl, by decide⟩
instance : Body Tryd.prog 63 := ⟨_, Tryd.func63, rfl, by decide⟩
instance : Body Tryd.prog 64 := ⟨_, Tryd.func64, rfl, by decide⟩
instance : Body Tryd.prog 65 := ⟨_, Tryd.func65, rfl, by decide⟩
instance : Body Tryd.prog 66 := ⟨_, Tryd.func66, rfl, by decide⟩
instance : Body Tryd.prog 67 := ⟨_, Tryd.func67, rfl, by decide⟩
instance : Body Tryd.prog 68 := ⟨_, Tryd.func68, rfl, by decide⟩
instance : Body Tryd.prog 69 := ⟨_, Tryd.func69, rfl, by decide⟩
instance : Body Tryd.prog 70 := ⟨_, Tryd.func70, rfl, by decide⟩
instance : Body Tryd.prog 71 := ⟨_, Tryd.func71, rfl, by decide⟩
instance : Body Tryd.prog 72 := ⟨_, Tryd.func72, rfl, by decide⟩
instance : Body Tryd.prog 73 := ⟨_, Tryd.func73, rfl, by decide⟩
instance : Body Tryd.prog 74 := ⟨_, Tryd.func74, rfl, by decide⟩
instance : Body Tryd.prog 75 := ⟨_, Tryd.func75, rfl, by decide⟩
instance : Body Tryd.prog 76 := ⟨_, Tryd.func76, rfl, by decide⟩
instance : Body Tryd.prog 77 := ⟨_, Tryd.func77, rfl, by decide⟩
instance : Body Tryd.prog 78 := ⟨_, Tryd.func78, rfl, by decide⟩
instance : Body Tryd.prog 79 := ⟨_, Tryd.func79, rfl, by decide⟩
instance : Body Tryd.prog 80 := ⟨_, Tryd.func80, rfl, by decide⟩
instance : Body Tryd.prog 81 := ⟨_, Tryd.func81, rfl, by decide⟩
instance : Body Tryd.prog 82 := ⟨_, Tryd.func82, rfl, by decide⟩
instance : Body Tryd.prog 83 := ⟨_, Tryd.func83, rfl, by decide⟩
instance : Body Tryd.prog 84 := ⟨_, Tryd.func84, rfl, by decide⟩
instance : Body Tryd.prog 85 := ⟨_, Tryd.func85, rfl, by decide⟩
instance : Body Tryd.prog 86 := ⟨_, Tryd.func86, rfl, by decide⟩
instance : Body Tryd.prog 87 := ⟨_, Tryd.func87, rfl, by decide⟩
instance : Body Tryd.prog 88 := ⟨_, Tryd.func88, rfl, by decide⟩
instance : Body Tryd.prog 89 := ⟨_, Tryd.func89, rfl, by decide⟩
instance : Body Tryd.prog 90 := ⟨_, Tryd.func90, rfl, by decide⟩
instance : Body Tryd.prog 91 := ⟨_, Tryd.func91, rfl, by decide⟩
instance : Body Tryd.prog 92 := ⟨_, Tryd.func92, rfl, by decide⟩
instance : Body Tryd.prog 93 := ⟨_, Tryd.func93, rfl, by decide⟩
instance : Body Tryd.prog 95 := ⟨_, Tryd.func95, rfl, by decide⟩
instance : Body Tryd.prog 111 := ⟨_, Tryd.func111, rfl, by decide⟩
instance : Body Tryd.prog 113 := ⟨_, Tryd.func113, rfl, by decide⟩
instance : Body Tryd.prog 115 := ⟨_, Tryd.func115, rfl, by decide⟩
instance : Body Tryd.prog 116 := ⟨_, Tryd.func116, rfl, by decide⟩
instance : Body Tryd.prog 117 := ⟨_, Tryd.func117, rfl, by decide⟩
instance : Body Tryd.prog 118 := ⟨_, Tryd.func118, rfl, by decide⟩
instance : Body Tryd.prog 126 := ⟨_, Tryd.func126, rfl, by decide⟩
instance : Meth Tryd.prog 31 "Content" 13 := ⟨by intro k v w; kernel_rfl⟩
instance : Meth Tryd.prog 59 "Content" 116 := ⟨by intro k v w; kernel_rfl⟩
instance : Meth Tryd.prog 114 "Before" 118 := ⟨by intro k v w; kernel_rfl⟩
instance : TOne Tryd.prog 3 := ⟨by kernel_rfl, by kernel_rfl⟩
instance : TZero Tryd.prog 3 [(.int .i64 0)] := ⟨by kernel_rfl⟩
instance : TInt Tryd.prog 3 .i64 := ⟨Tryd.underlying3⟩
instance : TConc Tryd.prog 3 := ⟨_, Tryd.underlying3, rfl⟩
instance : TOne Tryd.prog 4 := ⟨by kernel_rfl, by kernel_rfl⟩
instance : TZero Tryd.prog 4 [(.bool false)] := ⟨by kernel_rfl⟩
instance : TBool Tryd.prog 4 := ⟨Tryd.underlying4⟩
instance : TConc Tryd.prog 4 := ⟨_, Tryd.underlying4, rfl⟩
instance : TOne Tryd.prog 5 := ⟨by kernel_rfl, by kernel_rfl⟩
instance : TZero Tryd.prog 5 [(.int .u8 0)] := ⟨by kernel_rfl⟩
instance : TInt Tryd.prog 5 .u8 := ⟨Tryd.underlying5⟩
instance : TConc Tryd.prog 5 := ⟨_, Tryd.underlying5, rfl⟩
instance : TOne Tryd.prog 9 := ⟨by kernel_rfl, by kernel_rfl⟩
instance : TZero Tryd.prog 9 [(.string ⟨#[]⟩)] := ⟨by kernel_rfl⟩
instance : TStr Tryd.prog 9 := ⟨Tryd.underlying9⟩
instance : TConc Tryd.prog 9 := ⟨_, Tryd.underlying9, rfl⟩
instance : TOne Tryd.prog 22 := ⟨by kernel_rfl, by kernel_rfl⟩
instance : TZero Tryd.prog 22 [(.slice none 0 0)] := ⟨by kernel_rfl⟩
instance : TSl Tryd.prog 22 43 1 24 := ⟨Tryd.underlying22, by kernel_rfl⟩
instance : TConc Tryd.prog 22 := ⟨_, Tryd.underlying22, rfl⟩
instance : TOne Tryd.prog 23 := ⟨by kernel_rfl, by kernel_rfl⟩
instance : TZero Tryd.prog 23 [(.slice none 0 0)] := ⟨by kernel_rfl⟩
instance : TSl Tryd.prog 23 33 1 24 := ⟨Tryd.underlying23, by kernel_rfl⟩
instance : TConc Tryd.prog 23 := ⟨_, Tryd.underlying23, rfl⟩
instance : TOne Tryd.prog 24 := ⟨by kernel_rfl, by kernel_rfl⟩
instance : TZero Tryd.prog 24 [(.int .u32 0)] := ⟨by kernel_rfl⟩
instance : TInt Tryd.prog 24 .u32 := ⟨Tryd.underlying24⟩
instance : TConc Tryd.prog 24 := ⟨_, Tryd.underlying24, rfl⟩
instance : TAgg Tryd.prog 26 4 := ⟨by kernel_rfl, by kernel_rfl⟩
instance : TZero Tryd.prog 26 [(.int .i64 0), (.int .i64 0), (.int .i64 0), (.int .u32 0)] := ⟨by kernel_rfl⟩
instance : TBld Tryd.prog 26 [(.int .i64 0), (.int .i64 0), (.int .i64 0), (.int .u32 0)] [(0, 1), (1, 1), (2, 1), (3, 1)] := ⟨by kernel_rfl, by kernel_rfl⟩
instance : TFld Tryd.prog 26 0 0 := ⟨by kernel_rfl⟩
instance : TPart Tryd.prog 26 0 0 1 false := ⟨by kernel_rfl⟩
instance : TFld Tryd.prog 26 1 1 := ⟨by kernel_rfl⟩
instance : TPart Tryd.prog 26 1 1 1 false := ⟨by kernel_rfl⟩
instance : TFld Tryd.prog 26 2 2 := ⟨by kernel_rfl⟩
instance : TPart Tryd.prog 26 2 2 1 false := ⟨by kernel_rfl⟩
instance : TFld Tryd.prog 26 3 3 := ⟨by kernel_rfl⟩
instance : TPart Tryd.prog 26 3 3 1 false := ⟨by kernel_rfl⟩
instance : TConc Tryd.prog 26 := ⟨_, Tryd.underlying26, rfl⟩
instance : TOne Tryd.prog 27 := ⟨by kernel_rfl, by kernel_rfl⟩
instance : TZero Tryd.prog 27 [(.slice none 0 0)] := ⟨by kernel_rfl⟩
instance : TSl Tryd.prog 27 4 1 1 := ⟨Tryd.underlying27, by kernel_rfl⟩
instance : TConc Tryd.prog 27 := ⟨_, Tryd.underlying27, rfl⟩
instance : TAgg Tryd.prog 29 7 := ⟨by kernel_rfl, by kernel_rfl⟩
instance : TZero Tryd.prog 29 [(.slice none 0 0), (.slice none 0 0), (.int .i64 0), (.int .i64 0), (.int .i64 0), (.int .u32 0), (.slice none 0 0)] := ⟨by kernel_rfl⟩
instance : TBld Tryd.prog 29 [(.slice none 0 0), (.slice none 0 0), (.int .i64 0), (.int .i64 0), (.int .i64 0), (.int .u32 0), (.slice none 0 0)] [(0, 1), (1, 1), (2, 4), (6, 1)] := ⟨by kernel_rfl, by kernel_rfl⟩
instance : TFld Tryd.prog 29 0 0 := ⟨by kernel_rfl⟩
instance : TPart Tryd.prog 29 0 0 1 false := ⟨by kernel_rfl⟩
instance : TFld Tryd.prog 29 1 1 := ⟨by kernel_rfl⟩
instance : TPart Tryd.prog 29 1 1 1 false := ⟨by kernel_rfl⟩
instance : TFld Tryd.prog 29 2 2 := ⟨by kernel_rfl⟩
instance : TPart Tryd.prog 29 2 2 4 true := ⟨by kernel_rfl⟩
instance : TFld Tryd.prog 29 3 6 := ⟨by kernel_rfl⟩
instance : TPart Tryd.prog 29 3 6 1 false := ⟨by kernel_rfl⟩
instance : TConc Tryd.prog 29 := ⟨_, Tryd.underlying29, rfl⟩
instance : TOne Tryd.prog 31 := ⟨by kernel_rfl, by kernel_rfl⟩
instance : TZero Tryd.prog 31 [(.pointer none)] := ⟨by kernel_rfl⟩
instance : TPtr Tryd.prog 31 := ⟨_, Tryd.underlying31⟩
instance : TConc Tryd.prog 31 := ⟨_, Tryd.underlying31, rfl⟩
instance : TOne Tryd.prog 33 := ⟨by kernel_rfl, by kernel_rfl⟩
instance : TZero Tryd.prog 33 [(.slice none 0 0)] := ⟨by kernel_rfl⟩
instance : TSl Tryd.prog 33 52 2 24 := ⟨Tryd.underlying33, by kernel_rfl⟩
instance : TConc Tryd.prog 33 := ⟨_, Tryd.underlying33, rfl⟩
instance : TOne Tryd.prog 34 := ⟨by kernel_rfl, by kernel_rfl⟩
instance : TZero Tryd.prog 34 [(.int .i64 0)] := ⟨by kernel_rfl⟩
instance : TInt Tryd.prog 34 .i64 := ⟨Tryd.underlying34⟩
instance : TConc Tryd.prog 34 := ⟨_, Tryd.underlying34, rfl⟩
instance : TOne Tryd.prog 39 := ⟨by kernel_rfl, by kernel_rfl⟩
instance : TZero Tryd.prog 39 [(.pointer none)] := ⟨by kernel_rfl⟩
instance : TPtr Tryd.prog 39 := ⟨_, Tryd.underlying39⟩
instance : TConc Tryd.prog 39 := ⟨_, Tryd.underlying39, rfl⟩
instance : TOne Tryd.prog 40 := ⟨by kernel_rfl, by kernel_rfl⟩
instance : TZero Tryd.prog 40 [(.slice none 0 0)] := ⟨by kernel_rfl⟩
instance : TSl Tryd.prog 40 72 2 24 := ⟨Tryd.underlying40, by kernel_rfl⟩
instance : TConc Tryd.prog 40 := ⟨_, Tryd.underlying40, rfl⟩
instance : TAgg Tryd.prog 42 9 := ⟨by kernel_rfl, by kernel_rfl⟩
instance : TZero Tryd.prog 42 [(.pointer none), (.slice none 0 0), (.int .i64 0), (.int .i64 0), (.int .i64 0), (.int .u32 0), (.slice none 0 0), (.slice none 0 0), (.slice none 0 0)] := ⟨by kernel_rfl⟩
instance : TBld Tryd.prog 42 [(.pointer none), (.slice none 0 0), (.int .i64 0), (.int .i64 0), (.int .i64 0), (.int .u32 0), (.slice none 0 0), (.slice none 0 0), (.slice none 0 0)] [(0, 1), (1, 1), (2, 4), (6, 1), (7, 1), (8, 1)] := ⟨by kernel_rfl, by kernel_rfl⟩
instance : TFld Tryd.prog 42 0 0 := ⟨by kernel_rfl⟩
instance : TPart Tryd.prog 42 0 0 1 false := ⟨by kernel_rfl⟩
instance : TFld Tryd.prog 42 1 1 := ⟨by kernel_rfl⟩
instance : TPart Tryd.prog 42 1 1 1 false := ⟨by kernel_rfl⟩
instance : TFld Tryd.prog 42 2 2 := ⟨by kernel_rfl⟩
instance : TPart Tryd.prog 42 2 2 4 true := ⟨by kernel_rfl⟩
instance : TFld Tryd.prog 42 3 6 := ⟨by kernel_rfl⟩
instance : TPart Tryd.prog 42 3 6 1 false := ⟨by kernel_rfl⟩
instance : TFld Tryd.prog 42 4 7 := ⟨by kernel_rfl⟩
instance : TPart Tryd.prog 42 4 7 1 false := ⟨by kernel_rfl⟩
instance : TFld Tryd.prog 42 5 8 := ⟨by kernel_rfl⟩
instance : TPart Tryd.prog 42 5 8 1 false := ⟨by kernel_rfl⟩
instance : TConc Tryd.prog 42 := ⟨_, Tryd.underlying42, rfl⟩
instance : TOne Tryd.prog 43 := ⟨by kernel_rfl, by kernel_rfl⟩
instance : TZero Tryd.prog 43 [(.slice none 0 0)] := ⟨by kernel_rfl⟩
instance : TSl Tryd.prog 43 3 1 8 := ⟨Tryd.underlying43, by kernel_rfl⟩
instance : TConc Tryd.prog 43 := ⟨_, Tryd.underlying43, rfl⟩
instance : TAgg Tryd.prog 45 3 := ⟨by kernel_rfl, by kernel_rfl⟩
instance : TZero Tryd.prog 45 [(.slice none 0 0), (.slice none 0 0), (.slice none 0 0)] := ⟨by kernel_rfl⟩
instance : TBld Tryd.prog 45 [(.slice none 0 0), (.slice none 0 0), (.slice none 0 0)] [(0, 1), (1, 1), (2, 1)] := ⟨by kernel_rfl, by kernel_rfl⟩
instance : TFld Tryd.prog 45 0 0 := ⟨by kernel_rfl⟩
instance : TPart Tryd.prog 45 0 0 1 false := ⟨by kernel_rfl⟩
instance : TFld Tryd.prog 45 1 1 := ⟨by kernel_rfl⟩
instance : TPart Tryd.prog 45 1 1 1 false := ⟨by kernel_rfl⟩
instance : TFld Tryd.prog 45 2 2 := ⟨by kernel_rfl⟩
instance : TPart Tryd.prog 45 2 2 1 false := ⟨by kernel_rfl⟩
instance : TConc Tryd.prog 45 := ⟨_, Tryd.underlying45, rfl⟩
instance : TOne Tryd.prog 46 := ⟨by kernel_rfl, by kernel_rfl⟩
instance : TZero Tryd.prog 46 [(.slice none 0 0)] := ⟨by kernel_rfl⟩
instance : TSl Tryd.prog 46 96 4 32 := ⟨Tryd.underlying46, by kernel_rfl⟩
instance : TConc Tryd.prog 46 := ⟨_, Tryd.underlying46, rfl⟩
instance : TAgg Tryd.prog 52 2 := ⟨by kernel_rfl, by kernel_rfl⟩
instance : TZero Tryd.prog 52 [(.string ⟨#[]⟩), (.int .u32 0)] := ⟨by kernel_rfl⟩
instance : TBld Tryd.prog 52 [(.string ⟨#[]⟩), (.int .u32 0)] [(0, 1), (1, 1)] := ⟨by kernel_rfl, by kernel_rfl⟩
instance : TEqN Tryd.prog 52 [true, false] := ⟨by kernel_rfl, by kernel_rfl, by kernel_rfl, by kernel_rfl⟩
instance : TFld Tryd.prog 52 0 0 := ⟨by kernel_rfl⟩
instance : TPart Tryd.prog 52 0 0 1 false := ⟨by kernel_rfl⟩
instance : TFld Tryd.prog 52 1 1 := ⟨by kernel_rfl⟩
instance : TPart Tryd.prog 52 1 1 1 false := ⟨by kernel_rfl⟩
instance : TConc Tryd.prog 52 := ⟨_, Tryd.underlying52, rfl⟩
instance : TAgg Tryd.prog 56 4 := ⟨by kernel_rfl, by kernel_rfl⟩
instance : TZero Tryd.prog 56 [(.int .i64 0), (.slice none 0 0), (.slice none 0 0), (.int .i64 0)] := ⟨by kernel_rfl⟩
instance : TBld Tryd.prog 56 [(.int .i64 0), (.slice none 0 0), (.slice none 0 0), (.int .i64 0)] [(0, 1), (1, 1), (2, 1), (3, 1)] := ⟨by kernel_rfl, by kernel_rfl⟩
instance : TFld Tryd.prog 56 0 0 := ⟨by kernel_rfl⟩
instance : TPart Tryd.prog 56 0 0 1 false := ⟨by kernel_rfl⟩
instance : TFld Tryd.prog 56 1 1 := ⟨by kernel_rfl⟩
instance : TPart Tryd.prog 56 1 1 1 false := ⟨by kernel_rfl⟩
instance : TFld Tryd.prog 56 2 2 := ⟨by kernel_rfl⟩
instance : TPart Tryd.prog 56 2 2 1 false := ⟨by kernel_rfl⟩
instance : TFld Tryd.prog 56 3 3 := ⟨by kernel_rfl⟩
instance : TPart Tryd.prog 56 3 3 1 false := ⟨by kernel_rfl⟩
instance : TConc Tryd.prog 56 := ⟨_, Tryd.underlying56, rfl⟩
instance : TAgg Tryd.prog 58 3 := ⟨by kernel_rfl, by kernel_rfl⟩
instance : TZero Tryd.prog 58 [(.int .i64 0), (.int .i64 0), (.int .i64 0)] := ⟨by kernel_rfl⟩
instance : TBld Tryd.prog 58 [(.int .i64 0), (.int .i64 0), (.int .i64 0)] [(0, 1), (1, 1), (2, 1)] := ⟨by kernel_rfl, by kernel_rfl⟩
instance : TFld Tryd.prog 58 0 0 := ⟨by kernel_rfl⟩
instance : TPart Tryd.prog 58 0 0 1 false := ⟨by kernel_rfl⟩
instance : TFld Tryd.prog 58 1 1 := ⟨by kernel_rfl⟩
instance : TPart Tryd.prog 58 1 1 1 false := ⟨by kernel_rfl⟩
instance : TFld Tryd.prog 58 2 2 := ⟨by kernel_rfl⟩
instance : TPart Tryd.prog 58 2 2 1 false := ⟨by kernel_rfl⟩
instance : TConc Tryd.prog 58 := ⟨_, Tryd.underlying58, rfl⟩
instance : TOne Tryd.prog 59 := ⟨by kernel_rfl, by kernel_rfl⟩
instance : TZero Tryd.prog 59 [(.pointer none)] := ⟨by kernel_rfl⟩
instance : TPtr Tryd.prog 59 := ⟨_, Tryd.underlying59⟩
instance : TConc Tryd.prog 59 := ⟨_, Tryd.underlying59, rfl⟩
instance : TAgg Tryd.prog 61 5 := ⟨by kernel_rfl, by kernel_rfl⟩
instance : TZero Tryd.prog 61 [(.int .i64 0), (.slice none 0 0), (.slice none 0 0), (.int .i64 0), (.slice none 0 0)] := ⟨by kernel_rfl⟩
instance : TBld Tryd.prog 61 [(.int .i64 0), (.slice none 0 0), (.slice none 0 0), (.int .i64 0), (.slice none 0 0)] [(0, 4), (4, 1)] := ⟨by kernel_rfl, by kernel_rfl⟩
instance : TFld Tryd.prog 61 0 0 := ⟨by kernel_rfl⟩
instance : TPart Tryd.prog 61 0 0 4 true := ⟨by kernel_rfl⟩
instance : TFld Tryd.prog 61 1 4 := ⟨by kernel_rfl⟩
instance : TPart Tryd.prog 61 1 4 1 false := ⟨by kernel_rfl⟩
instance : TConc Tryd.prog 61 := ⟨_, Tryd.underlying61, rfl⟩
instance : TAgg Tryd.prog 72 2 := ⟨by kernel_rfl, by kernel_rfl⟩
instance : TZero Tryd.prog 72 [(.int .i64 0), (.string ⟨#[]⟩)] := ⟨by kernel_rfl⟩
instance : TBld Tryd.prog 72 [(.int .i64 0), (.string ⟨#[]⟩)] [(0, 1), (1, 1)] := ⟨by kernel_rfl, by kernel_rfl⟩
instance : TEqN Tryd.prog 72 [false, true] := ⟨by kernel_rfl, by kernel_rfl, by kernel_rfl, by kernel_rfl⟩
instance : TFld Tryd.prog 72 0 0 := ⟨by kernel_rfl⟩
instance : TPart Tryd.prog 72 0 0 1 false := ⟨by kernel_rfl⟩
instance : TFld Tryd.prog 72 1 1 := ⟨by kernel_rfl⟩
instance : TPart Tryd.prog 72 1 1 1 false := ⟨by kernel_rfl⟩
instance : TConc Tryd.prog 72 := ⟨_, Tryd.underlying72, rfl⟩
instance : TOne Tryd.prog 77 := ⟨by kernel_rfl, by kernel_rfl⟩
instance : TZero Tryd.prog 77 [.nilIface] := ⟨by kernel_rfl⟩
instance : TOne Tryd.prog 79 := ⟨by kernel_rfl, by kernel_rfl⟩
instance : TZero Tryd.prog 79 [(.pointer none)] := ⟨by kernel_rfl⟩
instance : TPtr Tryd.prog 79 := ⟨_, Tryd.underlying79⟩
instance : TConc Tryd.prog 79 := ⟨_, Tryd.underlying79, rfl⟩
instance : TOne Tryd.prog 80 := ⟨by kernel_rfl, by kernel_rfl⟩
instance : TZero Tryd.prog 80 [(.slice none 0 0)] := ⟨by kernel_rfl⟩
instance : TSl Tryd.prog 80 85 3 72 := ⟨Tryd.underlying80, by kernel_rfl⟩
instance : TConc Tryd.prog 80 := ⟨_, Tryd.underlying80, rfl⟩
instance : TAgg Tryd.prog 82 4 := ⟨by kernel_rfl, by kernel_rfl⟩
instance : TZero Tryd.prog 82 [.nilIface, (.slice none 0 0), (.int .i64 0), (.int .i64 0)] := ⟨by kernel_rfl⟩
instance : TBld Tryd.prog 82 [.nilIface, (.slice none 0 0), (.int .i64 0), (.int .i64 0)] [(0, 1), (1, 1), (2, 1), (3, 1)] := ⟨by kernel_rfl, by kernel_rfl⟩
instance : TFld Tryd.prog 82 0 0 := ⟨by kernel_rfl⟩
instance : TPart Tryd.prog 82 0 0 1 false := ⟨by kernel_rfl⟩
instance : TFld Tryd.prog 82 1 1 := ⟨by kernel_rfl⟩
instance : TPart Tryd.prog 82 1 1 1 false := ⟨by kernel_rfl⟩
instance : TFld Tryd.prog 82 2 2 := ⟨by kernel_rfl⟩
instance : TPart Tryd.prog 82 2 2 1 false := ⟨by kernel_rfl⟩
instance : TFld Tryd.prog 82 3 3 := ⟨by kernel_rfl⟩
instance : TPart Tryd.prog 82 3 3 1 false := ⟨by kernel_rfl⟩
instance : TConc Tryd.prog 82 := ⟨_, Tryd.underlying82, rfl⟩
instance : TAgg Tryd.prog 85 3 := ⟨by kernel_rfl, by kernel_rfl⟩
instance : TZero Tryd.prog 85 [(.slice none 0 0), (.slice none 0 0), (.slice none 0 0)] := ⟨by kernel_rfl⟩
instance : TBld Tryd.prog 85 [(.slice none 0 0), (.slice none 0 0), (.slice none 0 0)] [(0, 1), (1, 1), (2, 1)] := ⟨by kernel_rfl, by kernel_rfl⟩
instance : TFld Tryd.prog 85 0 0 := ⟨by kernel_rfl⟩
instance : TPart Tryd.prog 85 0 0 1 false := ⟨by kernel_rfl⟩
instance : TFld Tryd.prog 85 1 1 := ⟨by kernel_rfl⟩
instance : TPart Tryd.prog 85 1 1 1 false := ⟨by kernel_rfl⟩
instance : TFld Tryd.prog 85 2 2 := ⟨by kernel_rfl⟩
instance : TPart Tryd.prog 85 2 2 1 false := ⟨by kernel_rfl⟩
instance : TConc Tryd.prog 85 := ⟨_, Tryd.underlying85, rfl⟩
instance : TOne Tryd.prog 89 := ⟨by kernel_rfl, by kernel_rfl⟩
instance : TZero Tryd.prog 89 [.nilIface] := ⟨by kernel_rfl⟩
instance : TOne Tryd.prog 91 := ⟨by kernel_rfl, by kernel_rfl⟩
instance : TZero Tryd.prog 91 [(.slice none 0 0)] := ⟨by kernel_rfl⟩
instance : TSl Tryd.prog 91 9 1 16 := ⟨Tryd.underlying91, by kernel_rfl⟩
instance : TConc Tryd.prog 91 := ⟨_, Tryd.underlying91, rfl⟩
instance : TAgg Tryd.prog 96 4 := ⟨by kernel_rfl, by kernel_rfl⟩
instance : TZero Tryd.prog 96 [(.string ⟨#[]⟩), (.int .u32 0), (.int .u32 0), (.int .u32 0)] := ⟨by kernel_rfl⟩
instance : TBld Tryd.prog 96 [(.string ⟨#[]⟩), (.int .u32 0), (.int .u32 0), (.int .u32 0)] [(0, 1), (1, 1), (2, 1), (3, 1)] := ⟨by kernel_rfl, by kernel_rfl⟩
instance : TEqN Tryd.prog 96 [true, false, false, false] := ⟨by kernel_rfl, by kernel_rfl, by kernel_rfl, by kernel_rfl⟩
instance : TFld Tryd.prog 96 0 0 := ⟨by kernel_rfl⟩
instance : TPart Tryd.prog 96 0 0 1 false := ⟨by kernel_rfl⟩
instance : TFld Tryd.prog 96 1 1 := ⟨by kernel_rfl⟩
instance : TPart Tryd.prog 96 1 1 1 false := ⟨by kernel_rfl⟩
instance : TFld Tryd.prog 96 2 2 := ⟨by kernel_rfl⟩
instance : TPart Tryd.prog 96 2 2 1 false := ⟨by kernel_rfl⟩
instance : TFld Tryd.prog 96 3 3 := ⟨by kernel_rfl⟩
instance : TPart Tryd.prog 96 3 3 1 false := ⟨by kernel_rfl⟩
instance : TConc Tryd.prog 96 := ⟨_, Tryd.underlying96, rfl⟩
instance : TOne Tryd.prog 101 := ⟨by kernel_rfl, by kernel_rfl⟩
instance : TZero Tryd.prog 101 [(.slice none 0 0)] := ⟨by kernel_rfl⟩
instance : TSl Tryd.prog 101 104 3 24 := ⟨Tryd.underlying101, by kernel_rfl⟩
instance : TConc Tryd.prog 101 := ⟨_, Tryd.underlying101, rfl⟩
instance : TAgg Tryd.prog 104 3 := ⟨by kernel_rfl, by kernel_rfl⟩
instance : TZero Tryd.prog 104 [(.string ⟨#[]⟩), (.int .u32 0), (.int .u32 0)] := ⟨by kernel_rfl⟩
instance : TBld Tryd.prog 104 [(.string ⟨#[]⟩), (.int .u32 0), (.int .u32 0)] [(0, 1), (1, 1), (2, 1)] := ⟨by kernel_rfl, by kernel_rfl⟩
instance : TEqN Tryd.prog 104 [true, false, false] := ⟨by kernel_rfl, by kernel_rfl, by kernel_rfl, by kernel_rfl⟩
instance : TFld Tryd.prog 104 0 0 := ⟨by kernel_rfl⟩
instance : TPart Tryd.prog 104 0 0 1 false := ⟨by kernel_rfl⟩
instance : TFld Tryd.prog 104 1 1 := ⟨by kernel_rfl⟩
instance : TPart Tryd.prog 104 1 1 1 false := ⟨by kernel_rfl⟩
instance : TFld Tryd.prog 104 2 2 := ⟨by kernel_rfl⟩
instance : TPart Tryd.prog 104 2 2 1 false := ⟨by kernel_rfl⟩
instance : TConc Tryd.prog 104 := ⟨_, Tryd.underlying104, rfl⟩
instance : TOne Tryd.prog 109 := ⟨by kernel_rfl, by kernel_rfl⟩
instance : TZero Tryd.prog 109 [(.pointer none)] := ⟨by kernel_rfl⟩
instance : TPtr Tryd.prog 109 := ⟨_, Tryd.underlying109⟩
instance : TConc Tryd.prog 109 := ⟨_, Tryd.underlying109, rfl⟩
instance : TOne Tryd.prog 111 := ⟨by kernel_rfl, by kernel_rfl⟩
instance : TZero Tryd.prog 111 [(.map none)] := ⟨by kernel_rfl⟩
instance : TMap Tryd.prog 111 3 3 := ⟨Tryd.underlying111⟩
instance : TZv Tryd.prog 3 (.int .i64 0) := ⟨by kernel_rfl⟩
instance : TConc Tryd.prog 111 := ⟨_, Tryd.underlying111, rfl⟩
instance : TOne Tryd.prog 112 := ⟨by kernel_rfl, by kernel_rfl⟩
instance : TZero Tryd.prog 112 [(.pointer none)] := ⟨by kernel_rfl⟩
instance : TPtr Tryd.prog 112 := ⟨_, Tryd.underlying112⟩
instance : TConc Tryd.prog 112 := ⟨_, Tryd.underlying112, rfl⟩
instance : TOne Tryd.prog 114 := ⟨by kernel_rfl, by kernel_rfl⟩
instance : TZero Tryd.prog 114 [(.int .i64 0)] := ⟨by kernel_rfl⟩
instance : TInt Tryd.prog 114 .i64 := ⟨Tryd.underlying114⟩
instance : TConc Tryd.prog 114 := ⟨_, Tryd.underlying114, rfl⟩
instance : TAgg Tryd.prog 116 5 := ⟨by kernel_rfl, by kernel_rfl⟩
instance : TZero Tryd.prog 116 [.nilIface, (.int .i64 0), (.map none), (.pointer none), (.int .i64 0)] := ⟨by kernel_rfl⟩
instance : TBld Tryd.prog 116 [.nilIface, (.int .i64 0), (.map none), (.pointer none), (.int .i64 0)] [(0, 1), (1, 1), (2, 1), (3, 1), (4, 1)] := ⟨by kernel_rfl, by kernel_rfl⟩
instance : TFld Tryd.prog 116 0 0 := ⟨by kernel_rfl⟩
instance : TPart Tryd.prog 116 0 0 1 false := ⟨by kernel_rfl⟩
instance : TFld Tryd.prog 116 1 1 := ⟨by kernel_rfl⟩
instance : TPart Tryd.prog 116 1 1 1 false := ⟨by kernel_rfl⟩
instance : TFld Tryd.prog 116 2 2 := ⟨by kernel_rfl⟩
instance : TPart Tryd.prog 116 2 2 1 false := ⟨by kernel_rfl⟩
instance : TFld Tryd.prog 116 3 3 := ⟨by kernel_rfl⟩
instance : TPart Tryd.prog 116 3 3 1 false := ⟨by kernel_rfl⟩
instance : TFld Tryd.prog 116 4 4 := ⟨by kernel_rfl⟩
instance : TPart Tryd.prog 116 4 4 1 false := ⟨by kernel_rfl⟩
instance : TConc Tryd.prog 116 := ⟨_, Tryd.underlying116, rfl⟩
instance : TOne Tryd.prog 123 := ⟨by kernel_rfl, by kernel_rfl⟩
instance : TZero Tryd.prog 123 [.nilFunc] := ⟨by kernel_rfl⟩
instance : TFn Tryd.prog 123 := ⟨_, _, _, Tryd.underlying123⟩
instance : TConc Tryd.prog 123 := ⟨_, Tryd.underlying123, rfl⟩
instance : TOne Tryd.prog 124 := ⟨by kernel_rfl, by kernel_rfl⟩
instance : TZero Tryd.prog 124 [(.pointer none)] := ⟨by kernel_rfl⟩
instance : TPtr Tryd.prog 124 := ⟨_, Tryd.underlying124⟩
instance : TConc Tryd.prog 124 := ⟨_, Tryd.underlying124, rfl⟩
instance : TOne Tryd.prog 132 := ⟨by kernel_rfl, by kernel_rfl⟩
instance : TZero Tryd.prog 132 [(.slice none 0 0)] := ⟨by kernel_rfl⟩
instance : TSl Tryd.prog 132 5 1 1 := ⟨Tryd.underlying132, by kernel_rfl⟩
instance : TConc Tryd.prog 132 := ⟨_, Tryd.underlying132, rfl⟩
instance : TOne Tryd.prog 134 := ⟨by kernel_rfl, by kernel_rfl⟩
instance : TZero Tryd.prog 134 [(.slice none 0 0)] := ⟨by kernel_rfl⟩
instance : TSl Tryd.prog 134 114 1 8 := ⟨Tryd.underlying134, by kernel_rfl⟩
instance : TConc Tryd.prog 134 := ⟨_, Tryd.underlying134, rfl⟩
instance : TOne Tryd.prog 135 := ⟨by kernel_rfl, by kernel_rfl⟩
instance : TZero Tryd.prog 135 [(.slice none 0 0)] := ⟨by kernel_rfl⟩
instance : TSl Tryd.prog 135 161 2 16 := ⟨Tryd.underlying135, by kernel_rfl⟩
instance : TConc Tryd.prog 135 := ⟨_, Tryd.underlying135, rfl⟩
instance : TOne Tryd.prog 136 := ⟨by kernel_rfl, by kernel_rfl⟩
instance : TZero Tryd.prog 136 [(.int .u64 0)] := ⟨by kernel_rfl⟩
instance : TInt Tryd.prog 136 .u64 := ⟨Tryd.underlying136⟩
instance : TConc Tryd.prog 136 := ⟨_, Tryd.underlying136, rfl⟩
instance : TAgg Tryd.prog 138 2 := ⟨by kernel_rfl, by kernel_rfl⟩
instance : TZero Tryd.prog 138 [(.slice none 0 0), (.int .u64 0)] := ⟨by kernel_rfl⟩
instance : TBld Tryd.prog 138 [(.slice none 0 0), (.int .u64 0)] [(0, 1), (1, 1)] := ⟨by kernel_rfl, by kernel_rfl⟩
instance : TFld Tryd.prog 138 0 0 := ⟨by kernel_rfl⟩
instance : TPart Tryd.prog 138 0 0 1 false := ⟨by kernel_rfl⟩
instance : TFld Tryd.prog 138 1 1 := ⟨by kernel_rfl⟩
instance : TPart Tryd.prog 138 1 1 1 false := ⟨by kernel_rfl⟩
instance : TConc Tryd.prog 138 := ⟨_, Tryd.underlying138, rfl⟩
instance : TOne Tryd.prog 140 := ⟨by kernel_rfl, by kernel_rfl⟩
instance : TZero Tryd.prog 140 [(.pointer none)] := ⟨by kernel_rfl⟩
instance : TPtr Tryd.prog 140 := ⟨_, Tryd.underlying140⟩
instance : TConc Tryd.prog 140 := ⟨_, Tryd.underlying140, rfl⟩
instance : TOne Tryd.prog 148 := ⟨by kernel_rfl, by kernel_rfl⟩
instance : TZero Tryd.prog 148 [(.int .u64 0)] := ⟨by kernel_rfl⟩
instance : TInt Tryd.prog 148 .u64 := ⟨Tryd.underlying148⟩
instance : TConc Tryd.prog 148 := ⟨_, Tryd.underlying148, rfl⟩
instance : TAgg Tryd.prog 151 1 := ⟨by kernel_rfl, by kernel_rfl⟩
instance : TZero Tryd.prog 151 [(.slice none 0 0)] := ⟨by kernel_rfl⟩
instance : TBld Tryd.prog 151 [(.slice none 0 0)] [(0, 1)] := ⟨by kernel_rfl, by kernel_rfl⟩
instance : TFld Tryd.prog 151 0 0 := ⟨by kernel_rfl⟩
instance : TPart Tryd.prog 151 0 0 1 false := ⟨by kernel_rfl⟩
instance : TConc Tryd.prog 151 := ⟨_, Tryd.underlying151, rfl⟩
instance : TAgg Tryd.prog 153 256 := ⟨by kernel_rfl, by kernel_rfl⟩
instance : TArr Tryd.prog 153 256 24 1 := ⟨Tryd.underlying153, by kernel_rfl⟩
instance : TConc Tryd.prog 153 := ⟨_, Tryd.underlying153, rfl⟩
instance : TOne Tryd.prog 156 := ⟨by kernel_rfl, by kernel_rfl⟩
instance : TZero Tryd.prog 156 [(.pointer none)] := ⟨by kernel_rfl⟩
instance : TPtr Tryd.prog 156 := ⟨_, Tryd.underlying156⟩
instance : TConc Tryd.prog 156 := ⟨_, Tryd.underlying156, rfl⟩
instance : TAgg Tryd.prog 161 2 := ⟨by kernel_rfl, by kernel_rfl⟩
instance : TZero Tryd.prog 161 [(.int .i64 0), (.int .u64 0)] := ⟨by kernel_rfl⟩
instance : TBld Tryd.prog 161 [(.int .i64 0), (.int .u64 0)] [(0, 1), (1, 1)] := ⟨by kernel_rfl, by kernel_rfl⟩
instance : TEq2 Tryd.prog 161 := ⟨by kernel_rfl, by kernel_rfl⟩
instance : TFld Tryd.prog 161 0 0 := ⟨by kernel_rfl⟩
instance : TPart Tryd.prog 161 0 0 1 false := ⟨by kernel_rfl⟩
instance : TFld Tryd.prog 161 1 1 := ⟨by kernel_rfl⟩
instance : TPart Tryd.prog 161 1 1 1 false := ⟨by kernel_rfl⟩
instance : TConc Tryd.prog 161 := ⟨_, Tryd.underlying161, rfl⟩
instance : TOne Tryd.prog 163 := ⟨by kernel_rfl, by kernel_rfl⟩
instance : TZero Tryd.prog 163 [(.slice none 0 0)] := ⟨by kernel_rfl⟩
instance : TSl Tryd.prog 163 136 1 8 := ⟨Tryd.underlying163, by kernel_rfl⟩
instance : TConc Tryd.prog 163 := ⟨_, Tryd.underlying163, rfl⟩
instance : TAgg Tryd.prog 165 2 := ⟨by kernel_rfl, by kernel_rfl⟩
instance : TZero Tryd.prog 165 [(.int .i64 0), (.slice none 0 0)] := ⟨by kernel_rfl⟩
instance : TBld Tryd.prog 165 [(.int .i64 0), (.slice none 0 0)] [(0, 1), (1, 1)] := ⟨by kernel_rfl, by kernel_rfl⟩
instance : TFld Tryd.prog 165 0 0 := ⟨by kernel_rfl⟩
instance : TPart Tryd.prog 165 0 0 1 false := ⟨by kernel_rfl⟩
instance : TFld Tryd.prog 165 1 1 := ⟨by kernel_rfl⟩
instance : TPart Tryd.prog 165 1 1 1 false := ⟨by kernel_rfl⟩
instance : TConc Tryd.prog 165 := ⟨_, Tryd.underlying165, rfl⟩
instance : TOne Tryd.prog 168 := ⟨by kernel_rfl, by kernel_rfl⟩
instance : TZero Tryd.prog 168 [(.int .i64 0)] := ⟨by kernel_rfl⟩
instance : TInt Tryd.prog 168 .i64 := ⟨Tryd.underlying168⟩
instance : TConc Tryd.prog 168 := ⟨_, Tryd.underlying168, rfl⟩
instance : TOne Tryd.prog 179 := ⟨by kernel_rfl, by kernel_rfl⟩
instance : TZero Tryd.prog 179 [(.int .u64 0)] := ⟨by kernel_rfl⟩
instance : TInt Tryd.prog 179 .u64 := ⟨Tryd.underlying179⟩
instance : TConc Tryd.prog 179 := ⟨_, Tryd.underlying179, rfl⟩
instance : TOne Tryd.prog 183 := ⟨by kernel_rfl, by kernel_rfl⟩
instance : TZero Tryd.prog 183 [(.pointer none)] := ⟨by kernel_rfl⟩
instance : TPtr Tryd.prog 183 := ⟨_, Tryd.underlying183⟩
instance : TConc Tryd.prog 183 := ⟨_, Tryd.underlying183, rfl⟩
instance : TAgg Tryd.prog 186 64 := ⟨by kernel_rfl, by kernel_rfl⟩
instance : TZero Tryd.prog 186 [(.int .u8 0), (.int .u8 0), (.int .u8 0), (.int .u8 0), (.int .u8 0), (.int .u8 0), (.int .u8 0), (.int .u8 0), (.int .u8 0), (.int .u8 0), (.int .u8 0), (.int .u8 0), (.int .u8 0), (.int .u8 0), (.int .u8 0), (.int .u8 0), (.int .u8 0), (.int .u8 0), (.int .u8 0), (.int .u8 0), (.int .u8 0), (.int .u8 0), (.int .u8 0), (.int .u8 0), (.int .u8 0), (.int .u8 0), (.int .u8 0), (.int .u8 0), (.int .u8 0), (.int .u8 0), (.int .u8 0), (.int .u8 0), (.int .u8 0), (.int .u8 0), (.int .u8 0), (.int .u8 0), (.int .u8 0), (.int .u8 0), (.int .u8 0), (.int .u8 0), (.int .u8 0), (.int .u8 0), (.int .u8 0), (.int .u8 0), (.int .u8 0), (.int .u8 0), (.int .u8 0), (.int .u8 0), (.int .u8 0), (.int .u8 0), (.int .u8 0), (.int .u8 0), (.int .u8 0), (.int .u8 0), (.int .u8 0), (.int .u8 0), (.int .u8 0), (.int .u8 0), (.int .u8 0), (.int .u8 0), (.int .u8 0), (.int .u8 0), (.int .u8 0), (.int .u8 0)] := ⟨by kernel_rfl⟩
instance : TArr Tryd.prog 186 64 5 1 := ⟨Tryd.underlying186, by kernel_rfl⟩
instance : TConc Tryd.prog 186 := ⟨_, Tryd.underlying186, rfl⟩
instance : TOne Tryd.prog 187 := ⟨by kernel_rfl, by kernel_rfl⟩
instance : TZero Tryd.prog 187 [(.pointer none)] := ⟨by kernel_rfl⟩
instance : TPtr Tryd.prog 187 := ⟨_, Tryd.underlying187⟩
instance : TConc Tryd.prog 187 := ⟨_, Tryd.underlying187, rfl⟩
instance : TOne Tryd.prog 203 := ⟨by kernel_rfl, by kernel_rfl⟩
instance : TZero Tryd.prog 203 [(.pointer none)] := ⟨by kernel_rfl⟩
instance : TPtr Tryd.prog 203 := ⟨_, Tryd.underlying203⟩
instance : TConc Tryd.prog 203 := ⟨_, Tryd.underlying203, rfl⟩
end SX
namespace SX
open Go Go.Proofs

/-- the table of the de Bruijn numbers lies there -/
def tabV : List Value := Lib.deBruijn64tab.map fun n => Value.int .u8 (n : Nat)
theorem tab_get {μ : PH} {g : Nat} (h : RowAt μ g 0 tabV) {j k : Nat} (hj : j < 64) (hk : Lib.deBruijn64tab.getD j 0 = k) : CellAt μ g j (.int .u8 (k : Nat)) := by
  have hlen : Lib.deBruijn64tab.length = 64 := rfl
  have := h j (.int .u8 (k : Nat)) (by
    unfold tabV
    rw [List.getElem?_map, List.getElem?_eq_getElem (by omega)]
    simp only [Option.map_some]
    rw [← hk, List.getD_eq_getElem?_getD, List.getElem?_eq_getElem (by omega)]; rfl)
  rwa [Nat.zero_add] at this

theorem tz_spec (μ : PH) (w : BitVec 64) (hT : RowAt μ 1 0 tabV) (hw : w ≠ 0#64) : Spec Tryd.prog 87 [wv w] [ro μ] (fun v L => v = .int .i64 (ctz w : Nat) ∧ L = [ro μ]) := by
 obtain ⟨h1, h2⟩ := ctz_idx hw
 have hc := tab_get hT h1 h2
 have hz := (ctz_spec hw).1
 have hn : ¬ ((w.toNat : Int) = 0) := fun e => hw (BitVec.eq_of_toNat_eq (by simpa using e))
 refine Spec.of 14 Tryd.func87 rfl rfl rfl ?_
 refine swp_seq ?_
 refine swp_region ?_
 refine s_pu (pu_assign rfl) ?_
 refine swl_sub _ (.cons (t := 0) rfl .nil) ?_
 refine swl_nil ?_
 refine then_n ?_
 refine swp_seq ?_
 refine swp_seq ?_
 refine swp_region ?_
 refine s_pu (pu_move rfl) ?_
 refine s_pu (pu_eql rfl rfl) ?_
 refine swl_sub _ (.cons (t := 0) rfl (.cons (t := 4) rfl .nil)) ?_
 refine swl_nil ?_
 refine then_n ?_
 refine swp_cond (b := _) rfl (fun h4 => absurd (of_decide_eq_true h4) hn) (fun h4 => ?_)
 refine swp_skip ?_
 refine then_n ?_
 refine swp_seq ?_
 refine swp_region ?_
 refine s_pu (pu_move rfl) ?_
 refine s_pu (pu_move rfl) ?_
 refine s_pu (pu_neg_w (a := w) rfl) ?_
 refine s_pu (pu_and_w (a := w) (b := -w) rfl rfl) ?_
 refine s_pu (pu_mul_w (a := w &&& -w) (b := 285870213051353865#64) rfl rfl) ?_
 refine s_pu (pu_shr_w (a := (w &&& -w) * 285870213051353865#64) 58 rfl rfl (by decide)) ?_
 refine s_pu (pu_indexAddr_arr (((w &&& -w) * 285870213051353865#64) >>> 58).toNat rfl rfl (by omega) (by omega) (by rw [Int.toNat_natCast]; omega)) ?_
 refine s_rd (rd_ro rfl hc) ?_
 first | refine s_pu (pu_conv_i64 rfl (by omega) (by omega)) ?_ | refine s_pu (pu_conv rfl) ?_
 refine s_pu (pu_assign rfl) ?_
 refine swl_sub _ (.cons (t := 2) rfl .nil) ?_
 refine swl_nil ?_
 refine then_n ?_
 refine swp_ret ?_
 exact done_ret [ro μ] (.tmp rfl .nil) ⟨rfl, rfl⟩ (by repeat (first | exact Split.nil | (apply Split.cons; (repeat (first | with_reducible exact Take.here | apply Take.there)))))
end SX
namespace SX
open Go Go.Proofs

def ucs (w : BitVec 64) : List Value := [wv w]
theorem ucs_len (w : BitVec 64) : (ucs w).length = 1 := rfl
def wcells (ws : List (BitVec 64)) : List Value := ws.flatMap ucs
theorem wcells_len (ws : List (BitVec 64)) : (wcells ws).length = ws.length := by unfold wcells; rw [flat_length ucs_len, Nat.mul_one]
theorem wcells_get {ws : List (BitVec 64)} {ex : List Value} {i : Nat} {w : BitVec 64} (h : ws[i]? = some w) : (wcells ws ++ ex)[i]? = some (wv w) := by
  have := flat_get ucs_len ws ex i w h 0 (wv w) rfl
  rwa [Nat.mul_one, Nat.add_zero] at this
theorem wcells_set {ws : List (BitVec 64)} {ex : List Value} {i : Nat} {w : BitVec 64} (h : i < ws.length) : (wcells ws ++ ex).set i (wv w) = wcells (ws.set i w) ++ ex := by
  rw [List.set_append_left _ _ (by rw [wcells_len]; exact h)]
  congr 1
  apply List.ext_getElem?
  intro j
  have key : ∀ (ws : List (BitVec 64)) (j : Nat), (wcells ws)[j]? = (ws[j]?).map wv := by
    intro ws j
    cases hj : ws[j]? with
    | none =>
      rw [List.getElem?_eq_none_iff] at hj
      simp only [Option.map_none]
      rw [List.getElem?_eq_none_iff, wcells_len]; exact hj
    | some w => have := wcells_get (ex := []) hj; rwa [List.append_nil] at this
  rw [key, List.getElem?_set, List.getElem?_set, key, wcells_len]
  split
  · simp
  · rfl
/-- is bit k there? -/
def mem (ws : List (BitVec 64)) (k : Nat) : Bool := (ws.getD (k / 64) 0#64).getLsbD (k % 64)
theorem mem_at {ws : List (BitVec 64)} {i : Nat} {w : BitVec 64} (h : ws[i]? = some w) {k : Nat} (hk : k / 64 = i) : mem ws k = w.getLsbD (k % 64) := by
  unfold mem; rw [hk, List.getD_eq_getElem?_getD, h]; rfl
theorem bit_and_one (w : BitVec 64) (r : Nat) : (decide ((((w >>> r) &&& 1#64).toNat : Int) = 0)) = !w.getLsbD r := by
  have e : ((w >>> r) &&& 1#64).toNat = (w.getLsbD r).toNat := by
    rw [BitVec.toNat_and, BitVec.toNat_ushiftRight, show (1#64 : BitVec 64).toNat = 1 from rfl, Nat.and_one_is_mod, Nat.shiftRight_eq_div_pow]
    show _ = (w.toNat.testBit r).toNat
    rw [Nat.testBit_eq_decide_div_mod_eq]
    rcases Nat.mod_two_eq_zero_or_one (w.toNat / 2 ^ r) with h | h <;> simp [h]
  rw [e]
  cases w.getLsbD r <;> simp

/-- a set of n numbers, laid open: its struct and its words -/
abbrev opn (p n : Nat) (v : Value) (ws : List (BitVec 64)) : List Assn := [blk p 165 [.int .i64 (n : Nat), v], own 136 1 v ws.length (wcells ws)]
/-- the words of a set of n -/
def Wf (n : Nat) (ws : List (BitVec 64)) (S : Nat → Bool) : Prop := ws.length = (n + 63) / 64 ∧ n ≤ 1048576 ∧ (∀ k, mem ws k = S k) ∧ ∀ k, n ≤ k → S k = false
def mset (p n : Nat) (S : Nat → Bool) : Assn := exA fun x : {x : Value × List (BitVec 64) // Wf n x.2 S} => opn p n x.1.1 x.1.2
theorem mset_close {p n : Nat} {S : Nat → Bool} {v : Value} {ws : List (BitVec 64)} {L : List Assn} (h : Wf n ws S) : Ent (blk p 165 [.int .i64 (n : Nat), v] :: own 136 1 v ws.length (wcells ws) :: L) (mset p n S :: L) :=
  ent_ex (F := fun x : {x : Value × List (BitVec 64) // Wf n x.2 S} => opn p n x.1.1 x.1.2) ⟨(v, ws), h⟩ (by repeat (first | exact Split.nil | (apply Split.cons; (repeat (first | with_reducible exact Take.here | apply Take.there)))))
theorem wown_close {b cap : Nat} {ws : List (BitVec 64)} {ex : List Value} {L : List Assn} (h1 : ws.length ≤ cap) (h2 : cap ≤ maxLen) (h4 : ex.length = (cap - ws.length) * 1) :
    Ent (blk b 136 (wcells ws ++ ex) :: L) (own 136 1 (.slice (some ⟨b, 0, none⟩) ws.length cap) ws.length (wcells ws) :: L) := own_close (by rw [wcells_len, Nat.mul_one]) h4 h1 h2

theorem size_b (p n : Nat) (v : Value) : Spec Tryd.prog 70 [.pointer (some ⟨p, 0, none⟩)] [blk p 165 [.int .i64 (n : Nat), v]] (fun r L => r = .int .i64 (n : Nat) ∧ L = [blk p 165 [.int .i64 (n : Nat), v]]) := by
 refine Spec.of 9 Tryd.func70 rfl rfl rfl ?_
 refine swp_seq ?_
 refine swp_region ?_
 refine s_pu (pu_assign rfl) ?_
 refine swl_sub _ (.cons (t := 0) rfl .nil) ?_
 refine swl_nil ?_
 refine then_n ?_
 refine swp_seq ?_
 refine swp_seq ?_
 refine swp_region ?_
 refine s_pu (pu_move rfl) ?_
 refine s_pu (pu_ptr_eq_nil rfl rfl) ?_
 refine swl_sub _ (.cons (t := 0) rfl (.cons (t := 4) rfl .nil)) ?_
 refine swl_nil ?_
 refine then_n ?_
 refine swp_cond (b := _) rfl (fun h4 => by cases h4) (fun h4 => ?_)
 refine swp_skip ?_
 refine then_n ?_
 refine swp_seq ?_
 refine swp_region ?_
 refine s_pu (pu_move rfl) ?_
 first | refine s_pu (pu_nilCheck rfl) ?_ | refine s_pu (pu_nilCheck_fn rfl) ?_ | refine s_pu (pu_nilCheck_if rfl) ?_
 first | refine s_pu (pu_fieldAddr0 rfl) ?_ | refine s_pu (pu_fieldAddr rfl) ?_
 refine s_rd (rd_load rfl rfl) ?_
 refine s_pu (pu_assign rfl) ?_
 refine swl_sub _ (.cons (t := 2) rfl .nil) ?_
 refine swl_nil ?_
 refine then_n ?_
 refine swp_ret ?_
 exact done_ret _ (.tmp rfl .nil) ⟨rfl, rfl⟩ (by repeat (first | exact Split.nil | (apply Split.cons; (repeat (first | with_reducible exact Take.here | apply Take.there)))))
theorem has_o (p n : Nat) (v : Value) (ws : List (BitVec 64)) (k : Int) (hl : ws.length = (n + 63) / 64) (hn : n ≤ 1048576) :
  Spec Tryd.prog 56 [.pointer (some ⟨p, 0, none⟩), .int .i64 k] (opn p n v ws) (fun r L => r = .bool (decide (0 ≤ k) && (decide (k < n) && mem ws k.toNat)) ∧ L = opn p n v ws) := by
 refine Spec.of 28 Tryd.func56 rfl rfl rfl ?_
 refine swp_seq ?_
 refine swp_region ?_
 refine s_pu (pu_assign rfl) ?_
 refine swl_sub _ (.cons (t := 0) rfl (.cons (t := 1) rfl .nil)) ?_
 refine swl_nil ?_
 refine then_n ?_
 refine swp_seq ?_
 refine swp_region ?_
 refine s_pu (pu_move rfl) ?_
 refine s_pu (pu_geq rfl rfl) ?_
 refine s_pu (pu_move rfl) ?_
 refine s_split 7 rfl (fun h7 => ?_) (fun h7 => ?_)
 ·skip
  refine s_on rfl rfl ?_
  refine s_pu (pu_move rfl) ?_
  refine s_on rfl rfl ?_
  refine s_pu (pu_move rfl) ?_
  refine s_on rfl rfl ?_
  refine s_ef (ef_fn (size_b p n v) rfl rfl (by repeat (first | exact Split.nil | (apply Split.cons; (repeat (first | with_reducible exact Take.here | apply Take.there)))))) ?_
  rintro v1 L1 ⟨rfl, rfl⟩
  refine swl_app ?_
  refine s_on rfl rfl ?_
  refine s_pu (pu_lss rfl rfl) ?_
  first | refine s_pu (pu_pick_t rfl rfl) ?_ | refine s_pu (pu_pick_f rfl rfl) ?_
  refine s_pu (pu_move rfl) ?_
  refine s_split 13 rfl (fun h13 => ?_) (fun h13 => ?_)
  ·skip
   have h7' := of_decide_eq_true h7
   have h13' := of_decide_eq_true h13
   obtain ⟨m, rfl⟩ : ∃ m : Nat, k = m := ⟨k.toNat, by omega⟩
   have hmi : m / 64 < ws.length := by omega
   obtain ⟨w, hw⟩ : ∃ w, ws[m / 64]? = some w := ⟨_, List.getElem?_eq_getElem hmi⟩
   refine swl_own (by repeat (first | with_reducible exact Take.here | apply Take.there)) (fun h0 l0 _ => by omega) (fun b cap ex hv h1 h2 h3 h4 => ?_)
   subst hv
   refine s_on rfl rfl ?_
   refine s_pu (pu_move rfl) ?_
   refine s_on rfl rfl ?_
   first | refine s_pu (pu_nilCheck rfl) ?_ | refine s_pu (pu_nilCheck_fn rfl) ?_ | refine s_pu (pu_nilCheck_if rfl) ?_
   refine s_on rfl rfl ?_
   first | refine s_pu (pu_fieldAddr0 rfl) ?_ | refine s_pu (pu_fieldAddr rfl) ?_
   refine s_on rfl rfl ?_
   refine s_rd (rd_load rfl rfl) ?_
   refine s_on rfl rfl ?_
   refine s_pu (pu_move rfl) ?_
   refine s_on rfl rfl ?_
   refine s_pu (pu_quo_as ((m / 64 : Nat) : Int) rfl rfl (by omega) (by omega) (by omega) (by omega)) ?_
   refine s_on rfl rfl ?_
   refine s_pu (pu_indexAddr (m / 64) rfl rfl (by omega) (by omega) (by omega)) ?_
   refine s_on rfl rfl ?_
   refine s_rd (rd_load rfl (wcells_get hw)) ?_
   refine s_on rfl rfl ?_
   refine s_pu (pu_move rfl) ?_
   refine s_on rfl rfl ?_
   refine s_pu (pu_rem_as ((m % 64 : Nat) : Int) rfl rfl (by omega) (by omega) (by omega)) ?_
   refine s_on rfl rfl ?_
   refine s_pu (pu_shr_w (a := w) (m % 64) rfl rfl (by omega)) ?_
   refine s_on rfl rfl ?_
   refine s_pu (pu_and_w (b := 1#64) rfl rfl) ?_
   refine s_on rfl rfl ?_
   refine s_pu (pu_neq rfl rfl) ?_
   first | refine s_pu (pu_pick_t rfl rfl) ?_ | refine s_pu (pu_pick_f rfl rfl) ?_
   refine s_pu (pu_assign rfl) ?_
   refine swl_sub _ (.cons (t := 4) rfl .nil) ?_
   refine swl_nil ?_
   refine then_n ?_
   refine swp_ret ?_
   exact done_retE (opn p n _ ws) (.tmp rfl .nil) ⟨by simp only [resV, h7, h13, Bool.true_and, Int.toNat_natCast]; rw [bit_and_one w _, Bool.not_not, mem_at hw rfl], rfl⟩
    ((Split.ent' (K := [blk b 136 (wcells ws ++ ex), blk p 165 [.int .i64 (n : Nat), .slice (some ⟨b, 0, none⟩) ws.length cap]]) (by repeat (first | exact Split.nil | (apply Split.cons; (repeat (first | with_reducible exact Take.here | apply Take.there)))))).trans ((wown_close h1 h2 h4).trans Ent.swap))
  ·skip
   refine s_off rfl rfl rfl ?_
   refine s_off rfl rfl rfl ?_
   refine s_off rfl rfl rfl ?_
   refine s_off rfl rfl rfl ?_
   refine s_off rfl rfl rfl ?_
   refine s_off rfl rfl rfl ?_
   refine s_off rfl rfl rfl ?_
   refine s_off rfl rfl rfl ?_
   refine s_off rfl rfl rfl ?_
   refine s_off rfl rfl rfl ?_
   refine s_off rfl rfl rfl ?_
   refine s_off rfl rfl rfl ?_
   refine s_off rfl rfl rfl ?_
   first | refine s_pu (pu_pick_t rfl rfl) ?_ | refine s_pu (pu_pick_f rfl rfl) ?_
   refine s_pu (pu_assign rfl) ?_
   refine swl_sub _ (.cons (t := 4) rfl .nil) ?_
   refine swl_nil ?_
   refine then_n ?_
   refine swp_ret ?_
   exact done_ret (opn p n v ws) (.tmp rfl .nil) ⟨by simp [resV, *], rfl⟩ (by repeat (first | exact Split.nil | (apply Split.cons; (repeat (first | with_reducible exact Take.here | apply Take.there)))))
 ·skip
  refine s_off rfl rfl rfl ?_
  refine s_off rfl rfl rfl ?_
  refine s_off rfl rfl rfl ?_
  refine s_off rfl rfl rfl ?_
  first | refine s_pu (pu_pick_t rfl rfl) ?_ | refine s_pu (pu_pick_f rfl rfl) ?_
  refine s_pu (pu_move rfl) ?_
  refine s_off rfl rfl rfl ?_
  refine s_off rfl rfl rfl ?_
  refine s_off rfl rfl rfl ?_
  refine s_off rfl rfl rfl ?_
  refine s_off rfl rfl rfl ?_
  refine s_off rfl rfl rfl ?_
  refine s_off rfl rfl rfl ?_
  refine s_off rfl rfl rfl ?_
  refine s_off rfl rfl rfl ?_
  refine s_off rfl rfl rfl ?_
  refine s_off rfl rfl rfl ?_
  refine s_off rfl rfl rfl ?_
  refine s_off rfl rfl rfl ?_
  first | refine s_pu (pu_pick_t rfl rfl) ?_ | refine s_pu (pu_pick_f rfl rfl) ?_
  refine s_pu (pu_assign rfl) ?_
  refine swl_sub _ (.cons (t := 4) rfl .nil) ?_
  refine swl_nil ?_
  refine then_n ?_
  refine swp_ret ?_
  exact done_ret (opn p n v ws) (.tmp rfl .nil) ⟨by simp [resV, *], rfl⟩ (by repeat (first | exact Split.nil | (apply Split.cons; (repeat (first | with_reducible exact Take.here | apply Take.there)))))
def clampM (k : Int) : Nat := (min (max k 0) 1048576).toNat
theorem new_m (k : Int) : Spec Tryd.prog 53 [.int .i64 k] [] (fun r L => ∃ p, r = .pointer (some ⟨p, 0, none⟩) ∧ L = [mset p (clampM k) (fun _ => false)]) := by
 have hc : min (max k 0) 1048576 = ((clampM k : Nat) : Int) := by unfold clampM; omega
 have hle : clampM k ≤ 1048576 := by unfold clampM; omega
 generalize clampM k = n at hc hle
 refine Spec.of 13 Tryd.func53 rfl rfl rfl ?_
 refine swp_seq ?_
 refine swp_region ?_
 refine s_pu (pu_assign rfl) ?_
 refine swl_sub _ (.cons (t := 0) rfl .nil) ?_
 refine swl_nil ?_
 refine then_n ?_
 refine swp_seq ?_
 refine swp_region ?_
 refine s_pu (pu_move rfl) ?_
 refine s_pu (pu_max2 rfl rfl) ?_
 refine s_pu (pu_min2 rfl rfl) ?_
 refine s_pu (pu_assign rfl) ?_
 refine swl_sub _ (.cons (t := 0) rfl .nil) ?_
 rw [hc]
 refine swl_nil ?_
 refine then_n ?_
 refine swp_seq ?_
 refine swp_region ?_
 refine s_pu (pu_move rfl) ?_
 refine s_pu (pu_move rfl) ?_
 first | refine s_pu (pu_add_in rfl rfl (by omega) (by omega)) ?_ | refine s_pu (pu_add rfl rfl) ?_
 refine s_pu (pu_quo_as (((n + 63) / 64 : Nat) : Int) rfl rfl (by omega) (by omega) (by omega) (by omega)) ?_
 refine s_ef (ef_make1 ((n + 63) / 64) rfl rfl rfl (by omega) (by simp only [maxLen]; omega)) ?_
 rintro b
 skip
 refine s_pu (pu_bld (qs := [(0, _), (1, _)]) rfl) ?_
 refine s_ef (ef_box rfl rfl) ?_
 intro b12
 refine s_pu (pu_assign rfl) ?_
 refine swl_sub _ (.cons (t := 2) rfl .nil) ?_
 refine swl_nil ?_
 refine then_n ?_
 refine swp_ret ?_
 refine done_retE [mset b12 n (fun _ => false)] (.tmp rfl .nil) ⟨b12, rfl, rfl⟩ ?_
 have hw : wcells (List.replicate ((n + 63) / 64) 0#64) = List.replicate ((n + 63) / 64) (Value.int .u64 0) := by
  apply List.ext_getElem?
  intro j
  rcases Nat.lt_or_ge j ((n + 63) / 64) with h | h
  ·have := wcells_get (ws := List.replicate ((n + 63) / 64) 0#64) (ex := []) (i := j) (w := 0#64) (by simp [h])
   rw [List.append_nil] at this
   rw [this]; simp [h]
  ·rw [List.getElem?_eq_none (by rw [wcells_len, List.length_replicate]; exact h), List.getElem?_eq_none (by rw [List.length_replicate]; exact h)]
 rw [← hw]
 have hwf : Wf n (List.replicate ((n + 63) / 64) 0#64) (fun _ => false) := ⟨by simp, hle, fun k => by
  unfold mem
  rw [List.getD_eq_getElem?_getD]
  rcases Nat.lt_or_ge (k / 64) ((n + 63) / 64) with h | h
  ·simp [h]
  ·simp [Nat.not_lt.2 h], fun _ _ => rfl⟩
 have hcl := wown_close (b := b) (cap := (n + 63) / 64) (ws := List.replicate ((n + 63) / 64) 0#64) (ex := []) (L := [blk b12 165 [.int .i64 (n : Nat), .slice (some ⟨b, 0, none⟩) ((n + 63) / 64) ((n + 63) / 64)]]) (by simp) (by simp only [maxLen]; omega) (by simp)
 rw [List.append_nil, List.length_replicate] at hcl
 have hmc := mset_close (p := b12) (v := .slice (some ⟨b, 0, none⟩) ((n + 63) / 64) ((n + 63) / 64)) (L := []) hwf
 rw [List.length_replicate] at hmc
 exact (Split.ent' (K := [blk b 136 (wcells (List.replicate ((n + 63) / 64) 0#64)), blk b12 165 [.int .i64 (n : Nat), .slice (some ⟨b, 0, none⟩) ((n + 63) / 64) ((n + 63) / 64)]]) (by repeat (first | exact Split.nil | (apply Split.cons; (repeat (first | with_reducible exact Take.here | apply Take.there)))))).trans (hcl.trans (Ent.swap.trans hmc))
end SX
namespace SX
open Go Go.Proofs

theorem one_shl (r i : Nat) (hi : i < 64) : ((1#64 : BitVec 64) <<< r).getLsbD i = decide (i = r) := by
  rw [BitVec.getLsbD_shiftLeft]
  by_cases h : i = r
  · subst h; simp [hi]
  · by_cases h2 : i < r
    · simp [h2, h]
    · have : i - r ≠ 0 := by omega
      simp [h2, h, this]
theorem mem_set {ws : List (BitVec 64)} {i : Nat} (w : BitVec 64) (hi : i < ws.length) (j : Nat) : mem (ws.set i w) j = if j / 64 = i then w.getLsbD (j % 64) else mem ws j := by
  unfold mem
  rw [List.getD_eq_getElem?_getD, List.getElem?_set]
  split
  · rename_i h; subst h; simp
  · rename_i h; rw [if_neg (Ne.symm h), List.getD_eq_getElem?_getD]
theorem mem_put {ws : List (BitVec 64)} {m : Nat} {w : BitVec 64} (hw : ws[m / 64]? = some w) (j : Nat) : mem (ws.set (m / 64) (w ||| (1#64 <<< (m % 64)))) j = (mem ws j || decide (j = m)) := by
  have hi : m / 64 < ws.length := (List.getElem?_eq_some_iff.1 hw).1
  rw [mem_set _ hi]
  split
  · rename_i h
    rw [BitVec.getLsbD_or, one_shl _ _ (Nat.mod_lt _ (by decide)), mem_at hw h]
    congr 1
    by_cases e : j = m
    · subst e; simp
    · have : j % 64 ≠ m % 64 := by omega
      simp [e, this]
  · rename_i h
    have : j ≠ m := fun e => h (by rw [e])
    simp [this]
theorem put_o (p n : Nat) (v : Value) (ws : List (BitVec 64)) (k : Int) (hl : ws.length = (n + 63) / 64) (hn : n ≤ 1048576) :
  Spec Tryd.prog 55 [.pointer (some ⟨p, 0, none⟩), .int .i64 k] (opn p n v ws) (fun r L => r = .bool (decide (0 ≤ k) && (decide (k < n) && !mem ws k.toNat)) ∧ ∃ ws', ws'.length = ws.length ∧ (∀ j, mem ws' j = (mem ws j || (decide (0 ≤ k ∧ k < n) && decide (j = k.toNat)))) ∧ L = opn p n v ws') := by
 refine Spec.of 31 Tryd.func55 rfl rfl rfl ?_
 refine swp_seq ?_
 refine swp_region ?_
 refine s_pu (pu_assign rfl) ?_
 refine swl_sub _ (.cons (t := 0) rfl (.cons (t := 1) rfl .nil)) ?_
 refine swl_nil ?_
 refine then_n ?_
 refine swp_seq ?_
 refine swp_seq ?_
 refine swp_region ?_
 refine s_pu (pu_move rfl) ?_
 refine s_pu (pu_lss rfl rfl) ?_
 refine s_pu (pu_move rfl) ?_
 refine s_split 7 rfl (fun h7 => ?_) (fun h7 => ?_)
 ·skip
  refine s_off rfl rfl rfl ?_
  refine s_off rfl rfl rfl ?_
  refine s_off rfl rfl rfl ?_
  refine s_off rfl rfl rfl ?_
  first | refine s_pu (pu_pick_t rfl rfl) ?_ | refine s_pu (pu_pick_f rfl rfl) ?_
  refine s_pu (pu_move rfl) ?_
  refine s_off rfl rfl rfl ?_
  refine s_off rfl rfl rfl ?_
  refine s_off rfl rfl rfl ?_
  first | refine s_pu (pu_pick_t rfl rfl) ?_ | refine s_pu (pu_pick_f rfl rfl) ?_
  refine swl_sub _ (.cons (t := 0) rfl (.cons (t := 1) rfl (.cons (t := 17) rfl .nil))) ?_
  refine swl_nil ?_
  refine then_n ?_
  refine swp_cond (b := _) rfl (fun h17 => ?_) (fun h17 => by cases h17)
  refine swp_seq ?_
  refine swp_region ?_
  refine s_pu (pu_assign rfl) ?_
  refine swl_sub _ (.cons (t := 4) rfl .nil) ?_
  refine swl_nil ?_
  refine then_n ?_
  refine swp_ret ?_
  refine then_r ?_
  have h7' := of_decide_eq_true h7
  exact done_ret (opn p n v ws) (.tmp rfl .nil) ⟨by simp [resV, Int.not_le.2 h7'], ws, rfl, fun j => by simp [Int.not_le.2 h7'], rfl⟩ (by repeat (first | exact Split.nil | (apply Split.cons; (repeat (first | with_reducible exact Take.here | apply Take.there)))))
 ·skip
  refine s_on rfl rfl ?_
  refine s_pu (pu_move rfl) ?_
  refine s_on rfl rfl ?_
  refine s_pu (pu_move rfl) ?_
  refine s_on rfl rfl ?_
  refine s_ef (ef_fn (size_b p n v) rfl rfl (by repeat (first | exact Split.nil | (apply Split.cons; (repeat (first | with_reducible exact Take.here | apply Take.there)))))) ?_
  rintro v1 L1 ⟨rfl, rfl⟩
  refine swl_app ?_
  refine s_on rfl rfl ?_
  refine s_pu (pu_geq rfl rfl) ?_
  first | refine s_pu (pu_pick_t rfl rfl) ?_ | refine s_pu (pu_pick_f rfl rfl) ?_
  refine s_pu (pu_move rfl) ?_
  refine s_split 13 rfl (fun h13 => ?_) (fun h13 => ?_)
  ·skip
   refine s_off rfl rfl rfl ?_
   refine s_off rfl rfl rfl ?_
   refine s_off rfl rfl rfl ?_
   first | refine s_pu (pu_pick_t rfl rfl) ?_ | refine s_pu (pu_pick_f rfl rfl) ?_
   refine swl_sub _ (.cons (t := 0) rfl (.cons (t := 1) rfl (.cons (t := 17) rfl .nil))) ?_
   refine swl_nil ?_
   refine then_n ?_
   refine swp_cond (b := _) rfl (fun h17 => ?_) (fun h17 => by cases h17)
   refine swp_seq ?_
   refine swp_region ?_
   refine s_pu (pu_assign rfl) ?_
   refine swl_sub _ (.cons (t := 4) rfl .nil) ?_
   refine swl_nil ?_
   refine then_n ?_
   refine swp_ret ?_
   refine then_r ?_
   have h13' := of_decide_eq_true h13
   exact done_ret (opn p n v ws) (.tmp rfl .nil) ⟨by simp [resV, Int.not_lt.2 h13'], ws, rfl, fun j => by simp [Int.not_lt.2 h13'], rfl⟩ (by repeat (first | exact Split.nil | (apply Split.cons; (repeat (first | with_reducible exact Take.here | apply Take.there)))))
  ·skip
   refine s_on rfl rfl ?_
   refine s_pu (pu_move rfl) ?_
   refine s_on rfl rfl ?_
   refine s_pu (pu_move rfl) ?_
   refine s_on rfl rfl ?_
   refine s_ef (ef_fn (has_o p n v ws k hl hn) rfl rfl (by repeat (first | exact Split.nil | (apply Split.cons; (repeat (first | with_reducible exact Take.here | apply Take.there)))))) ?_
   rintro v1 L1 ⟨rfl, rfl⟩
   refine swl_app ?_
   first | refine s_pu (pu_pick_t rfl rfl) ?_ | refine s_pu (pu_pick_f rfl rfl) ?_
   refine swl_sub _ (.cons (t := 0) rfl (.cons (t := 1) rfl (.cons (t := 17) rfl .nil))) ?_
   refine swl_nil ?_
   refine then_n ?_
   refine swp_cond (b := _) rfl (fun h17 => ?_) (fun h17 => ?_)
   ·skip
    refine swp_seq ?_
    refine swp_region ?_
    refine s_pu (pu_assign rfl) ?_
    refine swl_sub _ (.cons (t := 4) rfl .nil) ?_
    refine swl_nil ?_
    refine then_n ?_
    refine swp_ret ?_
    refine then_r ?_
    have h7' := of_decide_eq_false h7
    have h13' := of_decide_eq_false h13
    have h17' : mem ws k.toNat = true := by simp only [Bool.and_eq_true] at h17; exact h17.2.2
    exact done_ret (opn p n v ws) (.tmp rfl .nil) ⟨by simp [resV, h17'], ws, rfl, fun j => by
     by_cases e : j = k.toNat
     ·subst e; simp [h17']
     ·simp [e], rfl⟩ (by repeat (first | exact Split.nil | (apply Split.cons; (repeat (first | with_reducible exact Take.here | apply Take.there)))))
   ·skip
    refine swp_skip ?_
    refine then_n ?_
    refine swp_seq ?_
    have h7' := of_decide_eq_false h7
    have h13' := of_decide_eq_false h13
    obtain ⟨m, rfl⟩ : ∃ m : Nat, k = m := ⟨k.toNat, by omega⟩
    have hmi : m / 64 < ws.length := by omega
    obtain ⟨w, hw⟩ : ∃ w, ws[m / 64]? = some w := ⟨_, List.getElem?_eq_getElem hmi⟩
    refine swp_front (A := own 136 1 v ws.length (wcells ws)) (by repeat (first | with_reducible exact Take.here | apply Take.there)) ?_
    refine swp_own (fun h0 l0 _ => by omega) (fun b cap ex hv h1 h2 h3 h4 => ?_)
    subst hv
    refine swp_draw [3, 7] _ [] (by simp only [List.append_nil]; exact Ent.refl _) (by kernel_rfl) ?_
    refine d_pu 0 rfl (pu_move rfl) (by kernel_rfl) (by kernel_rfl) (by kernel_rfl) ?_
    first | refine d_pu 1 rfl (pu_nilCheck rfl) (by kernel_rfl) (by kernel_rfl) (by kernel_rfl) ?_ | refine d_pu 1 rfl (pu_nilCheck_fn rfl) (by kernel_rfl) (by kernel_rfl) (by kernel_rfl) ?_ | refine d_pu 1 rfl (pu_nilCheck_if rfl) (by kernel_rfl) (by kernel_rfl) (by kernel_rfl) ?_
    first | refine d_pu 2 rfl (pu_fieldAddr0 rfl) (by kernel_rfl) (by kernel_rfl) (by kernel_rfl) ?_ | refine d_pu 2 rfl (pu_fieldAddr rfl) (by kernel_rfl) (by kernel_rfl) (by kernel_rfl) ?_
    refine d_rd 3 rfl (rd_load rfl rfl) rfl (by kernel_rfl) (by kernel_rfl) (by kernel_rfl) ?_
    refine d_pu 4 rfl (pu_move rfl) (by kernel_rfl) (by kernel_rfl) (by kernel_rfl) ?_
    refine d_pu 5 rfl (pu_quo_as ((m / 64 : Nat) : Int) rfl rfl (by omega) (by omega) (by omega) (by omega)) (by kernel_rfl) (by kernel_rfl) (by kernel_rfl) ?_
    refine d_pu 6 rfl (pu_indexAddr (m / 64) rfl rfl (by omega) (by omega) (by omega)) (by kernel_rfl) (by kernel_rfl) (by kernel_rfl) ?_
    refine d_rd 7 rfl (rd_load rfl (wcells_get hw)) rfl (by kernel_rfl) (by kernel_rfl) (by kernel_rfl) ?_
    refine d_pu 8 rfl (pu_move rfl) (by kernel_rfl) (by kernel_rfl) (by kernel_rfl) ?_
    refine d_pu 9 rfl (pu_rem_as ((m % 64 : Nat) : Int) rfl rfl (by omega) (by omega) (by omega)) (by kernel_rfl) (by kernel_rfl) (by kernel_rfl) ?_
    refine d_pu 10 rfl (pu_shl_w (a := 1#64) (m % 64) rfl rfl (by omega)) (by kernel_rfl) (by kernel_rfl) (by kernel_rfl) ?_
    refine d_pu 11 rfl (pu_or_w (a := w) rfl rfl) (by kernel_rfl) (by kernel_rfl) (by kernel_rfl) ?_
    refine d_pu 12 rfl (pu_indexAddr (m / 64) rfl rfl (by omega) (by omega) (by omega)) (by kernel_rfl) (by kernel_rfl) (by kernel_rfl) ?_
    first | refine d_fin0t 13 rfl (by kernel_rfl) (by kernel_rfl) (ef_storeP rfl rfl rfl (by rw [List.length_append, wcells_len]; omega)) ?_ | refine d_fin0f 13 rfl (by kernel_rfl) (by kernel_rfl) (ef_storeP rfl rfl rfl (by rw [List.length_append, wcells_len]; omega)) ?_
    refine d_sub _ .nil ?_
    first | refine d_nilt (by kernel_rfl) ?_ | refine d_nilf (by kernel_rfl) ?_
    refine then_n ?_
    refine swp_seq ?_
    refine swp_ent (Split.ent' (K := [blk b 136 ((wcells ws ++ ex).set (m / 64) (wv (w ||| (1#64 <<< (m % 64))))), blk p 165 [.int .i64 (n : Nat), .slice (some ⟨b, 0, none⟩) ws.length cap]]) (by repeat (first | exact Split.nil | (apply Split.cons; (repeat (first | with_reducible exact Take.here | apply Take.there)))))) ?_
    rw [wcells_set hmi]
    refine swp_region ?_
    refine s_pu (pu_assign rfl) ?_
    refine swl_sub _ (.cons (t := 4) rfl .nil) ?_
    refine swl_nil ?_
    refine then_n ?_
    refine swp_ret ?_
    have hm17 : mem ws m = false := by
     have h : (decide ((0 : Int) ≤ m) && (decide ((m : Int) < n) && mem ws (m : Int).toNat)) = false := h17
     rw [decide_eq_true (by omega), decide_eq_true (by omega), Bool.true_and, Bool.true_and, Int.toNat_natCast] at h; exact h
    have hls : (ws.set (m / 64) (w ||| (1#64 <<< (m % 64)))).length = ws.length := List.length_set
    refine done_retE (opn p n (.slice (some ⟨b, 0, none⟩) ws.length cap) (ws.set (m / 64) (w ||| (1#64 <<< (m % 64))))) (.tmp rfl .nil) ⟨?_, _, hls, fun j => ?_, rfl⟩ ?_
    ·rw [Int.toNat_natCast, decide_eq_true (show (0 : Int) ≤ m by omega), decide_eq_true (show (m : Int) < n by omega), hm17]; rfl
    ·rw [mem_put hw, Int.toNat_natCast, decide_eq_true (show (0 : Int) ≤ m ∧ (m : Int) < n by omega), Bool.true_and]
    ·have hc := wown_close (b := b) (cap := cap) (ws := ws.set (m / 64) (w ||| (1#64 <<< (m % 64)))) (ex := ex) (L := [blk p 165 [.int .i64 (n : Nat), .slice (some ⟨b, 0, none⟩) ws.length cap]]) (by omega) h2 (by rw [hls]; exact h4)
     rw [hls] at hc
     show Ent _ [blk p 165 [.int .i64 (n : Nat), .slice (some ⟨b, 0, none⟩) ws.length cap], own 136 1 (.slice (some ⟨b, 0, none⟩) ws.length cap) (ws.set (m / 64) (w ||| (1#64 <<< (m % 64)))).length (wcells (ws.set (m / 64) (w ||| (1#64 <<< (m % 64)))))]
     rw [hls]
     exact hc.trans Ent.swap

end SX
namespace SX
open Go Go.Proofs

abbrev opr (p n : Nat) (v : Value) (ws : List (BitVec 64)) (μ : PH) : List Assn := [blk p 165 [.int .i64 (n : Nat), v], own 136 1 v ws.length (wcells ws), ro μ]
def IsNext (S : Nat → Bool) (k r : Int) : Prop := (r = -1 ∧ ∀ j : Nat, k ≤ j → S j = false) ∨ ∃ j : Nat, r = j ∧ k ≤ j ∧ S j = true ∧ ∀ i : Nat, k ≤ i → i < j → S i = false
theorem mem_ge {ws : List (BitVec 64)} {k : Nat} (h : 64 * ws.length ≤ k) : mem ws k = false := by
  unfold mem
  rw [List.getD_eq_getElem?_getD, List.getElem?_eq_none (by omega)]
  simp
theorem w_ne {w : BitVec 64} (h : (!decide ((w.toNat : Int) = 0)) = true) : w ≠ 0#64 := fun e => by subst e; simp at h
theorem w_eq {w : BitVec 64} (h : (!decide ((w.toNat : Int) = 0)) = false) : w = 0#64 := by
  have := of_decide_eq_true (not_f h)
  exact BitVec.eq_of_toNat_eq (by simpa using this)

set_option maxHeartbeats 1000000 in
theorem next_o (μ : PH) (p n : Nat) (v : Value) (ws : List (BitVec 64)) (k : Int) (hT : RowAt μ 1 0 tabV) (hl : ws.length = (n + 63) / 64) (hn : n ≤ 1048576) (hS : ∀ j, n ≤ j → mem ws j = false) :
  Spec Tryd.prog 71 [.pointer (some ⟨p, 0, none⟩), .int .i64 k] (opr p n v ws μ) (fun r L => ∃ x, r = .int .i64 x ∧ IsNext (mem ws) k x ∧ L = opr p n v ws μ) := by
 obtain ⟨m, hm⟩ : ∃ m : Nat, max k 0 = m := ⟨(max k 0).toNat, by omega⟩
 refine Spec.of 52 Tryd.func71 rfl rfl rfl ?_
 refine swp_seq ?_
 refine swp_region ?_
 refine s_pu (pu_assign rfl) ?_
 refine swl_sub _ (.cons (t := 0) rfl (.cons (t := 1) rfl .nil)) ?_
 refine swl_nil ?_
 refine then_n ?_
 refine swp_seq ?_
 refine swp_region ?_
 refine s_pu (pu_move rfl) ?_
 refine s_pu (pu_max2 rfl rfl) ?_
 refine s_pu (pu_assign rfl) ?_
 refine swl_sub _ (.cons (t := 0) rfl (.cons (t := 1) rfl .nil)) ?_
 rw [hm]
 refine swl_nil ?_
 refine then_n ?_
 refine swp_seq ?_
 refine swp_seq ?_
 refine swp_region ?_
 refine s_pu (pu_move rfl) ?_
 refine s_pu (pu_move rfl) ?_
 refine s_ef (ef_fn (size_b p n v) rfl rfl (by repeat (first | exact Split.nil | (apply Split.cons; (repeat (first | with_reducible exact Take.here | apply Take.there)))))) ?_
 rintro v1 L1 ⟨rfl, rfl⟩
 refine swl_app ?_
 refine s_pu (pu_geq rfl rfl) ?_
 refine swl_sub _ (.cons (t := 0) rfl (.cons (t := 1) rfl (.cons (t := 12) rfl .nil))) ?_
 refine swl_nil ?_
 refine then_n ?_
 refine swp_cond (b := _) rfl (fun h12 => ?_) (fun h12 => ?_)
 ·skip
  refine swp_seq ?_
  refine swp_region ?_
  refine s_pu (pu_assign rfl) ?_
  refine swl_sub _ (.cons (t := 4) rfl .nil) ?_
  refine swl_nil ?_
  refine then_n ?_
  refine swp_ret ?_
  refine then_r ?_
  have h12' := of_decide_eq_true h12
  exact done_ret (opr p n v ws μ) (.tmp rfl .nil) ⟨-1, rfl, .inl ⟨rfl, fun j hj => hS j (by omega)⟩, rfl⟩ (by repeat (first | exact Split.nil | (apply Split.cons; (repeat (first | with_reducible exact Take.here | apply Take.there)))))
 ·skip
  refine swp_skip ?_
  refine then_n ?_
  refine swp_seq ?_
  have h12' := of_decide_eq_false h12
  have hmi : m / 64 < ws.length := by omega
  obtain ⟨w0, hw0⟩ : ∃ w, ws[m / 64]? = some w := ⟨_, List.getElem?_eq_getElem hmi⟩
  refine swp_front (A := own 136 1 v ws.length (wcells ws)) (by repeat (first | with_reducible exact Take.here | apply Take.there)) ?_
  refine swp_own (fun h0 l0 _ => by omega) (fun b cap ex hv h1 h2 h3 h4 => ?_)
  subst hv
  refine swp_draw [5, 9] _ [] (by simp only [List.append_nil]; exact Ent.refl _) (by kernel_rfl) ?_
  refine d_pu 0 rfl (pu_move rfl) (by kernel_rfl) (by kernel_rfl) (by kernel_rfl) ?_
  refine d_pu 1 rfl (pu_quo_as ((m / 64 : Nat) : Int) rfl rfl (by omega) (by omega) (by omega) (by omega)) (by kernel_rfl) (by kernel_rfl) (by kernel_rfl) ?_
  refine d_pu 2 rfl (pu_move rfl) (by kernel_rfl) (by kernel_rfl) (by kernel_rfl) ?_
  first | refine d_pu 3 rfl (pu_nilCheck rfl) (by kernel_rfl) (by kernel_rfl) (by kernel_rfl) ?_ | refine d_pu 3 rfl (pu_nilCheck_fn rfl) (by kernel_rfl) (by kernel_rfl) (by kernel_rfl) ?_ | refine d_pu 3 rfl (pu_nilCheck_if rfl) (by kernel_rfl) (by kernel_rfl) (by kernel_rfl) ?_
  first | refine d_pu 4 rfl (pu_fieldAddr0 rfl) (by kernel_rfl) (by kernel_rfl) (by kernel_rfl) ?_ | refine d_pu 4 rfl (pu_fieldAddr rfl) (by kernel_rfl) (by kernel_rfl) (by kernel_rfl) ?_
  refine d_rd 5 rfl (rd_load rfl rfl) rfl (by kernel_rfl) (by kernel_rfl) (by kernel_rfl) ?_
  refine d_pu 6 rfl (pu_move rfl) (by kernel_rfl) (by kernel_rfl) (by kernel_rfl) ?_
  refine d_pu 7 rfl (pu_quo_as ((m / 64 : Nat) : Int) rfl rfl (by omega) (by omega) (by omega) (by omega)) (by kernel_rfl) (by kernel_rfl) (by kernel_rfl) ?_
  refine d_pu 8 rfl (pu_indexAddr (m / 64) rfl rfl (by omega) (by omega) (by omega)) (by kernel_rfl) (by kernel_rfl) (by kernel_rfl) ?_
  refine d_rd 9 rfl (rd_load rfl (wcells_get hw0)) rfl (by kernel_rfl) (by kernel_rfl) (by kernel_rfl) ?_
  refine d_pu 10 rfl (pu_move rfl) (by kernel_rfl) (by kernel_rfl) (by kernel_rfl) ?_
  refine d_pu 11 rfl (pu_rem_as ((m % 64 : Nat) : Int) rfl rfl (by omega) (by omega) (by omega)) (by kernel_rfl) (by kernel_rfl) (by kernel_rfl) ?_
  refine d_pu 12 rfl (pu_shr_w (a := w0) (m % 64) rfl rfl (by omega)) (by kernel_rfl) (by kernel_rfl) (by kernel_rfl) ?_
  refine d_pu 13 rfl (pu_move rfl) (by kernel_rfl) (by kernel_rfl) (by kernel_rfl) ?_
  refine d_pu 14 rfl (pu_rem_as ((m % 64 : Nat) : Int) rfl rfl (by omega) (by omega) (by omega)) (by kernel_rfl) (by kernel_rfl) (by kernel_rfl) ?_
  refine d_pu 15 rfl (pu_shl_w (a := w0 >>> (m % 64)) (m % 64) rfl rfl (by omega)) (by kernel_rfl) (by kernel_rfl) (by kernel_rfl) ?_
  refine d_pu 16 rfl (pu_assign rfl) (by kernel_rfl) (by kernel_rfl) (by kernel_rfl) ?_
  refine d_pu 17 rfl (pu_assign rfl) (by kernel_rfl) (by kernel_rfl) (by kernel_rfl) ?_
  refine d_sub _ (.cons (t := 0) rfl (.cons (t := 5) rfl (.cons (t := 6) rfl .nil))) ?_
  first | refine d_nilt (by kernel_rfl) ?_ | refine d_nilf (by kernel_rfl) ?_
  refine then_n ?_
  refine swp_block ?_
  refine swp_loop (ι := Nat × BitVec 64) (fun x env L => env = [(0, .pointer (some ⟨p, 0, none⟩)), (5, .int .i64 (x.1 : Nat)), (6, wv x.2)] ∧ L = [blk b 136 (wcells ws ++ ex), blk p 165 [.int .i64 (n : Nat), .slice (some ⟨b, 0, none⟩) ws.length cap], ro μ] ∧
   m / 64 ≤ x.1 ∧ x.1 < ws.length ∧ (∀ j, m ≤ j → j < 64 * x.1 → mem ws j = false) ∧ (∀ r, r < 64 → x.2.getLsbD r = (mem ws (64 * x.1 + r) && decide (m ≤ 64 * x.1 + r)))) (fun x => ws.length - x.1) (m / 64, (w0 >>> (m % 64)) <<< (m % 64)) ⟨rfl, rfl, Nat.le_refl _, hmi, fun j h1 h2 => by simp only at h2; omega, fun r hr => ?_⟩ ?_
  ·show ((w0 >>> (m % 64)) <<< (m % 64)).getLsbD r = _
   rw [BitVec.getLsbD_shiftLeft, BitVec.getLsbD_ushiftRight, mem_at hw0 (k := 64 * (m / 64) + r) (by omega)]
   have e1 : (64 * (m / 64) + r) % 64 = r := by omega
   rw [e1]
   by_cases hrs : r < m % 64
   ·have : ¬ m ≤ 64 * (m / 64) + r := by omega
    simp [hrs, this]
   ·have : m ≤ 64 * (m / 64) + r := by omega
    have e2 : m % 64 + (r - m % 64) = r := by omega
    simp [hrs, this, hr, e2]
  rintro ⟨i, w⟩ env L ⟨rfl, rfl, him, hi, hlo, hbits⟩
  simp only [] at him hi hlo hbits
  dsimp only
  refine swp_seq ?_
  refine swp_block ?_
  refine swp_seq ?_
  refine swp_seq ?_
  refine swp_region ?_
  refine s_pu (pu_move rfl) ?_
  refine s_pu (pu_neq rfl rfl) ?_
  refine swl_sub _ (.cons (t := 0) rfl (.cons (t := 5) rfl (.cons (t := 6) rfl (.cons (t := 37) rfl .nil)))) ?_
  refine swl_nil ?_
  refine then_n ?_
  refine swp_cond (b := _) rfl (fun h37 => ?_) (fun h37 => ?_)
  ·skip
   have hw := w_ne h37
   obtain ⟨hc1, hc2, hc3⟩ := ctz_spec hw
   refine swp_seq ?_
   refine swp_region ?_
   refine s_pu (pu_move rfl) ?_
   refine s_pu (pu_mul_as ((64 * i : Nat) : Int) rfl rfl (by omega) (by omega) (by omega)) ?_
   refine s_pu (pu_move rfl) ?_
   refine s_ef (ef_fn (tz_spec μ w hT hw) rfl rfl (by repeat (first | exact Split.nil | (apply Split.cons; (repeat (first | with_reducible exact Take.here | apply Take.there)))))) ?_
   rintro v1 L1 ⟨rfl, rfl⟩
   refine swl_app ?_
   refine s_pu (pu_add_as ((64 * i + ctz w : Nat) : Int) rfl rfl (by omega) (by omega) (by omega)) ?_
   refine s_pu (pu_assign rfl) ?_
   refine swl_sub _ (.cons (t := 4) rfl .nil) ?_
   refine swl_nil ?_
   refine then_n ?_
   refine swp_ret ?_
   refine then_r ?_
   refine block_r ?_
   refine then_r ?_
   refine then_r ?_
   refine block_r ?_
   have hb := hbits _ hc1
   rw [hc2] at hb
   have hb1 := (Bool.and_eq_true_iff.1 hb.symm)
   have hb2 := of_decide_eq_true hb1.2
   refine done_retE (opr p n _ ws μ) (.tmp rfl .nil) ⟨_, rfl, .inr ⟨64 * i + ctz w, rfl, by omega, hb1.1, fun j h1 h2 => ?_⟩, rfl⟩
    ((Split.ent' (K := [blk b 136 (wcells ws ++ ex), blk p 165 [.int .i64 (n : Nat), .slice (some ⟨b, 0, none⟩) ws.length cap], ro μ]) (by repeat (first | exact Split.nil | (apply Split.cons; (repeat (first | with_reducible exact Take.here | apply Take.there)))))).trans ((wown_close h1 h2 h4).trans Ent.swap))
   rcases Nat.lt_or_ge j (64 * i) with h | h
   ·exact hlo j (by omega) h
   ·have hj := hbits (j - 64 * i) (by omega)
    rw [hc3 _ (by omega), show 64 * i + (j - 64 * i) = j by omega, decide_eq_true (show m ≤ j by omega), Bool.and_true] at hj
    exact hj.symm
  ·skip
   have hw := w_eq h37
   have hlo2 : ∀ j, m ≤ j → j < 64 * (i + 1) → mem ws j = false := fun j h1 h2 => by
    rcases Nat.lt_or_ge j (64 * i) with h | h
    ·exact hlo j h1 h
    ·have hj := hbits (j - 64 * i) (by omega)
     rw [hw, show 64 * i + (j - 64 * i) = j by omega, decide_eq_true h1, Bool.and_true] at hj
     rw [← hj]; simp
   refine swp_skip ?_
   refine then_n ?_
   refine swp_seq ?_
   refine swp_region ?_
   refine s_pu (pu_move rfl) ?_
   refine s_pu (pu_add_as ((i + 1 : Nat) : Int) rfl rfl (by omega) (by omega) (by omega)) ?_
   refine s_pu (pu_assign rfl) ?_
   refine swl_sub _ (.cons (t := 0) rfl (.cons (t := 5) rfl .nil)) ?_
   refine swl_nil ?_
   refine then_n ?_
   refine swp_seq ?_
   refine swp_region ?_
   refine s_pu (pu_move rfl) ?_
   refine s_pu (pu_move rfl) ?_
   first | refine s_pu (pu_nilCheck rfl) ?_ | refine s_pu (pu_nilCheck_fn rfl) ?_ | refine s_pu (pu_nilCheck_if rfl) ?_
   first | refine s_pu (pu_fieldAddr0 rfl) ?_ | refine s_pu (pu_fieldAddr rfl) ?_
   refine s_rd (rd_load rfl rfl) ?_
   refine s_pu (pu_len rfl) ?_
   refine s_pu (pu_eql rfl rfl) ?_
   refine swl_sub _ (.cons (t := 0) rfl (.cons (t := 5) rfl (.cons (t := 51) rfl .nil))) ?_
   refine swl_nil ?_
   refine then_n ?_
   refine swp_cond (b := _) rfl (fun h51 => ?_) (fun h51 => ?_)
   ·skip
    refine swp_seq ?_
    refine swp_region ?_
    refine s_pu (pu_assign rfl) ?_
    refine swl_sub _ (.cons (t := 4) rfl .nil) ?_
    refine swl_nil ?_
    refine then_n ?_
    refine swp_ret ?_
    refine block_r ?_
    refine then_r ?_
    refine then_r ?_
    refine block_r ?_
    have h51' := of_decide_eq_true h51
    exact done_retE (opr p n _ ws μ) (.tmp rfl .nil) ⟨_, rfl, .inl ⟨rfl, fun j hj => by
      rcases Nat.lt_or_ge j (64 * (i + 1)) with h | h
      ·exact hlo2 j (by omega) h
      ·exact mem_ge (by omega)⟩, rfl⟩
     ((Split.ent' (K := [blk b 136 (wcells ws ++ ex), blk p 165 [.int .i64 (n : Nat), .slice (some ⟨b, 0, none⟩) ws.length cap], ro μ]) (by repeat (first | exact Split.nil | (apply Split.cons; (repeat (first | with_reducible exact Take.here | apply Take.there)))))).trans ((wown_close h1 h2 h4).trans Ent.swap))
   ·skip
    have h51' := of_decide_eq_false h51
    have hi1 : i + 1 < ws.length := by omega
    obtain ⟨w1, hw1⟩ : ∃ w, ws[i + 1]? = some w := ⟨_, List.getElem?_eq_getElem hi1⟩
    refine swp_skip ?_
    refine block_n ?_
    refine then_n ?_
    refine swp_region ?_
    refine s_pu (pu_move rfl) ?_
    first | refine s_pu (pu_nilCheck rfl) ?_ | refine s_pu (pu_nilCheck_fn rfl) ?_ | refine s_pu (pu_nilCheck_if rfl) ?_
    first | refine s_pu (pu_fieldAddr0 rfl) ?_ | refine s_pu (pu_fieldAddr rfl) ?_
    refine s_rd (rd_load rfl rfl) ?_
    refine s_pu (pu_move rfl) ?_
    refine s_pu (pu_indexAddr (i + 1) rfl rfl (by omega) (by omega) (by omega)) ?_
    refine s_rd (rd_load rfl (wcells_get hw1)) ?_
    refine s_pu (pu_assign rfl) ?_
    refine swl_sub _ (.cons (t := 0) rfl (.cons (t := 5) rfl (.cons (t := 6) rfl .nil))) ?_
    refine swl_nil ?_
    refine then_n ⟨(i + 1, w1), ⟨rfl, rfl, by show m / 64 ≤ i + 1; omega, hi1, hlo2, fun r hr => ?_⟩, by show ws.length - (i + 1) < ws.length - i; omega⟩
    show w1.getLsbD r = (mem ws (64 * (i + 1) + r) && decide (m ≤ 64 * (i + 1) + r))
    rw [mem_at hw1 (k := 64 * (i + 1) + r) (by omega), show (64 * (i + 1) + r) % 64 = r by omega]
    have hmle : m ≤ 64 * (i + 1) + r := by
     rcases Nat.lt_or_ge (64 * (i + 1) + r) m with h | h
     ·exact absurd h (by omega)
     ·exact h
    rw [decide_eq_true hmle, Bool.and_true]
end SX
namespace SX
open Go Go.Proofs

end SX
namespace SX
open Go Go.Proofs

def numsI (l : List Nat) : List Int := l.map fun k : Nat => (k : Int)
def elsTo (j : Nat) (S : Nat → Bool) : List Int := numsI ((List.range j).filter S)
theorem elsTo_skip {S : Nat → Bool} {k : Nat} : ∀ {j : Nat}, k ≤ j → (∀ i, k ≤ i → i < j → S i = false) → elsTo j S = elsTo k S
  | 0, h, _ => by have : k = 0 := by omega
                  subst this; rfl
  | j + 1, h, hS => by
    rcases Nat.lt_or_ge j k with h1 | h1
    · have : k = j + 1 := by omega
      subst this; rfl
    · have e : elsTo (j + 1) S = elsTo j S := by
        unfold elsTo
        rw [List.range_succ, List.filter_append]
        simp [hS j h1 (by omega)]
      rw [e]
      exact elsTo_skip h1 (fun i a b => hS i a (by omega))
theorem elsTo_succ {S : Nat → Bool} {j : Nat} (h : S j = true) : elsTo (j + 1) S = elsTo j S ++ [(j : Int)] := by
  unfold elsTo numsI
  rw [List.range_succ, List.filter_append]
  simp [h]
theorem elsTo_len (j : Nat) (S : Nat → Bool) : (elsTo j S).length ≤ j := by
  unfold elsTo numsI
  rw [List.length_map]
  exact Nat.le_trans (List.length_filter_le _ _) (by simp)

set_option maxHeartbeats 1000000 in
theorem list_o (μ : PH) (p n : Nat) (v : Value) (ws : List (BitVec 64)) (hT : RowAt μ 1 0 tabV) (hl : ws.length = (n + 63) / 64) (hn : n ≤ 1048576) (hS : ∀ j, n ≤ j → mem ws j = false) :
  Spec Tryd.prog 57 [.pointer (some ⟨p, 0, none⟩)] (opr p n v ws μ) (fun r L => L = [own 3 1 r (elsTo n (mem ws)).length ((elsTo n (mem ws)).flatMap (icsk .i64)), blk p 165 [.int .i64 (n : Nat), v], own 136 1 v ws.length (wcells ws), ro μ]) := by
 have inv : ∀ (k : Nat) (x : Int), k ≤ n → IsNext (mem ws) (k : Int) x → (x = -1 ∧ elsTo k (mem ws) = elsTo n (mem ws)) ∨ ∃ j : Nat, x = j ∧ k ≤ j ∧ j < n ∧ mem ws j = true ∧ elsTo k (mem ws) = elsTo j (mem ws) := by
  rintro k x hk (⟨rfl, h⟩ | ⟨j, rfl, h1, h2, h3⟩)
  ·exact .inl ⟨rfl, (elsTo_skip hk (fun i a _ => h i (by omega))).symm⟩
  ·refine .inr ⟨j, rfl, by omega, ?_, h2, (elsTo_skip (by omega) (fun i a b => h3 i (by omega) b)).symm⟩
   rcases Nat.lt_or_ge j n with h4 | h4
   ·exact h4
   ·rw [hS j h4] at h2; cases h2
 refine Spec.of 18 Tryd.func57 rfl rfl rfl ?_
 refine swp_seq ?_
 refine swp_region ?_
 refine s_pu (pu_assign rfl) ?_
 refine swl_sub _ (.cons (t := 0) rfl .nil) ?_
 refine swl_nil ?_
 refine then_n ?_
 refine swp_seq ?_
 refine swp_region ?_
 refine s_pu (pu_assign rfl) ?_
 refine swl_sub _ (.cons (t := 0) rfl (.cons (t := 3) rfl .nil)) ?_
 refine swl_ent (own_nil_ent (e := 3) (n := 1)) ?_
 refine swl_nil ?_
 refine then_n ?_
 refine swp_seq ?_
 refine swp_seq ?_
 refine swp_region ?_
 refine s_pu (pu_move rfl) ?_
 refine s_ef (ef_fn (next_o μ p n v ws 0 hT hl hn hS) rfl rfl (by repeat (first | exact Split.nil | (apply Split.cons; (repeat (first | with_reducible exact Take.here | apply Take.there)))))) ?_
 rintro v1 L1 ⟨x, rfl, hx, rfl⟩
 refine swl_app ?_
 refine s_pu (pu_assign rfl) ?_
 refine swl_sub _ (.cons (t := 0) rfl (.cons (t := 3) rfl (.cons (t := 4) rfl .nil))) ?_
 refine swl_ent (Split.ent' (K := [own 3 1 (.slice none 0 0) 0 [], blk p 165 [.int .i64 (n : Nat), v], own 136 1 v ws.length (wcells ws), ro μ]) (by repeat (first | exact Split.nil | (apply Split.cons; (repeat (first | with_reducible exact Take.here | apply Take.there)))))) ?_
 refine swl_nil ?_
 refine then_n ?_
 refine swp_block ?_
 refine swp_loop (ι := Value × Int × Nat) (fun k env L => env = [(0, .pointer (some ⟨p, 0, none⟩)), (3, k.1), (4, .int .i64 k.2.1)] ∧ L = [own 3 1 k.1 (elsTo k.2.2 (mem ws)).length ((elsTo k.2.2 (mem ws)).flatMap (icsk .i64)), blk p 165 [.int .i64 (n : Nat), v], own 136 1 v ws.length (wcells ws), ro μ] ∧
  ((k.2.1 = -1 ∧ k.2.2 = n) ∨ (k.2.1 = k.2.2 ∧ k.2.2 < n ∧ mem ws k.2.2 = true))) (fun k => if k.2.1 < 0 then 0 else n + 1 - k.2.2) (.slice none 0 0, x, if x < 0 then n else x.toNat) ⟨rfl, ?_, ?_⟩ ?_
 ·rcases inv 0 x (Nat.zero_le _) hx with ⟨rfl, h⟩ | ⟨j, rfl, _, _, _, h⟩
  ·show [own 3 1 (.slice none 0 0) 0 [], _, _, _] = [own 3 1 (.slice none 0 0) (elsTo n (mem ws)).length ((elsTo n (mem ws)).flatMap (icsk .i64)), _, _, _]
   rw [← h]; rfl
  ·have hj : ¬ ((j : Int) < 0) := by omega
   simp only [hj, if_false, Int.toNat_natCast]
   rw [← h]; rfl
 ·rcases inv 0 x (Nat.zero_le _) hx with ⟨rfl, h⟩ | ⟨j, rfl, _, h2, h3, h⟩
  ·exact .inl ⟨rfl, rfl⟩
  ·have hj : ¬ ((j : Int) < 0) := by omega
   simp only [hj, if_false, Int.toNat_natCast]
   exact .inr ⟨trivial, h2, h3⟩
 rintro ⟨v3, x, j⟩ env L ⟨rfl, rfl, hx⟩
 simp only [] at hx
 dsimp only
 refine swp_seq ?_
 refine swp_seq ?_
 refine swp_region ?_
 refine s_pu (pu_move rfl) ?_
 refine s_pu (pu_geq rfl rfl) ?_
 refine swl_sub _ (.cons (t := 0) rfl (.cons (t := 3) rfl (.cons (t := 4) rfl (.cons (t := 8) rfl .nil)))) ?_
 refine swl_nil ?_
 refine then_n ?_
 refine swp_cond (b := _) rfl (fun h8 => ?_) (fun h8 => ?_)
 ·skip
  have h8' := of_decide_eq_true h8
  obtain ⟨rfl, hjn, hj⟩ : x = (j : Int) ∧ j < n ∧ mem ws j = true := by
   rcases hx with ⟨h, _⟩ | h
   ·omega
   ·exact h
  have hle := elsTo_len j (mem ws)
  refine swp_skip ?_
  refine then_n ?_
  refine swp_seq ?_
  refine swp_block ?_
  refine swp_region ?_
  refine s_pu (pu_move rfl) ?_
  refine s_pu (pu_move rfl) ?_
  refine s_ef (ef_bldS (qs := [(0, _)]) rfl rfl rfl) ?_
  intro b15
  refine s_ef (ef_append_lit (l := (elsTo j (mem ws)).length) (m := 1) rfl rfl (by repeat (first | exact Split.nil | (apply Split.cons; (repeat (first | with_reducible exact Take.here | apply Take.there))))) (by simp only [maxLen]; omega) (by omega)) ?_
  rintro v' hv'
  skip
  refine s_pu (pu_assign rfl) ?_
  refine swl_sub _ (.cons (t := 0) rfl (.cons (t := 3) rfl (.cons (t := 4) rfl .nil))) ?_
  have e1 : (elsTo j (mem ws)).length + 1 = (elsTo (j + 1) (mem ws)).length := by rw [elsTo_succ hj, List.length_append]; rfl
  have e2 : (elsTo j (mem ws)).flatMap (icsk .i64) ++ [.int .i64 (j : Nat)] = (elsTo (j + 1) (mem ws)).flatMap (icsk .i64) := by rw [elsTo_succ hj, List.flatMap_append]; rfl
  rw [e1, e2]
  refine swl_nil ?_
  refine block_n ?_
  refine then_n ?_
  refine swp_region ?_
  refine s_pu (pu_move rfl) ?_
  refine s_pu (pu_move rfl) ?_
  refine s_pu (pu_add_as ((j + 1 : Nat) : Int) rfl rfl (by omega) (by omega) (by omega)) ?_
  refine s_ef (ef_fn (next_o μ p n v ws ((j + 1 : Nat) : Int) hT hl hn hS) rfl rfl (by repeat (first | exact Split.nil | (apply Split.cons; (repeat (first | with_reducible exact Take.here | apply Take.there)))))) ?_
  rintro v1 L1 ⟨x, rfl, hx2, rfl⟩
  refine swl_app ?_
  refine s_pu (pu_assign rfl) ?_
  refine swl_sub _ (.cons (t := 0) rfl (.cons (t := 3) rfl (.cons (t := 4) rfl .nil))) ?_
  refine swl_ent (Split.ent' (K := [own 3 1 v' (elsTo (j + 1) (mem ws)).length ((elsTo (j + 1) (mem ws)).flatMap (icsk .i64)), blk p 165 [.int .i64 (n : Nat), v], own 136 1 v ws.length (wcells ws), ro μ]) (by repeat (first | exact Split.nil | (apply Split.cons; (repeat (first | with_reducible exact Take.here | apply Take.there)))))) ?_
  refine swl_nil ?_
  rcases inv (j + 1) x hjn hx2 with ⟨rfl, h⟩ | ⟨i, rfl, h0, h2, h3, h⟩
  ·rw [h]
   exact then_n ⟨(v', -1, n), ⟨rfl, rfl, .inl ⟨rfl, rfl⟩⟩, by
    show (if (-1 : Int) < 0 then 0 else n + 1 - n) < (if (j : Int) < 0 then 0 else n + 1 - j)
    rw [if_pos (by decide), if_neg (by omega)]; omega⟩
  ·rw [h]
   exact then_n ⟨(v', (i : Int), i), ⟨rfl, rfl, .inr ⟨rfl, h2, h3⟩⟩, by
    show (if (i : Int) < 0 then 0 else n + 1 - i) < (if (j : Int) < 0 then 0 else n + 1 - j)
    rw [if_neg (by omega), if_neg (by omega)]; omega⟩
 ·skip
  have h8' := of_decide_eq_false h8
  obtain ⟨rfl, rfl⟩ : x = -1 ∧ j = n := by
   rcases hx with h | ⟨h, _⟩
   ·exact h
   ·omega
  refine swp_exit ?_
  refine then_x ?_
  refine then_x ?_
  refine block_hit rfl ?_
  refine then_n ?_
  refine swp_seq ?_
  refine swp_region ?_
  refine s_pu (pu_move rfl) ?_
  refine s_pu (pu_assign rfl) ?_
  refine swl_sub _ (.cons (t := 2) rfl .nil) ?_
  refine swl_nil ?_
  refine then_n ?_
  refine swp_ret ?_
  exact done_ret [own 3 1 v3 (elsTo j (mem ws)).length ((elsTo j (mem ws)).flatMap (icsk .i64)), blk p 165 [.int .i64 (j : Nat), v], own 136 1 v ws.length (wcells ws), ro μ] (.tmp rfl .nil) rfl (by repeat (first | exact Split.nil | (apply Split.cons; (repeat (first | with_reducible exact Take.here | apply Take.there)))))
end SX
namespace SX
open Go Go.Proofs

theorem mset_elim {f : FuncId} {args : List Value} {pre : List Assn} {post : Value → List Assn → Prop} {p n : Nat} {S : Nat → Bool} (h : ∀ v ws, Wf n ws S → Spec Tryd.prog f args (blk p 165 [.int .i64 (n : Nat), v] :: own 136 1 v ws.length (wcells ws) :: pre) post) : Spec Tryd.prog f args (mset p n S :: pre) post :=
  Spec.exA' fun x => h x.1.1 x.1.2 x.2
theorem has_eq {n : Nat} {ws : List (BitVec 64)} {S : Nat → Bool} (hw : Wf n ws S) (k : Int) : (decide (0 ≤ k) && (decide (k < n) && mem ws k.toNat)) = (decide (0 ≤ k) && S k.toNat) := by
  rw [hw.2.2.1]
  by_cases h0 : 0 ≤ k
  · by_cases h : k < n
    · simp [h]
    · rw [hw.2.2.2 k.toNat (by omega)]; simp
  · simp [h0]
theorem has_m (p n : Nat) (S : Nat → Bool) (k : Int) : Spec Tryd.prog 56 [.pointer (some ⟨p, 0, none⟩), .int .i64 k] [mset p n S] (fun r L => r = .bool (decide (0 ≤ k) && S k.toNat) ∧ L = [mset p n S]) := by
  refine mset_elim fun v ws hw => ?_
  refine Spec.ent3 (has_o p n v ws k hw.1 hw.2.1) ?_
  rintro r L ⟨rfl, rfl⟩
  exact ⟨_, mset_close hw, by rw [has_eq hw], rfl⟩
theorem put_m (p n : Nat) (S : Nat → Bool) (k : Int) : Spec Tryd.prog 55 [.pointer (some ⟨p, 0, none⟩), .int .i64 k] [mset p n S] (fun r L => r = .bool (decide (0 ≤ k) && (decide (k < n) && !S k.toNat)) ∧ L = [mset p n (fun j => S j || (decide (0 ≤ k ∧ k < n) && decide (j = k.toNat)))]) := by
  refine mset_elim fun v ws hw => ?_
  refine Spec.ent3 (put_o p n v ws k hw.1 hw.2.1) ?_
  rintro r L ⟨rfl, ws', h1, h2, rfl⟩
  refine ⟨_, mset_close (ws := ws') ⟨by rw [h1]; exact hw.1, hw.2.1, fun j => by rw [h2, hw.2.2.1], fun j hj => ?_⟩, by rw [hw.2.2.1], rfl⟩
  rw [hw.2.2.2 j hj, Bool.false_or]
  by_cases h : 0 ≤ k ∧ k < n
  · rw [decide_eq_false (show ¬ j = k.toNat by omega), Bool.and_false]
  · simp [h]
theorem list_m (μ : PH) (p n : Nat) (S : Nat → Bool) (hT : RowAt μ 1 0 tabV) : Spec Tryd.prog 57 [.pointer (some ⟨p, 0, none⟩)] [mset p n S, ro μ] (fun r L => L = [own 3 1 r (elsTo n S).length ((elsTo n S).flatMap (icsk .i64)), mset p n S, ro μ]) := by
  refine mset_elim fun v ws hw => ?_
  have hS : mem ws = S := funext hw.2.2.1
  refine Spec.ent3 (list_o μ p n v ws hT hw.1 hw.2.1 (fun j hj => by rw [hS]; exact hw.2.2.2 j hj)) ?_
  rintro r L rfl
  rw [hS]
  exact ⟨_, Ent.cons (mset_close hw), rfl⟩
end SX
namespace SX
open Go Go.Proofs

end SX
namespace SX.Bq
open Go Go.Proofs SX
abbrev WI : Type := Int
abbrev wiV (x : WI) : Value := .int .i64 x
def wiZ : WI := 0
/-- the greatest first -/
def ltW (a b : WI) : Bool := decide (b < a)
theorem ltW_ord : Hp.Ord ltW := ⟨fun a b h => by
  have h' : @LT.lt Int _ b a := of_decide_eq_true h
  exact decide_eq_false (show ¬ @LT.lt Int _ a b by omega), fun a b c h1 h2 => by
  have h1' : ¬ @LT.lt Int _ a b := of_decide_eq_false h1
  have h2' : ¬ @LT.lt Int _ b c := of_decide_eq_false h2
  exact decide_eq_false (show ¬ @LT.lt Int _ a c by omega)⟩
theorem before_w (a b : WI) : Spec Tryd.prog 118 [wiV a, wiV b] [] (fun v L => v = .bool (ltW a b) ∧ L = []) := by
 refine Spec.of 8 Tryd.func118 rfl rfl rfl ?_
 refine swp_seq ?_
 refine swp_region ?_
 refine s_pu (pu_assign rfl) ?_
 refine swl_sub _ (.cons (t := 0) rfl (.cons (t := 1) rfl .nil)) ?_
 refine swl_nil ?_
 refine then_n ?_
 refine swp_seq ?_
 refine swp_region ?_
 refine s_pu (pu_move rfl) ?_
 refine s_pu (pu_move rfl) ?_
 refine s_pu (pu_gtr rfl rfl) ?_
 refine s_pu (pu_assign rfl) ?_
 refine swl_sub _ (.cons (t := 4) rfl .nil) ?_
 refine swl_nil ?_
 refine then_n ?_
 refine swp_ret ?_
 exact done_ret [] (.tmp rfl .nil) ⟨rfl, rfl⟩ (by repeat (first | exact Split.nil | (apply Split.cons; (repeat (first | with_reducible exact Take.here | apply Take.there)))))
end SX.Bq
namespace SX.Bq
open Go Go.Proofs SX

abbrev aW := Hp.ahd ltW
def wcs (e : WI × Nat) : List Value := [wiV e.1, .int .u64 (e.2 : Nat)]
theorem wcs_len (e : WI × Nat) : (wcs e).length = 2 := rfl
def wents (es : List (WI × Nat)) : List Value := es.flatMap wcs
theorem wents_len (es : List (WI × Nat)) : (wents es).length = es.length * 2 := by unfold wents; rw [flat_length wcs_len]
theorem wents_snoc (es : List (WI × Nat)) (x : WI) (n : Nat) : wents es ++ [wiV x, .int .u64 (n : Nat)] = wents (es ++ [(x, n)]) := by simp [wents, wcs]

theorem ahead_w (a b : WI) (n1 n2 : Nat) : Spec Tryd.prog 67 [.agg #[wiV a, .int .u64 (n1 : Nat)], .agg #[wiV b, .int .u64 (n2 : Nat)]] []
  (fun v L => v = .bool (aW (a, n1) (b, n2)) ∧ L = []) := by
 refine Spec.of 25 Tryd.func67 rfl rfl rfl ?_
 refine swp_seq ?_
 refine swp_region ?_
 refine s_ef (ef_box rfl rfl) ?_
 intro b2
 refine s_ef (ef_box rfl rfl) ?_
 intro b3
 refine s_pu (pu_assign rfl) ?_
 refine swl_sub _ (.cons (t := 2) rfl (.cons (t := 3) rfl .nil)) ?_
 refine swl_nil ?_
 refine then_n ?_
 refine swp_seq ?_
 refine swp_seq ?_
 refine swp_region ?_
 first | refine s_pu (pu_fieldAddr0 rfl) ?_ | refine s_pu (pu_fieldAddr rfl) ?_
 refine s_rd (rd_load rfl rfl) ?_
 refine s_pu (pu_iface rfl) ?_
 first | refine s_pu (pu_fieldAddr0 rfl) ?_ | refine s_pu (pu_fieldAddr rfl) ?_
 refine s_rd (rd_load rfl rfl) ?_
 refine s_ef (ef_inv rfl (before_w _ _) rfl (by repeat (first | exact Split.nil | (apply Split.cons; (repeat (first | with_reducible exact Take.here | apply Take.there)))))) ?_
 rintro v L1 ⟨rfl, rfl⟩
 refine swl_app ?_
 refine swl_sub _ (.cons (t := 2) rfl (.cons (t := 3) rfl (.cons (t := 10) rfl .nil))) ?_
 refine swl_nil ?_
 refine then_n ?_
 refine swp_cond (b := _) rfl (fun h10 => ?_) (fun h10 => ?_)
 ·skip
  refine swp_seq ?_
  refine swp_region ?_
  refine s_pu (pu_assign rfl) ?_
  refine swl_sub _ (.cons (t := 4) rfl .nil) ?_
  refine swl_nil ?_
  refine then_n ?_
  refine swp_ret ?_
  refine then_r ?_
  exact done_ret [] (.tmp rfl .nil) ⟨by simp [resV, h10, Hp.ahd], rfl⟩ (by repeat (first | exact Split.nil | (apply Split.cons; (repeat (first | with_reducible exact Take.here | apply Take.there)))))
 ·skip
  refine swp_skip ?_
  refine then_n ?_
  refine swp_seq ?_
  refine swp_region ?_
  first | refine s_pu (pu_fieldAddr0 rfl) ?_ | refine s_pu (pu_fieldAddr rfl) ?_
  refine s_rd (rd_load rfl rfl) ?_
  refine s_pu (pu_iface rfl) ?_
  first | refine s_pu (pu_fieldAddr0 rfl) ?_ | refine s_pu (pu_fieldAddr rfl) ?_
  refine s_rd (rd_load rfl rfl) ?_
  refine s_ef (ef_inv rfl (before_w _ _) rfl (by repeat (first | exact Split.nil | (apply Split.cons; (repeat (first | with_reducible exact Take.here | apply Take.there)))))) ?_
  rintro v L1 ⟨rfl, rfl⟩
  refine swl_app ?_
  refine s_pu (pu_not rfl) ?_
  refine s_pu (pu_move rfl) ?_
  refine s_split 18 rfl (fun h18 => ?_) (fun h18 => ?_)
  ·skip
   refine s_on rfl rfl ?_
   first | refine s_pu (pu_fieldAddr0 rfl) ?_ | refine s_pu (pu_fieldAddr rfl) ?_
   refine s_on rfl rfl ?_
   refine s_rd (rd_load rfl rfl) ?_
   refine s_on rfl rfl ?_
   first | refine s_pu (pu_fieldAddr0 rfl) ?_ | refine s_pu (pu_fieldAddr rfl) ?_
   refine s_on rfl rfl ?_
   refine s_rd (rd_load rfl rfl) ?_
   refine s_on rfl rfl ?_
   refine s_pu (pu_lss rfl rfl) ?_
   first | refine s_pu (pu_pick_t rfl rfl) ?_ | refine s_pu (pu_pick_f rfl rfl) ?_
   refine s_pu (pu_assign rfl) ?_
   refine swl_sub _ (.cons (t := 4) rfl .nil) ?_
   refine swl_nil ?_
   refine then_n ?_
   refine swp_ret ?_
   exact done_ret [] (.tmp rfl .nil) ⟨by simp [resV, h10, h18, Hp.ahd], rfl⟩ (by repeat (first | exact Split.nil | (apply Split.cons; (repeat (first | with_reducible exact Take.here | apply Take.there)))))
  ·skip
   refine s_off rfl rfl rfl ?_
   refine s_off rfl rfl rfl ?_
   refine s_off rfl rfl rfl ?_
   refine s_off rfl rfl rfl ?_
   refine s_off rfl rfl rfl ?_
   first | refine s_pu (pu_pick_t rfl rfl) ?_ | refine s_pu (pu_pick_f rfl rfl) ?_
   refine s_pu (pu_assign rfl) ?_
   refine swl_sub _ (.cons (t := 4) rfl .nil) ?_
   refine swl_nil ?_
   refine then_n ?_
   refine swp_ret ?_
   exact done_ret [] (.tmp rfl .nil) ⟨by simp [resV, h10, h18, Hp.ahd], rfl⟩ (by repeat (first | exact Split.nil | (apply Split.cons; (repeat (first | with_reducible exact Take.here | apply Take.there)))))

/-- a queue's struct and its array -/
def wraw (q : Nat) (es : List (WI × Nat)) (nxt : Nat) : Assn := exA (fun v : Value => [blk q 138 [v, .int .u64 (nxt : Nat)], own 161 2 v es.length (wents es)])
theorem wraw_close {q g cap nxt : Nat} {es : List (WI × Nat)} {ex : List Value} {L : List Assn} (h1 : es.length ≤ cap) (h2 : cap ≤ maxLen) (h4 : ex.length = (cap - es.length) * 2) :
    Ent (blk g 161 (wents es ++ ex) :: blk q 138 [.slice (some ⟨g, 0, none⟩) es.length cap, .int .u64 (nxt : Nat)] :: L) (wraw q es nxt :: L) :=
  (own_close (wents_len es) h4 h1 h2).trans (ent_ex (F := fun v => [blk q 138 [v, .int .u64 (nxt : Nat)], own 161 2 v es.length (wents es)]) (.slice (some ⟨g, 0, none⟩) es.length cap) (by repeat (first | exact Split.nil | (apply Split.cons; (repeat (first | with_reducible exact Take.here | apply Take.there))))))
theorem wraw_nil {q nxt : Nat} {L : List Assn} : Ent (blk q 138 [.slice none 0 0, .int .u64 (nxt : Nat)] :: L) (wraw q [] nxt :: L) :=
  Ent.imp fun m hm => ⟨.slice none 0 0, m, fun _ => none, hm, ⟨fun _ => none, fun _ => none, own_nil _ _ _, trivial, by simp, by simp, by simp⟩, by simp, fun _ _ h => h, by simp⟩

set_option maxHeartbeats 1000000 in
theorem push_w (q : Nat) (es : List (WI × Nat)) (nxt : Nat) (x : WI) (hb1 : es.length ≤ 1099511627776) (hb2 : nxt ≤ 18446744073709551614) :
  Spec Tryd.prog 52 [.pointer (some ⟨q, 0, none⟩), wiV x] [wraw q es nxt] (fun v L => v = .tuple #[] ∧ L = [wraw q (Hp.up aW es.length (es ++ [(x, nxt)]) es.length) (nxt + 1)]) := by
 refine Spec.of 84 Tryd.func52 rfl rfl rfl ?_
 refine swp_ex fun v => ?_
 refine swp_app ?_
 refine swp_seq ?_
 refine swp_seq ?_
 refine swp_region ?_
 refine s_pu (pu_move rfl) ?_
 refine s_pu (pu_ptr_eq_nil rfl rfl) ?_
 refine swl_sub _ (.cons (t := 0) rfl (.cons (t := 1) rfl (.cons (t := 7) rfl .nil))) ?_
 refine swl_nil ?_
 refine then_n ?_
 refine swp_cond (b := _) rfl (fun h7 => by cases h7) (fun h7 => ?_)
 refine swp_skip ?_
 refine then_n ?_
 refine swp_seq ?_
 refine swp_draw [4, 9] _ [] (by simp only [List.append_nil]; exact Ent.refl _) (by kernel_rfl) ?_
 refine d_pu 0 rfl (pu_move rfl) (by kernel_rfl) (by kernel_rfl) (by kernel_rfl) ?_
 refine d_pu 1 rfl (pu_move rfl) (by kernel_rfl) (by kernel_rfl) (by kernel_rfl) ?_
 first | refine d_pu 2 rfl (pu_nilCheck rfl) (by kernel_rfl) (by kernel_rfl) (by kernel_rfl) ?_ | refine d_pu 2 rfl (pu_nilCheck_fn rfl) (by kernel_rfl) (by kernel_rfl) (by kernel_rfl) ?_ | refine d_pu 2 rfl (pu_nilCheck_if rfl) (by kernel_rfl) (by kernel_rfl) (by kernel_rfl) ?_
 first | refine d_pu 3 rfl (pu_fieldAddr0 rfl) (by kernel_rfl) (by kernel_rfl) (by kernel_rfl) ?_ | refine d_pu 3 rfl (pu_fieldAddr rfl) (by kernel_rfl) (by kernel_rfl) (by kernel_rfl) ?_
 refine d_rd 4 rfl (rd_load rfl rfl) rfl (by kernel_rfl) (by kernel_rfl) (by kernel_rfl) ?_
 refine d_pu 5 rfl (pu_move rfl) (by kernel_rfl) (by kernel_rfl) (by kernel_rfl) ?_
 refine d_pu 6 rfl (pu_move rfl) (by kernel_rfl) (by kernel_rfl) (by kernel_rfl) ?_
 first | refine d_pu 7 rfl (pu_nilCheck rfl) (by kernel_rfl) (by kernel_rfl) (by kernel_rfl) ?_ | refine d_pu 7 rfl (pu_nilCheck_fn rfl) (by kernel_rfl) (by kernel_rfl) (by kernel_rfl) ?_ | refine d_pu 7 rfl (pu_nilCheck_if rfl) (by kernel_rfl) (by kernel_rfl) (by kernel_rfl) ?_
 first | refine d_pu 8 rfl (pu_fieldAddr0 rfl) (by kernel_rfl) (by kernel_rfl) (by kernel_rfl) ?_ | refine d_pu 8 rfl (pu_fieldAddr rfl) (by kernel_rfl) (by kernel_rfl) (by kernel_rfl) ?_
 refine d_rd 9 rfl (rd_load rfl rfl) rfl (by kernel_rfl) (by kernel_rfl) (by kernel_rfl) ?_
 refine d_pu 10 rfl (pu_bld (qs := [(0, _), (1, _)]) rfl) (by kernel_rfl) (by kernel_rfl) (by kernel_rfl) ?_
 refine d_eft 11 rfl (by kernel_rfl) (ef_bldS (qs := [(0, _)]) rfl rfl rfl) ?_
 intro b19
 refine ⟨_, Split.ent (by repeat (first | exact Split.nil | (apply Split.cons; (repeat (first | with_reducible exact Take.here | apply Take.there))))), ?_⟩
 first | refine d_fint 12 rfl (by kernel_rfl) (by kernel_rfl) (ef_append_lit (l := es.length) (m := 1) rfl rfl (by repeat (first | exact Split.nil | (apply Split.cons; (repeat (first | with_reducible exact Take.here | apply Take.there))))) (by simp only [maxLen]; omega) (by omega)) ?_ | refine d_finf 12 rfl (by kernel_rfl) (by kernel_rfl) (ef_append_lit (l := es.length) (m := 1) rfl rfl (by repeat (first | exact Split.nil | (apply Split.cons; (repeat (first | with_reducible exact Take.here | apply Take.there))))) (by simp only [maxLen]; omega) (by omega)) ?_
 rintro v' hv'
 obtain ⟨g, cap, rfl⟩ := hv' (by decide)
 rw [wents_snoc]
 first | refine d_pu 13 rfl (pu_nilCheck rfl) (by kernel_rfl) (by kernel_rfl) (by kernel_rfl) ?_ | refine d_pu 13 rfl (pu_nilCheck_fn rfl) (by kernel_rfl) (by kernel_rfl) (by kernel_rfl) ?_ | refine d_pu 13 rfl (pu_nilCheck_if rfl) (by kernel_rfl) (by kernel_rfl) (by kernel_rfl) ?_
 first | refine d_pu 14 rfl (pu_fieldAddr0 rfl) (by kernel_rfl) (by kernel_rfl) (by kernel_rfl) ?_ | refine d_pu 14 rfl (pu_fieldAddr rfl) (by kernel_rfl) (by kernel_rfl) (by kernel_rfl) ?_
 first | refine d_fin0t 15 rfl (by kernel_rfl) (by kernel_rfl) (ef_store rfl rfl rfl) ?_ | refine d_fin0f 15 rfl (by kernel_rfl) (by kernel_rfl) (ef_store rfl rfl rfl) ?_
 refine d_sub _ (.cons (t := 0) rfl .nil) ?_
 first | refine d_nilt (by kernel_rfl) ?_ | refine d_nilf (by kernel_rfl) ?_
 refine then_n ?_
 refine swp_seq ?_
 refine swp_region ?_
 refine s_pu (pu_move rfl) ?_
 first | refine s_pu (pu_nilCheck rfl) ?_ | refine s_pu (pu_nilCheck_fn rfl) ?_ | refine s_pu (pu_nilCheck_if rfl) ?_
 first | refine s_pu (pu_fieldAddr0 rfl) ?_ | refine s_pu (pu_fieldAddr rfl) ?_
 refine s_rd (rd_load rfl rfl) ?_
 refine s_pu (pu_add_u64 ((nxt + 1 : Nat) : Int) rfl rfl (by omega) (by omega) (by omega)) ?_
 first | refine s_pu (pu_nilCheck rfl) ?_ | refine s_pu (pu_nilCheck_fn rfl) ?_ | refine s_pu (pu_nilCheck_if rfl) ?_
 first | refine s_pu (pu_fieldAddr0 rfl) ?_ | refine s_pu (pu_fieldAddr rfl) ?_
 refine s_ef0 (ef_store rfl rfl rfl) ?_
 refine swl_sub _ (.cons (t := 0) rfl .nil) ?_
 refine swl_nil ?_
 refine then_n ?_
 refine swp_seq ?_
 refine swp_region ?_
 refine s_pu (pu_move rfl) ?_
 first | refine s_pu (pu_nilCheck rfl) ?_ | refine s_pu (pu_nilCheck_fn rfl) ?_ | refine s_pu (pu_nilCheck_if rfl) ?_
 first | refine s_pu (pu_fieldAddr0 rfl) ?_ | refine s_pu (pu_fieldAddr rfl) ?_
 refine s_rd (rd_load rfl rfl) ?_
 refine s_pu (pu_len rfl) ?_
 refine s_pu (pu_sub_as (es.length : Int) rfl rfl (by omega) (by omega) (by omega)) ?_
 refine s_pu (pu_assign rfl) ?_
 refine swl_sub _ (.cons (t := 0) rfl (.cons (t := 4) rfl .nil)) ?_
 refine swl_own (by repeat (first | with_reducible exact Take.here | apply Take.there)) (fun h _ _ => by cases h) (fun hb cap' ex hv h1 h2 h3 h4 => ?_)
 cases hv
 have hlen : (es ++ [(x, nxt)]).length = es.length + 1 := by simp
 refine swl_nil ?_
 refine then_n ?_
 refine swp_block ?_
 refine swp_loop (ι := Nat × List (WI × Nat)) (fun k env L => env = [(0, .pointer (some ⟨q, 0, none⟩)), (4, .int .i64 (k.1 : Nat))] ∧
  L = [blk g 161 (wents k.2 ++ ex), blk q 138 [.slice (some ⟨g, 0, none⟩) (es.length + 1) cap, .int .u64 ((nxt + 1 : Nat) : Int)]] ∧
  k.2.length = es.length + 1 ∧ k.1 ≤ es.length ∧ Hp.up aW k.1 k.2 k.1 = Hp.up aW es.length (es ++ [(x, nxt)]) es.length) (fun k => k.1) (es.length, es ++ [(x, nxt)]) ⟨rfl, rfl, hlen, Nat.le_refl _, rfl⟩ ?_
 rintro ⟨i, fs⟩ env L ⟨rfl, rfl, hl, hi, hup⟩
 simp only [] at hl hi hup
 dsimp only
 refine swp_seq ?_
 refine swp_seq ?_
 refine swp_region ?_
 refine s_pu (pu_move rfl) ?_
 refine s_pu (pu_gtr rfl rfl) ?_
 refine swl_sub _ (.cons (t := 0) rfl (.cons (t := 4) rfl (.cons (t := 37) rfl .nil))) ?_
 refine swl_nil ?_
 refine then_n ?_
 refine swp_cond (b := _) rfl (fun h37 => ?_) (fun h37 => ?_)
 ·skip
  have h37' : 0 < i := by simpa using h37
  obtain ⟨ei, hei⟩ : ∃ e, fs[i]? = some e := ⟨_, List.getElem?_eq_getElem (by omega)⟩
  obtain ⟨ep, hep⟩ : ∃ e, fs[(i - 1) / 2]? = some e := ⟨_, List.getElem?_eq_getElem (by omega)⟩
  refine swp_skip ?_
  refine then_n ?_
  refine swp_block ?_
  refine swp_seq ?_
  refine swp_region ?_
  refine s_pu (pu_move rfl) ?_
  first | refine s_pu (pu_sub_in rfl rfl (by omega) (by omega)) ?_ | refine s_pu (pu_sub rfl rfl) ?_
  refine s_pu (pu_quo_as (((i - 1) / 2 : Nat) : Int) rfl rfl (by omega) (by omega) (by omega) (by omega)) ?_
  refine s_pu (pu_assign rfl) ?_
  refine swl_sub _ (.cons (t := 0) rfl (.cons (t := 4) rfl (.cons (t := 5) rfl .nil))) ?_
  refine swl_nil ?_
  refine then_n ?_
  refine swp_seq ?_
  refine swp_seq ?_
  refine swp_draw [3, 6, 10, 13] _ [] (by simp only [List.append_nil]; exact Ent.refl _) (by kernel_rfl) ?_
  refine d_pu 0 rfl (pu_move rfl) (by kernel_rfl) (by kernel_rfl) (by kernel_rfl) ?_
  first | refine d_pu 1 rfl (pu_nilCheck rfl) (by kernel_rfl) (by kernel_rfl) (by kernel_rfl) ?_ | refine d_pu 1 rfl (pu_nilCheck_fn rfl) (by kernel_rfl) (by kernel_rfl) (by kernel_rfl) ?_ | refine d_pu 1 rfl (pu_nilCheck_if rfl) (by kernel_rfl) (by kernel_rfl) (by kernel_rfl) ?_
  first | refine d_pu 2 rfl (pu_fieldAddr0 rfl) (by kernel_rfl) (by kernel_rfl) (by kernel_rfl) ?_ | refine d_pu 2 rfl (pu_fieldAddr rfl) (by kernel_rfl) (by kernel_rfl) (by kernel_rfl) ?_
  refine d_rd 3 rfl (rd_load rfl rfl) rfl (by kernel_rfl) (by kernel_rfl) (by kernel_rfl) ?_
  refine d_pu 4 rfl (pu_move rfl) (by kernel_rfl) (by kernel_rfl) (by kernel_rfl) ?_
  refine d_pu 5 rfl (pu_indexAddr (i * 2) rfl rfl (by omega) (by omega) (by simp)) (by kernel_rfl) (by kernel_rfl) (by kernel_rfl) ?_
  refine d_rd 6 rfl (rd_loadA (vs := wcs ei) rfl (by rfl) (flat_get wcs_len fs ex i ei hei)) rfl (by kernel_rfl) (by kernel_rfl) (by kernel_rfl) ?_
  refine d_pu 7 rfl (pu_move rfl) (by kernel_rfl) (by kernel_rfl) (by kernel_rfl) ?_
  first | refine d_pu 8 rfl (pu_nilCheck rfl) (by kernel_rfl) (by kernel_rfl) (by kernel_rfl) ?_ | refine d_pu 8 rfl (pu_nilCheck_fn rfl) (by kernel_rfl) (by kernel_rfl) (by kernel_rfl) ?_ | refine d_pu 8 rfl (pu_nilCheck_if rfl) (by kernel_rfl) (by kernel_rfl) (by kernel_rfl) ?_
  first | refine d_pu 9 rfl (pu_fieldAddr0 rfl) (by kernel_rfl) (by kernel_rfl) (by kernel_rfl) ?_ | refine d_pu 9 rfl (pu_fieldAddr rfl) (by kernel_rfl) (by kernel_rfl) (by kernel_rfl) ?_
  refine d_rd 10 rfl (rd_load rfl rfl) rfl (by kernel_rfl) (by kernel_rfl) (by kernel_rfl) ?_
  refine d_pu 11 rfl (pu_move rfl) (by kernel_rfl) (by kernel_rfl) (by kernel_rfl) ?_
  refine d_pu 12 rfl (pu_indexAddr ((i - 1) / 2 * 2) rfl rfl (by omega) (by omega) (by omega)) (by kernel_rfl) (by kernel_rfl) (by kernel_rfl) ?_
  refine d_rd 13 rfl (rd_loadA (vs := wcs ep) rfl (by rfl) (flat_get wcs_len fs ex ((i - 1) / 2) ep hep)) rfl (by kernel_rfl) (by kernel_rfl) (by kernel_rfl) ?_
  first | refine d_fint 14 rfl (by kernel_rfl) (by kernel_rfl) (ef_fn (ahead_w _ _ _ _) rfl rfl (by repeat (first | exact Split.nil | (apply Split.cons; (repeat (first | with_reducible exact Take.here | apply Take.there)))))) ?_ | refine d_finf 14 rfl (by kernel_rfl) (by kernel_rfl) (ef_fn (ahead_w _ _ _ _) rfl rfl (by repeat (first | exact Split.nil | (apply Split.cons; (repeat (first | with_reducible exact Take.here | apply Take.there)))))) ?_
  rintro v L1 ⟨rfl, rfl⟩
  refine swd_app ?_
  refine d_pu 15 rfl (pu_not rfl) (by kernel_rfl) (by kernel_rfl) (by kernel_rfl) ?_
  refine d_sub _ (.cons (t := 0) rfl (.cons (t := 4) rfl (.cons (t := 5) rfl (.cons (t := 56) rfl .nil)))) ?_
  first | refine d_nilt (by kernel_rfl) ?_ | refine d_nilf (by kernel_rfl) ?_
  refine then_n ?_
  refine swp_cond (b := _) rfl (fun h56 => ?_) (fun h56 => ?_)
  ·skip
   have hT : Hp.up aW es.length (es ++ [(x, nxt)]) es.length = fs := by
    rw [← hup]; exact Hp.up_stop hei hep (not_t h56)
   refine swp_ret ?_
   refine then_r ?_
   refine block_r ?_
   refine then_r ?_
   refine block_r ?_
   rw [hT]
   have hl' : fs.length = es.length + 1 := hl
   rw [← hl'] at h1 h4 ⊢
   first | exact done_retE [wraw q fs (nxt + 1)] .nil ⟨rfl, rfl⟩ ((Split.ent' (K := [blk g 161 (wents fs ++ ex), blk q 138 [.slice (some ⟨g, 0, none⟩) fs.length cap, .int .u64 ((nxt + 1 : Nat) : Int)]]) (by repeat (first | exact Split.nil | (apply Split.cons; (repeat (first | with_reducible exact Take.here | apply Take.there)))))).trans (wraw_close h1 h2 h4)) | exact done_endE [wraw q fs (nxt + 1)] .nil ⟨rfl, rfl⟩ ((Split.ent' (K := [blk g 161 (wents fs ++ ex), blk q 138 [.slice (some ⟨g, 0, none⟩) fs.length cap, .int .u64 ((nxt + 1 : Nat) : Int)]]) (by repeat (first | exact Split.nil | (apply Split.cons; (repeat (first | with_reducible exact Take.here | apply Take.there)))))).trans (wraw_close h1 h2 h4))
  ·skip
   have hel : (wents fs).length = (es.length + 1) * 2 := by rw [wents_len, hl]
   refine swp_skip ?_
   refine then_n ?_
   refine swp_seq ?_
   refine swp_draw [3, 8, 13, 16, 20, 23] _ [] (by simp only [List.append_nil]; exact Ent.refl _) (by kernel_rfl) ?_
   refine d_pu 0 rfl (pu_move rfl) (by kernel_rfl) (by kernel_rfl) (by kernel_rfl) ?_
   first | refine d_pu 1 rfl (pu_nilCheck rfl) (by kernel_rfl) (by kernel_rfl) (by kernel_rfl) ?_ | refine d_pu 1 rfl (pu_nilCheck_fn rfl) (by kernel_rfl) (by kernel_rfl) (by kernel_rfl) ?_ | refine d_pu 1 rfl (pu_nilCheck_if rfl) (by kernel_rfl) (by kernel_rfl) (by kernel_rfl) ?_
   first | refine d_pu 2 rfl (pu_fieldAddr0 rfl) (by kernel_rfl) (by kernel_rfl) (by kernel_rfl) ?_ | refine d_pu 2 rfl (pu_fieldAddr rfl) (by kernel_rfl) (by kernel_rfl) (by kernel_rfl) ?_
   refine d_rd 3 rfl (rd_load rfl rfl) rfl (by kernel_rfl) (by kernel_rfl) (by kernel_rfl) ?_
   refine d_pu 4 rfl (pu_move rfl) (by kernel_rfl) (by kernel_rfl) (by kernel_rfl) ?_
   refine d_pu 5 rfl (pu_move rfl) (by kernel_rfl) (by kernel_rfl) (by kernel_rfl) ?_
   first | refine d_pu 6 rfl (pu_nilCheck rfl) (by kernel_rfl) (by kernel_rfl) (by kernel_rfl) ?_ | refine d_pu 6 rfl (pu_nilCheck_fn rfl) (by kernel_rfl) (by kernel_rfl) (by kernel_rfl) ?_ | refine d_pu 6 rfl (pu_nilCheck_if rfl) (by kernel_rfl) (by kernel_rfl) (by kernel_rfl) ?_
   first | refine d_pu 7 rfl (pu_fieldAddr0 rfl) (by kernel_rfl) (by kernel_rfl) (by kernel_rfl) ?_ | refine d_pu 7 rfl (pu_fieldAddr rfl) (by kernel_rfl) (by kernel_rfl) (by kernel_rfl) ?_
   refine d_rd 8 rfl (rd_load rfl rfl) rfl (by kernel_rfl) (by kernel_rfl) (by kernel_rfl) ?_
   refine d_pu 9 rfl (pu_move rfl) (by kernel_rfl) (by kernel_rfl) (by kernel_rfl) ?_
   refine d_pu 10 rfl (pu_move rfl) (by kernel_rfl) (by kernel_rfl) (by kernel_rfl) ?_
   first | refine d_pu 11 rfl (pu_nilCheck rfl) (by kernel_rfl) (by kernel_rfl) (by kernel_rfl) ?_ | refine d_pu 11 rfl (pu_nilCheck_fn rfl) (by kernel_rfl) (by kernel_rfl) (by kernel_rfl) ?_ | refine d_pu 11 rfl (pu_nilCheck_if rfl) (by kernel_rfl) (by kernel_rfl) (by kernel_rfl) ?_
   first | refine d_pu 12 rfl (pu_fieldAddr0 rfl) (by kernel_rfl) (by kernel_rfl) (by kernel_rfl) ?_ | refine d_pu 12 rfl (pu_fieldAddr rfl) (by kernel_rfl) (by kernel_rfl) (by kernel_rfl) ?_
   refine d_rd 13 rfl (rd_load rfl rfl) rfl (by kernel_rfl) (by kernel_rfl) (by kernel_rfl) ?_
   refine d_pu 14 rfl (pu_move rfl) (by kernel_rfl) (by kernel_rfl) (by kernel_rfl) ?_
   refine d_pu 15 rfl (pu_indexAddr ((i - 1) / 2 * 2) rfl rfl (by omega) (by omega) (by omega)) (by kernel_rfl) (by kernel_rfl) (by kernel_rfl) ?_
   refine d_rd 16 rfl (rd_loadA (vs := wcs ep) rfl (by rfl) (flat_get wcs_len fs ex ((i - 1) / 2) ep hep)) rfl (by kernel_rfl) (by kernel_rfl) (by kernel_rfl) ?_
   refine d_pu 17 rfl (pu_move rfl) (by kernel_rfl) (by kernel_rfl) (by kernel_rfl) ?_
   first | refine d_pu 18 rfl (pu_nilCheck rfl) (by kernel_rfl) (by kernel_rfl) (by kernel_rfl) ?_ | refine d_pu 18 rfl (pu_nilCheck_fn rfl) (by kernel_rfl) (by kernel_rfl) (by kernel_rfl) ?_ | refine d_pu 18 rfl (pu_nilCheck_if rfl) (by kernel_rfl) (by kernel_rfl) (by kernel_rfl) ?_
   first | refine d_pu 19 rfl (pu_fieldAddr0 rfl) (by kernel_rfl) (by kernel_rfl) (by kernel_rfl) ?_ | refine d_pu 19 rfl (pu_fieldAddr rfl) (by kernel_rfl) (by kernel_rfl) (by kernel_rfl) ?_
   refine d_rd 20 rfl (rd_load rfl rfl) rfl (by kernel_rfl) (by kernel_rfl) (by kernel_rfl) ?_
   refine d_pu 21 rfl (pu_move rfl) (by kernel_rfl) (by kernel_rfl) (by kernel_rfl) ?_
   refine d_pu 22 rfl (pu_indexAddr (i * 2) rfl rfl (by omega) (by omega) (by omega)) (by kernel_rfl) (by kernel_rfl) (by kernel_rfl) ?_
   refine d_rd 23 rfl (rd_loadA (vs := wcs ei) rfl (by rfl) (flat_get wcs_len fs ex i ei hei)) rfl (by kernel_rfl) (by kernel_rfl) (by kernel_rfl) ?_
   refine d_pu 24 rfl (pu_indexAddr (i * 2) rfl rfl (by omega) (by omega) (by omega)) (by kernel_rfl) (by kernel_rfl) (by kernel_rfl) ?_
   first | refine d_fin0t 25 rfl (by kernel_rfl) (by kernel_rfl) (ef_storeAs (vs := wcs ep) rfl rfl (flat_over wcs_len fs ex i ep (by omega)) (by rw [List.length_append, ← wents, hel, wcs_len]; omega) rfl rfl) ?_ | refine d_fin0f 25 rfl (by kernel_rfl) (by kernel_rfl) (ef_storeAs (vs := wcs ep) rfl rfl (flat_over wcs_len fs ex i ep (by omega)) (by rw [List.length_append, ← wents, hel, wcs_len]; omega) rfl rfl) ?_
   refine d_pu 26 rfl (pu_indexAddr ((i - 1) / 2 * 2) rfl rfl (by omega) (by omega) (by omega)) (by kernel_rfl) (by kernel_rfl) (by kernel_rfl) ?_
   first | refine d_fin0t 27 rfl (by kernel_rfl) (by kernel_rfl) (ef_storeAs (vs := wcs ei) rfl rfl (flat_over wcs_len (fs.set i ep) ex ((i - 1) / 2) ei (by simp; omega)) (by rw [List.length_append, flat_length wcs_len, wcs_len, List.length_set]; omega) rfl rfl) ?_ | refine d_fin0f 27 rfl (by kernel_rfl) (by kernel_rfl) (ef_storeAs (vs := wcs ei) rfl rfl (flat_over wcs_len (fs.set i ep) ex ((i - 1) / 2) ei (by simp; omega)) (by rw [List.length_append, flat_length wcs_len, wcs_len, List.length_set]; omega) rfl rfl) ?_
   refine d_sub _ (.cons (t := 0) rfl (.cons (t := 5) rfl .nil)) ?_
   first | refine d_nilt (by kernel_rfl) ?_ | refine d_nilf (by kernel_rfl) ?_
   refine then_n ?_
   refine swp_region ?_
   refine s_pu (pu_move rfl) ?_
   refine s_pu (pu_assign rfl) ?_
   refine swl_sub _ (.cons (t := 0) rfl (.cons (t := 4) rfl .nil)) ?_
   refine swl_nil ?_
   refine block_n ?_
   refine then_n ⟨((i - 1) / 2, (fs.set i ep).set ((i - 1) / 2) ei), ⟨rfl, rfl, by simp [hl], by show (i - 1) / 2 ≤ es.length; omega, ?_⟩, by show (i - 1) / 2 < i; omega⟩
   rw [← hup, Hp.up_step h37' hei hep (not_f h56)]
 ·skip
  obtain rfl : i = 0 := by simp at h37; omega
  have hT : Hp.up aW es.length (es ++ [(x, nxt)]) es.length = fs := by rw [← hup]; rfl
  refine swp_exit ?_
  refine then_x ?_
  refine then_x ?_
  refine block_hit rfl ?_
  rw [hT]
  have hl' : fs.length = es.length + 1 := hl
  rw [← hl'] at h1 h4 ⊢
  first | exact done_retE [wraw q fs (nxt + 1)] .nil ⟨rfl, rfl⟩ ((Split.ent' (K := [blk g 161 (wents fs ++ ex), blk q 138 [.slice (some ⟨g, 0, none⟩) fs.length cap, .int .u64 ((nxt + 1 : Nat) : Int)]]) (by repeat (first | exact Split.nil | (apply Split.cons; (repeat (first | with_reducible exact Take.here | apply Take.there)))))).trans (wraw_close h1 h2 h4)) | exact done_endE [wraw q fs (nxt + 1)] .nil ⟨rfl, rfl⟩ ((Split.ent' (K := [blk g 161 (wents fs ++ ex), blk q 138 [.slice (some ⟨g, 0, none⟩) fs.length cap, .int .u64 ((nxt + 1 : Nat) : Int)]]) (by repeat (first | exact Split.nil | (apply Split.cons; (repeat (first | with_reducible exact Take.here | apply Take.there)))))).trans (wraw_close h1 h2 h4))
end SX.Bq
namespace SX.Bq
open Go Go.Proofs SX

/-- the best so far, behind j children -/
def bestTo (es : List (WI × Nat)) (i : Nat) : Nat → Nat
  | 0 => i
  | 1 => Hp.better aW es (2 * i + 1) i
  | _ => Hp.best aW es i
theorem bestTo_lt {es : List (WI × Nat)} {i : Nat} (hi : i < es.length) : ∀ j, bestTo es i j < es.length := by
  have hb : ∀ k m, m < es.length → Hp.better aW es k m < es.length := fun k m hm => by
    rcases Hp.better_cases (ah := aW) es k m with ⟨e, _⟩ | ⟨e, a, b, ha, _⟩
    · rw [e]; exact hm
    · rw [e]; exact (List.getElem?_eq_some_iff.1 ha).1
  intro j
  match j with
  | 0 => exact hi
  | 1 => exact hb _ _ hi
  | j + 2 => exact hb _ _ (hb _ _ hi)
theorem bestTo_succ {es : List (WI × Nat)} {i j : Nat} (hj : j < 2) : bestTo es i (j + 1) = Hp.better aW es (2 * i + 1 + j) (bestTo es i j) := by
  match j, hj with
  | 0, _ => rfl
  | 1, _ => rfl
theorem bestTo_end {es : List (WI × Nat)} {i j : Nat} (h : 2 ≤ j ∨ es.length ≤ 2 * i + 1 + j) : bestTo es i j = Hp.best aW es i := by
  have hn : ∀ k m, es.length ≤ k → Hp.better aW es k m = m := fun k m hk => by
    have : es[k]? = none := List.getElem?_eq_none_iff.2 hk
    simp [Hp.better, this]
  match j with
  | 0 =>
    have h' : es.length ≤ 2 * i + 1 := by omega
    show i = Hp.better aW es (2 * i + 2) (Hp.better aW es (2 * i + 1) i)
    rw [hn _ _ h', hn _ _ (by omega)]
  | 1 =>
    have h' : es.length ≤ 2 * i + 2 := by omega
    show Hp.better aW es (2 * i + 1) i = Hp.better aW es (2 * i + 2) (Hp.better aW es (2 * i + 1) i)
    rw [hn _ _ h']
  | j + 2 => rfl
theorem better_of {es : List (WI × Nat)} {k m : Nat} {a b : WI × Nat} (ha : es[k]? = some a) (hb : es[m]? = some b) : Hp.better aW es k m = if aW a b then k else m := by simp [Hp.better, ha, hb]

set_option maxHeartbeats 2000000 in
theorem sink_w (q g cap : Nat) (nx : Value) (es : List (WI × Nat)) (ex : List Value) (hb1 : es.length ≤ 1099511627776) :
  Spec Tryd.prog 69 [.pointer (some ⟨q, 0, none⟩)] [blk q 138 [.slice (some ⟨g, 0, none⟩) es.length cap, nx], blk g 161 (wents es ++ ex)]
   (fun v L => v = .tuple #[] ∧ L = [blk q 138 [.slice (some ⟨g, 0, none⟩) es.length cap, nx], blk g 161 (wents (Hp.down aW es.length es 0) ++ ex)]) := by
 refine Spec.of 71 Tryd.func69 rfl rfl rfl ?_
 refine swp_seq ?_
 refine swp_region ?_
 refine s_pu (pu_assign rfl) ?_
 refine swl_sub _ (.cons (t := 0) rfl (.cons (t := 2) rfl .nil)) ?_
 refine swl_nil ?_
 refine then_n ?_
 refine swp_block ?_
 refine swp_loop (ι := Nat × List (WI × Nat)) (fun k env L => env = [(0, .pointer (some ⟨q, 0, none⟩)), (2, .int .i64 (k.1 : Nat))] ∧
   L = [blk q 138 [.slice (some ⟨g, 0, none⟩) es.length cap, nx], blk g 161 (wents k.2 ++ ex)] ∧
   k.2.length = es.length ∧ (k.1 < es.length ∨ k.1 = 0) ∧ Hp.down aW es.length k.2 k.1 = Hp.down aW es.length es 0) (fun k => es.length - k.1) (0, es) ⟨rfl, rfl, rfl, .inr rfl, rfl⟩ ?_
 rintro ⟨i, fs⟩ env L ⟨rfl, rfl, hl, hi, hdn⟩
 simp only [] at hl hi hdn
 dsimp only
 refine swp_block ?_
 refine swp_seq ?_
 refine swp_region ?_
 refine s_pu (pu_move rfl) ?_
 refine s_pu (pu_assign rfl) ?_
 refine swl_sub _ (.cons (t := 0) rfl (.cons (t := 2) rfl (.cons (t := 3) rfl .nil))) ?_
 refine swl_nil ?_
 refine then_n ?_
 refine swp_cut (fun env L => env = [(0, .pointer (some ⟨q, 0, none⟩)), (2, .int .i64 (i : Nat)), (3, .int .i64 (Hp.best aW fs i : Nat))] ∧ L = [blk q 138 [.slice (some ⟨g, 0, none⟩) es.length cap, nx], blk g 161 (wents fs ++ ex)]) ?_ ?_
 ·skip
  refine swp_seq ?_
  refine swp_region ?_
  refine s_pu (pu_move rfl) ?_
  first | refine s_pu (pu_mul_in rfl rfl (by omega) (by omega)) ?_ | refine s_pu (pu_mul rfl rfl) ?_
  refine s_pu (pu_add_as ((2 * i + 1 + 0 : Nat) : Int) rfl rfl (by omega) (by omega) (by omega)) ?_
  refine s_pu (pu_assign rfl) ?_
  refine swl_sub _ (.cons (t := 0) rfl (.cons (t := 2) rfl (.cons (t := 3) rfl (.cons (t := 4) rfl .nil)))) ?_
  refine swl_nil ?_
  refine then_n ?_
  refine swp_block ?_
  refine swp_loop (ι := Nat) (fun j env L => env = [(0, .pointer (some ⟨q, 0, none⟩)), (2, .int .i64 (i : Nat)), (3, .int .i64 (bestTo fs i j : Nat)), (4, .int .i64 ((2 * i + 1 + j : Nat) : Int))] ∧ j ≤ 2 ∧
    L = [blk q 138 [.slice (some ⟨g, 0, none⟩) es.length cap, nx], blk g 161 (wents fs ++ ex)]) (fun j => 2 - j) 0 ⟨rfl, by omega, rfl⟩ ?_
  rintro j env L ⟨rfl, hj, rfl⟩
  refine swp_seq ?_
  refine swp_seq ?_
  refine swp_region ?_
  refine s_pu (pu_move rfl) ?_
  refine s_pu (pu_move rfl) ?_
  first | refine s_pu (pu_mul_in rfl rfl (by omega) (by omega)) ?_ | refine s_pu (pu_mul rfl rfl) ?_
  first | refine s_pu (pu_add_in rfl rfl (by omega) (by omega)) ?_ | refine s_pu (pu_add rfl rfl) ?_
  refine s_pu (pu_leq rfl rfl) ?_
  refine s_pu (pu_move rfl) ?_
  refine s_split 14 rfl (fun h14 => ?_) (fun h14 => ?_)
  ·skip
   have h14' : j < 2 := by simp at h14; omega
   refine s_on rfl rfl ?_
   refine s_pu (pu_move rfl) ?_
   refine s_on rfl rfl ?_
   refine s_pu (pu_move rfl) ?_
   refine s_on rfl rfl ?_
   first | refine s_pu (pu_nilCheck rfl) ?_ | refine s_pu (pu_nilCheck_fn rfl) ?_ | refine s_pu (pu_nilCheck_if rfl) ?_
   refine s_on rfl rfl ?_
   first | refine s_pu (pu_fieldAddr0 rfl) ?_ | refine s_pu (pu_fieldAddr rfl) ?_
   refine s_on rfl rfl ?_
   refine s_rd (rd_load rfl rfl) ?_
   refine s_on rfl rfl ?_
   refine s_pu (pu_len rfl) ?_
   refine s_on rfl rfl ?_
   refine s_pu (pu_lss rfl rfl) ?_
   first | refine s_pu (pu_pick_t rfl rfl) ?_ | refine s_pu (pu_pick_f rfl rfl) ?_
   refine swl_sub _ (.cons (t := 0) rfl (.cons (t := 2) rfl (.cons (t := 3) rfl (.cons (t := 4) rfl (.cons (t := 22) rfl .nil))))) ?_
   refine swl_nil ?_
   refine then_n ?_
   refine swp_cond (b := _) rfl (fun h22 => ?_) (fun h22 => ?_)
   ·skip
    have h22' : 2 * i + 1 + j < es.length := by simp at h22; omega
    have hil : i < fs.length := by omega
    obtain ⟨ek, hek⟩ : ∃ e, fs[2 * i + 1 + j]? = some e := ⟨_, List.getElem?_eq_getElem (by omega)⟩
    have hfl := bestTo_lt hil j
    obtain ⟨ef, hef⟩ : ∃ e, fs[bestTo fs i j]? = some e := ⟨_, List.getElem?_eq_getElem hfl⟩
    have hsucc := bestTo_succ (es := fs) (i := i) h14'
    rw [better_of hek hef] at hsucc
    refine swp_skip ?_
    refine then_n ?_
    refine swp_seq ?_
    refine swp_block ?_
    refine swp_seq ?_
    refine swp_draw [3, 6, 10, 13] _ [] (by simp only [List.append_nil]; exact Ent.refl _) (by kernel_rfl) ?_
    refine d_pu 0 rfl (pu_move rfl) (by kernel_rfl) (by kernel_rfl) (by kernel_rfl) ?_
    first | refine d_pu 1 rfl (pu_nilCheck rfl) (by kernel_rfl) (by kernel_rfl) (by kernel_rfl) ?_ | refine d_pu 1 rfl (pu_nilCheck_fn rfl) (by kernel_rfl) (by kernel_rfl) (by kernel_rfl) ?_ | refine d_pu 1 rfl (pu_nilCheck_if rfl) (by kernel_rfl) (by kernel_rfl) (by kernel_rfl) ?_
    first | refine d_pu 2 rfl (pu_fieldAddr0 rfl) (by kernel_rfl) (by kernel_rfl) (by kernel_rfl) ?_ | refine d_pu 2 rfl (pu_fieldAddr rfl) (by kernel_rfl) (by kernel_rfl) (by kernel_rfl) ?_
    refine d_rd 3 rfl (rd_load rfl rfl) rfl (by kernel_rfl) (by kernel_rfl) (by kernel_rfl) ?_
    refine d_pu 4 rfl (pu_move rfl) (by kernel_rfl) (by kernel_rfl) (by kernel_rfl) ?_
    refine d_pu 5 rfl (pu_indexAddr ((2 * i + 1 + j) * 2) rfl rfl (by omega) (by omega) (by omega)) (by kernel_rfl) (by kernel_rfl) (by kernel_rfl) ?_
    refine d_rd 6 rfl (rd_loadA (vs := wcs ek) rfl (by rfl) (flat_get wcs_len fs ex _ ek hek)) rfl (by kernel_rfl) (by kernel_rfl) (by kernel_rfl) ?_
    refine d_pu 7 rfl (pu_move rfl) (by kernel_rfl) (by kernel_rfl) (by kernel_rfl) ?_
    first | refine d_pu 8 rfl (pu_nilCheck rfl) (by kernel_rfl) (by kernel_rfl) (by kernel_rfl) ?_ | refine d_pu 8 rfl (pu_nilCheck_fn rfl) (by kernel_rfl) (by kernel_rfl) (by kernel_rfl) ?_ | refine d_pu 8 rfl (pu_nilCheck_if rfl) (by kernel_rfl) (by kernel_rfl) (by kernel_rfl) ?_
    first | refine d_pu 9 rfl (pu_fieldAddr0 rfl) (by kernel_rfl) (by kernel_rfl) (by kernel_rfl) ?_ | refine d_pu 9 rfl (pu_fieldAddr rfl) (by kernel_rfl) (by kernel_rfl) (by kernel_rfl) ?_
    refine d_rd 10 rfl (rd_load rfl rfl) rfl (by kernel_rfl) (by kernel_rfl) (by kernel_rfl) ?_
    refine d_pu 11 rfl (pu_move rfl) (by kernel_rfl) (by kernel_rfl) (by kernel_rfl) ?_
    refine d_pu 12 rfl (pu_indexAddr (bestTo fs i j * 2) rfl rfl (by omega) (by omega) (by omega)) (by kernel_rfl) (by kernel_rfl) (by kernel_rfl) ?_
    refine d_rd 13 rfl (rd_loadA (vs := wcs ef) rfl (by rfl) (flat_get wcs_len fs ex _ ef hef)) rfl (by kernel_rfl) (by kernel_rfl) (by kernel_rfl) ?_
    first | refine d_fint 14 rfl (by kernel_rfl) (by kernel_rfl) (ef_fn (ahead_w _ _ _ _) rfl rfl (by repeat (first | exact Split.nil | (apply Split.cons; (repeat (first | with_reducible exact Take.here | apply Take.there)))))) ?_ | refine d_finf 14 rfl (by kernel_rfl) (by kernel_rfl) (ef_fn (ahead_w _ _ _ _) rfl rfl (by repeat (first | exact Split.nil | (apply Split.cons; (repeat (first | with_reducible exact Take.here | apply Take.there)))))) ?_
    rintro v L1 ⟨rfl, rfl⟩
    refine swd_app ?_
    refine d_sub _ (.cons (t := 0) rfl (.cons (t := 2) rfl (.cons (t := 3) rfl (.cons (t := 4) rfl (.cons (t := 39) rfl .nil))))) ?_
    first | refine d_nilt (by kernel_rfl) ?_ | refine d_nilf (by kernel_rfl) ?_
    refine then_n ?_
    refine swp_cond (b := _) rfl (fun h39 => ?_) (fun h39 => ?_)
    ·skip
     rw [if_pos h39] at hsucc
     refine swp_region ?_
     refine s_pu (pu_move rfl) ?_
     refine s_pu (pu_assign rfl) ?_
     refine swl_sub _ (.cons (t := 0) rfl (.cons (t := 2) rfl (.cons (t := 3) rfl (.cons (t := 4) rfl .nil)))) ?_
     refine swl_nil ?_
     refine block_n ?_
     refine then_n ?_
     refine swp_region ?_
     refine s_pu (pu_move rfl) ?_
     refine s_pu (pu_add_as ((2 * i + 1 + (j + 1) : Nat) : Int) rfl rfl (by omega) (by omega) (by omega)) ?_
     refine s_pu (pu_assign rfl) ?_
     refine swl_sub _ (.cons (t := 0) rfl (.cons (t := 2) rfl (.cons (t := 3) rfl (.cons (t := 4) rfl .nil)))) ?_
     refine swl_nil ?_
     refine then_n ⟨j + 1, ⟨?_, by omega, rfl⟩, by omega⟩
     rw [hsucc]
    ·skip
     rw [if_neg (by simp [h39])] at hsucc
     refine swp_skip ?_
     refine block_n ?_
     refine then_n ?_
     refine swp_region ?_
     refine s_pu (pu_move rfl) ?_
     refine s_pu (pu_add_as ((2 * i + 1 + (j + 1) : Nat) : Int) rfl rfl (by omega) (by omega) (by omega)) ?_
     refine s_pu (pu_assign rfl) ?_
     refine swl_sub _ (.cons (t := 0) rfl (.cons (t := 2) rfl (.cons (t := 3) rfl (.cons (t := 4) rfl .nil)))) ?_
     refine swl_nil ?_
     refine then_n ⟨j + 1, ⟨?_, by omega, rfl⟩, by omega⟩
     rw [hsucc]
   ·skip
    have hbe := bestTo_end (es := fs) (i := i) (j := j) (.inr (by simp at h22; omega))
    refine swp_sub _ (.cons (t := 0) rfl (.cons (t := 2) rfl (.cons (t := 3) rfl .nil))) ?_
    refine swp_exit ?_
    refine then_x ?_
    refine then_x ?_
    refine block_hit rfl ?_
    refine then_n ⟨?_, rfl⟩
    rw [hbe]
  ·skip
   refine s_off rfl rfl rfl ?_
   refine s_off rfl rfl rfl ?_
   refine s_off rfl rfl rfl ?_
   refine s_off rfl rfl rfl ?_
   refine s_off rfl rfl rfl ?_
   refine s_off rfl rfl rfl ?_
   refine s_off rfl rfl rfl ?_
   first | refine s_pu (pu_pick_t rfl rfl) ?_ | refine s_pu (pu_pick_f rfl rfl) ?_
   refine swl_sub _ (.cons (t := 0) rfl (.cons (t := 2) rfl (.cons (t := 3) rfl (.cons (t := 4) rfl (.cons (t := 22) rfl .nil))))) ?_
   refine swl_nil ?_
   refine then_n ?_
   refine swp_cond (b := _) rfl (fun h22 => by cases h22) (fun h22 => ?_)
   have hbe := bestTo_end (es := fs) (i := i) (j := j) (.inl (by simp at h14; omega))
   refine swp_sub _ (.cons (t := 0) rfl (.cons (t := 2) rfl (.cons (t := 3) rfl .nil))) ?_
   refine swp_exit ?_
   refine then_x ?_
   refine then_x ?_
   refine block_hit rfl ?_
   refine then_n ⟨?_, rfl⟩
   rw [hbe]
 rintro env L ⟨rfl, rfl⟩
 refine swp_seq ?_
 refine swp_seq ?_
 refine swp_region ?_
 refine s_pu (pu_move rfl) ?_
 refine s_pu (pu_move rfl) ?_
 refine s_pu (pu_eql rfl rfl) ?_
 refine swl_sub _ (.cons (t := 0) rfl (.cons (t := 2) rfl (.cons (t := 3) rfl (.cons (t := 43) rfl .nil)))) ?_
 refine swl_nil ?_
 refine then_n ?_
 refine swp_cond (b := _) rfl (fun h43 => ?_) (fun h43 => ?_)
 ·skip
  have hbi : Hp.best aW fs i = i := by simp at h43; omega
  refine swp_ret ?_
  refine then_r ?_
  refine block_r ?_
  refine then_r ?_
  refine block_r ?_
  rw [← hdn, Hp.down_stop hbi]
  exact done_ret _ .nil ⟨rfl, rfl⟩ (by repeat (first | exact Split.nil | (apply Split.cons; (repeat (first | with_reducible exact Take.here | apply Take.there)))))
 ·skip
  have hbi : Hp.best aW fs i ≠ i := by simp at h43; omega
  have hgt := Hp.best_gt hbi
  obtain ⟨ei, hei⟩ : ∃ e, fs[i]? = some e := ⟨_, List.getElem?_eq_getElem (by omega)⟩
  obtain ⟨ep, hep⟩ : ∃ e, fs[Hp.best aW fs i]? = some e := ⟨_, List.getElem?_eq_getElem hgt.2⟩
  rw [Hp.down_step (by omega) hbi hei hep] at hdn
  generalize Hp.best aW fs i = p at *
  have hel : (wents fs).length = es.length * 2 := by rw [wents_len, hl]
  refine swp_skip ?_
  refine then_n ?_
  refine swp_seq ?_
  refine swp_draw [3, 8, 13, 16, 20, 23] _ [] (by simp only [List.append_nil]; exact Ent.refl _) (by kernel_rfl) ?_
  refine d_pu 0 rfl (pu_move rfl) (by kernel_rfl) (by kernel_rfl) (by kernel_rfl) ?_
  first | refine d_pu 1 rfl (pu_nilCheck rfl) (by kernel_rfl) (by kernel_rfl) (by kernel_rfl) ?_ | refine d_pu 1 rfl (pu_nilCheck_fn rfl) (by kernel_rfl) (by kernel_rfl) (by kernel_rfl) ?_ | refine d_pu 1 rfl (pu_nilCheck_if rfl) (by kernel_rfl) (by kernel_rfl) (by kernel_rfl) ?_
  first | refine d_pu 2 rfl (pu_fieldAddr0 rfl) (by kernel_rfl) (by kernel_rfl) (by kernel_rfl) ?_ | refine d_pu 2 rfl (pu_fieldAddr rfl) (by kernel_rfl) (by kernel_rfl) (by kernel_rfl) ?_
  refine d_rd 3 rfl (rd_load rfl rfl) rfl (by kernel_rfl) (by kernel_rfl) (by kernel_rfl) ?_
  refine d_pu 4 rfl (pu_move rfl) (by kernel_rfl) (by kernel_rfl) (by kernel_rfl) ?_
  refine d_pu 5 rfl (pu_move rfl) (by kernel_rfl) (by kernel_rfl) (by kernel_rfl) ?_
  first | refine d_pu 6 rfl (pu_nilCheck rfl) (by kernel_rfl) (by kernel_rfl) (by kernel_rfl) ?_ | refine d_pu 6 rfl (pu_nilCheck_fn rfl) (by kernel_rfl) (by kernel_rfl) (by kernel_rfl) ?_ | refine d_pu 6 rfl (pu_nilCheck_if rfl) (by kernel_rfl) (by kernel_rfl) (by kernel_rfl) ?_
  first | refine d_pu 7 rfl (pu_fieldAddr0 rfl) (by kernel_rfl) (by kernel_rfl) (by kernel_rfl) ?_ | refine d_pu 7 rfl (pu_fieldAddr rfl) (by kernel_rfl) (by kernel_rfl) (by kernel_rfl) ?_
  refine d_rd 8 rfl (rd_load rfl rfl) rfl (by kernel_rfl) (by kernel_rfl) (by kernel_rfl) ?_
  refine d_pu 9 rfl (pu_move rfl) (by kernel_rfl) (by kernel_rfl) (by kernel_rfl) ?_
  refine d_pu 10 rfl (pu_move rfl) (by kernel_rfl) (by kernel_rfl) (by kernel_rfl) ?_
  first | refine d_pu 11 rfl (pu_nilCheck rfl) (by kernel_rfl) (by kernel_rfl) (by kernel_rfl) ?_ | refine d_pu 11 rfl (pu_nilCheck_fn rfl) (by kernel_rfl) (by kernel_rfl) (by kernel_rfl) ?_ | refine d_pu 11 rfl (pu_nilCheck_if rfl) (by kernel_rfl) (by kernel_rfl) (by kernel_rfl) ?_
  first | refine d_pu 12 rfl (pu_fieldAddr0 rfl) (by kernel_rfl) (by kernel_rfl) (by kernel_rfl) ?_ | refine d_pu 12 rfl (pu_fieldAddr rfl) (by kernel_rfl) (by kernel_rfl) (by kernel_rfl) ?_
  refine d_rd 13 rfl (rd_load rfl rfl) rfl (by kernel_rfl) (by kernel_rfl) (by kernel_rfl) ?_
  refine d_pu 14 rfl (pu_move rfl) (by kernel_rfl) (by kernel_rfl) (by kernel_rfl) ?_
  refine d_pu 15 rfl (pu_indexAddr (p * 2) rfl rfl (by omega) (by omega) (by omega)) (by kernel_rfl) (by kernel_rfl) (by kernel_rfl) ?_
  refine d_rd 16 rfl (rd_loadA (vs := wcs ep) rfl (by rfl) (flat_get wcs_len fs ex p ep hep)) rfl (by kernel_rfl) (by kernel_rfl) (by kernel_rfl) ?_
  refine d_pu 17 rfl (pu_move rfl) (by kernel_rfl) (by kernel_rfl) (by kernel_rfl) ?_
  first | refine d_pu 18 rfl (pu_nilCheck rfl) (by kernel_rfl) (by kernel_rfl) (by kernel_rfl) ?_ | refine d_pu 18 rfl (pu_nilCheck_fn rfl) (by kernel_rfl) (by kernel_rfl) (by kernel_rfl) ?_ | refine d_pu 18 rfl (pu_nilCheck_if rfl) (by kernel_rfl) (by kernel_rfl) (by kernel_rfl) ?_
  first | refine d_pu 19 rfl (pu_fieldAddr0 rfl) (by kernel_rfl) (by kernel_rfl) (by kernel_rfl) ?_ | refine d_pu 19 rfl (pu_fieldAddr rfl) (by kernel_rfl) (by kernel_rfl) (by kernel_rfl) ?_
  refine d_rd 20 rfl (rd_load rfl rfl) rfl (by kernel_rfl) (by kernel_rfl) (by kernel_rfl) ?_
  refine d_pu 21 rfl (pu_move rfl) (by kernel_rfl) (by kernel_rfl) (by kernel_rfl) ?_
  refine d_pu 22 rfl (pu_indexAddr (i * 2) rfl rfl (by omega) (by omega) (by omega)) (by kernel_rfl) (by kernel_rfl) (by kernel_rfl) ?_
  refine d_rd 23 rfl (rd_loadA (vs := wcs ei) rfl (by rfl) (flat_get wcs_len fs ex i ei hei)) rfl (by kernel_rfl) (by kernel_rfl) (by kernel_rfl) ?_
  refine d_pu 24 rfl (pu_indexAddr (i * 2) rfl rfl (by omega) (by omega) (by omega)) (by kernel_rfl) (by kernel_rfl) (by kernel_rfl) ?_
  first | refine d_fin0t 25 rfl (by kernel_rfl) (by kernel_rfl) (ef_storeAs (vs := wcs ep) rfl rfl (flat_over wcs_len fs ex i ep (by omega)) (by rw [List.length_append, ← wents, hel, wcs_len]; omega) rfl rfl) ?_ | refine d_fin0f 25 rfl (by kernel_rfl) (by kernel_rfl) (ef_storeAs (vs := wcs ep) rfl rfl (flat_over wcs_len fs ex i ep (by omega)) (by rw [List.length_append, ← wents, hel, wcs_len]; omega) rfl rfl) ?_
  refine d_pu 26 rfl (pu_indexAddr (p * 2) rfl rfl (by omega) (by omega) (by omega)) (by kernel_rfl) (by kernel_rfl) (by kernel_rfl) ?_
  first | refine d_fin0t 27 rfl (by kernel_rfl) (by kernel_rfl) (ef_storeAs (vs := wcs ei) rfl rfl (flat_over wcs_len (fs.set i ep) ex p ei (by simp; omega)) (by rw [List.length_append, flat_length wcs_len, wcs_len, List.length_set]; omega) rfl rfl) ?_ | refine d_fin0f 27 rfl (by kernel_rfl) (by kernel_rfl) (ef_storeAs (vs := wcs ei) rfl rfl (flat_over wcs_len (fs.set i ep) ex p ei (by simp; omega)) (by rw [List.length_append, flat_length wcs_len, wcs_len, List.length_set]; omega) rfl rfl) ?_
  refine d_sub _ (.cons (t := 0) rfl (.cons (t := 3) rfl .nil)) ?_
  first | refine d_nilt (by kernel_rfl) ?_ | refine d_nilf (by kernel_rfl) ?_
  refine then_n ?_
  refine swp_region ?_
  refine s_pu (pu_move rfl) ?_
  refine s_pu (pu_assign rfl) ?_
  refine swl_sub _ (.cons (t := 0) rfl (.cons (t := 2) rfl .nil)) ?_
  refine swl_nil ?_
  refine block_n ?_
  exact then_n ⟨(p, (fs.set i ep).set p ei), ⟨rfl, rfl, by simp [hl], .inl (by show p < es.length; omega), hdn⟩, by show es.length - p < es.length - i; omega⟩
end SX.Bq
namespace SX.Bq
open Go Go.Proofs SX

theorem wraw_fold {q nxt : Nat} {v : Value} {es : List (WI × Nat)} {L : List Assn} : Ent (blk q 138 [v, .int .u64 (nxt : Nat)] :: own 161 2 v es.length (wents es) :: L) (wraw q es nxt :: L) :=
  ent_ex (F := fun v => [blk q 138 [v, .int .u64 (nxt : Nat)], own 161 2 v es.length (wents es)]) v (by repeat (first | exact Split.nil | (apply Split.cons; (repeat (first | with_reducible exact Take.here | apply Take.there)))))
theorem len_w (q : Nat) (es : List (WI × Nat)) (nxt : Nat) : Spec Tryd.prog 86 [.pointer (some ⟨q, 0, none⟩)] [wraw q es nxt] (fun v L => v = .int .i64 es.length ∧ L = [wraw q es nxt]) := by
 refine Spec.of 10 Tryd.func86 rfl rfl rfl ?_
 refine swp_ex fun v => ?_
 refine swp_app ?_
 refine swp_front (A := own 161 2 v es.length (wents es)) (by repeat (first | with_reducible exact Take.here | apply Take.there)) ?_
 refine swp_fact (fun m h => own_form h) fun ⟨A, cap, hv⟩ => ?_
 subst hv
 refine swp_seq ?_
 refine swp_region ?_
 refine s_pu (pu_assign rfl) ?_
 refine swl_sub _ (.cons (t := 0) rfl .nil) ?_
 refine swl_nil ?_
 refine then_n ?_
 refine swp_seq ?_
 refine swp_seq ?_
 refine swp_region ?_
 refine s_pu (pu_move rfl) ?_
 refine s_pu (pu_ptr_eq_nil rfl rfl) ?_
 refine swl_sub _ (.cons (t := 0) rfl (.cons (t := 4) rfl .nil)) ?_
 refine swl_nil ?_
 refine then_n ?_
 refine swp_cond (b := _) rfl (fun h4 => by cases h4) (fun h4 => ?_)
 refine swp_skip ?_
 refine then_n ?_
 refine swp_seq ?_
 refine swp_region ?_
 refine s_pu (pu_move rfl) ?_
 first | refine s_pu (pu_nilCheck rfl) ?_ | refine s_pu (pu_nilCheck_fn rfl) ?_ | refine s_pu (pu_nilCheck_if rfl) ?_
 first | refine s_pu (pu_fieldAddr0 rfl) ?_ | refine s_pu (pu_fieldAddr rfl) ?_
 refine s_rd (rd_load rfl rfl) ?_
 refine s_pu (pu_len rfl) ?_
 refine s_pu (pu_assign rfl) ?_
 refine swl_sub _ (.cons (t := 2) rfl .nil) ?_
 refine swl_nil ?_
 refine then_n ?_
 refine swp_ret ?_
 exact done_retE [wraw q es nxt] (.tmp rfl .nil) ⟨rfl, rfl⟩ ((Split.ent' (K := [blk q 138 [.slice A es.length cap, .int .u64 (nxt : Nat)], own 161 2 (.slice A es.length cap) es.length (wents es)]) (by repeat (first | exact Split.nil | (apply Split.cons; (repeat (first | with_reducible exact Take.here | apply Take.there)))))).trans wraw_fold)
theorem peek_w (q nxt : Nat) (e : WI × Nat) (es : List (WI × Nat)) : Spec Tryd.prog 68 [.pointer (some ⟨q, 0, none⟩)] [wraw q (e :: es) nxt] (fun v L => v = .tuple #[wiV e.1, .bool true] ∧ L = [wraw q (e :: es) nxt]) := by
 refine Spec.of 16 Tryd.func68 rfl rfl rfl ?_
 refine swp_seq ?_
 refine swp_region ?_
 refine s_pu (pu_assign rfl) ?_
 refine s_pu (pu_assign rfl) ?_
 refine swl_sub _ (.cons (t := 0) rfl .nil) ?_
 refine swl_nil ?_
 refine then_n ?_
 refine swp_seq ?_
 refine swp_seq ?_
 refine swp_region ?_
 refine s_pu (pu_move rfl) ?_
 refine s_ef (ef_fn (len_w q (e :: es) nxt) rfl rfl (by repeat (first | exact Split.nil | (apply Split.cons; (repeat (first | with_reducible exact Take.here | apply Take.there)))))) ?_
 rintro v L1 ⟨rfl, rfl⟩
 refine swl_app ?_
 refine s_pu (pu_eql rfl rfl) ?_
 refine swl_sub _ (.cons (t := 0) rfl (.cons (t := 7) rfl .nil)) ?_
 refine swl_nil ?_
 refine then_n ?_
 refine swp_cond (b := _) rfl (fun h7 => by simp at h7; omega) (fun h7 => ?_)
 refine swp_skip ?_
 refine then_n ?_
 refine swp_seq ?_
 refine swp_ex fun v => ?_
 refine swp_app ?_
 refine swp_front (A := own 161 2 v (e :: es).length (wents (e :: es))) (by repeat (first | with_reducible exact Take.here | apply Take.there)) ?_
 refine swp_own (fun h h0 h1 => by simp at h0) (fun g cap ex hv o1 o2 o3 o4 => ?_)
 subst v
 refine swp_region ?_
 refine s_pu (pu_move rfl) ?_
 first | refine s_pu (pu_nilCheck rfl) ?_ | refine s_pu (pu_nilCheck_fn rfl) ?_ | refine s_pu (pu_nilCheck_if rfl) ?_
 first | refine s_pu (pu_fieldAddr0 rfl) ?_ | refine s_pu (pu_fieldAddr rfl) ?_
 refine s_rd (rd_load rfl rfl) ?_
 refine s_pu (pu_indexAddr 0 rfl rfl (by omega) (by simp) rfl) ?_
 first | refine s_pu (pu_fieldAddr0 rfl) ?_ | refine s_pu (pu_fieldAddr rfl) ?_
 refine s_rd (rd_load (v := wiV e.1) rfl rfl) ?_
 refine s_pu (pu_assign rfl) ?_
 refine s_pu (pu_assign rfl) ?_
 refine swl_sub _ (.cons (t := 2) rfl (.cons (t := 3) rfl .nil)) ?_
 refine swl_nil ?_
 refine then_n ?_
 refine swp_ret ?_
 exact done_retE [wraw q (e :: es) nxt] (.tmp rfl (.tmp rfl .nil)) ⟨rfl, rfl⟩ ((Split.ent' (K := [blk g 161 (wents (e :: es) ++ ex), blk q 138 [.slice (some ⟨g, 0, none⟩) (e :: es).length cap, .int .u64 (nxt : Nat)]]) (by repeat (first | exact Split.nil | (apply Split.cons; (repeat (first | with_reducible exact Take.here | apply Take.there)))))).trans (wraw_close o1 o2 o4))

def wzcs : List Value := [wiV wiZ, .int .u64 0]
theorem wents_app (a b : List (WI × Nat)) : wents (a ++ b) = wents a ++ wents b := by unfold wents; exact List.flatMap_append
theorem wents_over (es : List (WI × Nat)) (ex : List Value) (i : Nat) (e : WI × Nat) (h : i < es.length) : over (wents es ++ ex) (wcs e) (i * 2) = wents (es.set i e) ++ ex := flat_over wcs_len es ex i e h
theorem wover_cut (es : List (WI × Nat)) (ex zs : List Value) (hz : zs.length = 2) (hne : es ≠ []) : over (wents es ++ ex) zs ((es.length - 1) * 2) = wents es.dropLast ++ (zs ++ ex) := by
  have e := List.dropLast_concat_getLast hne
  have hl : (es.length - 1) * 2 = (wents es.dropLast).length := by rw [wents_len, List.length_dropLast]
  have h1 : wents es = wents es.dropLast ++ wents [es.getLast hne] := by rw [← wents_app, e]
  have h2 : (wents [es.getLast hne]).length = 2 := by rw [wents_len]; rfl
  generalize wents [es.getLast hne] = u at h1 h2
  rw [hl, h1]
  unfold over
  rw [hz, List.append_assoc (wents es.dropLast) u ex, List.take_left, List.drop_append]
  rw [show (wents es.dropLast).length + 2 - (wents es.dropLast).length = 2 by omega, List.drop_append, h2]
  rw [List.drop_eq_nil_of_le (by omega : (wents es.dropLast).length ≤ _), List.drop_eq_nil_of_le (by omega : u.length ≤ _)]
  simp

set_option maxHeartbeats 1000000 in
theorem pop_w (q nxt : Nat) (e : WI × Nat) (es : List (WI × Nat)) (hb1 : (e :: es).length ≤ 1099511627776) : Spec Tryd.prog 54 [.pointer (some ⟨q, 0, none⟩)] [wraw q (e :: es) nxt]
  (fun v L => v = .tuple #[wiV e.1, .bool true] ∧ L = [wraw q (Hp.pop aW (e :: es)) nxt]) := by
 refine Spec.of 52 Tryd.func54 rfl rfl rfl ?_
 refine swp_seq ?_
 refine swp_region ?_
 refine s_pu (pu_assign rfl) ?_
 refine s_pu (pu_assign rfl) ?_
 refine swl_sub _ (.cons (t := 0) rfl .nil) ?_
 refine swl_nil ?_
 refine then_n ?_
 refine swp_seq ?_
 refine swp_region ?_
 refine s_pu (pu_move rfl) ?_
 refine s_ef (ef_fn (peek_w q nxt e es) rfl rfl (by repeat (first | exact Split.nil | (apply Split.cons; (repeat (first | with_reducible exact Take.here | apply Take.there)))))) ?_
 rintro v L1 ⟨rfl, rfl⟩
 refine swl_app ?_
 refine s_pu (pu_move rfl) ?_
 first | refine s_pu (pu_extractL rfl) ?_ | refine s_pu (pu_extract rfl rfl) ?_
 first | refine s_pu (pu_extractL rfl) ?_ | refine s_pu (pu_extract rfl rfl) ?_
 refine s_pu (pu_assign rfl) ?_
 refine s_pu (pu_assign rfl) ?_
 refine swl_sub _ (.cons (t := 0) rfl (.cons (t := 4) rfl (.cons (t := 5) rfl .nil))) ?_
 refine swl_nil ?_
 refine then_n ?_
 refine swp_seq ?_
 refine swp_seq ?_
 refine swp_region ?_
 refine s_pu (pu_move rfl) ?_
 refine s_pu (pu_not rfl) ?_
 refine swl_sub _ (.cons (t := 0) rfl (.cons (t := 4) rfl (.cons (t := 13) rfl .nil))) ?_
 refine swl_nil ?_
 refine then_n ?_
 refine swp_cond (b := _) rfl (fun h13 => by cases h13) (fun h13 => ?_)
 refine swp_skip ?_
 refine then_n ?_
 refine swp_seq ?_
 obtain ⟨fs, hfs⟩ : ∃ fs, fs = e :: es := ⟨_, rfl⟩
 have hne : fs ≠ [] := by rw [hfs]; simp
 rw [← hfs] at hb1 ⊢
 have hpos : 0 < fs.length := List.length_pos_iff.2 hne
 refine swp_front (A := wraw q fs nxt) (by repeat (first | with_reducible exact Take.here | apply Take.there)) ?_
 refine swp_ex fun v => ?_
 refine swp_app ?_
 refine swp_front (A := own 161 2 v fs.length (wents fs)) (by repeat (first | with_reducible exact Take.here | apply Take.there)) ?_
 refine swp_own (fun h h0 h1 => by omega) (fun g cap ex hv o1 o2 o3 o4 => ?_)
 subst v
 refine swp_region ?_
 refine s_pu (pu_move rfl) ?_
 first | refine s_pu (pu_nilCheck rfl) ?_ | refine s_pu (pu_nilCheck_fn rfl) ?_ | refine s_pu (pu_nilCheck_if rfl) ?_
 first | refine s_pu (pu_fieldAddr0 rfl) ?_ | refine s_pu (pu_fieldAddr rfl) ?_
 refine s_rd (rd_load rfl rfl) ?_
 refine s_pu (pu_len rfl) ?_
 refine s_pu (pu_sub_as ((fs.length - 1 : Nat) : Int) rfl rfl (by omega) (by omega) (by omega)) ?_
 refine s_pu (pu_assign rfl) ?_
 refine swl_sub _ (.cons (t := 0) rfl (.cons (t := 4) rfl (.cons (t := 6) rfl .nil))) ?_
 refine swl_nil ?_
 refine then_n ?_
 refine swp_seq ?_
 have hel : (wents fs).length = fs.length * 2 := wents_len fs
 obtain ⟨l, hlast⟩ : ∃ l, fs[fs.length - 1]? = some l := ⟨_, List.getElem?_eq_getElem (by omega)⟩
 refine swp_draw [3, 7, 10] _ [] (by simp only [List.append_nil]; exact Ent.refl _) (by kernel_rfl) ?_
 refine d_pu 0 rfl (pu_move rfl) (by kernel_rfl) (by kernel_rfl) (by kernel_rfl) ?_
 first | refine d_pu 1 rfl (pu_nilCheck rfl) (by kernel_rfl) (by kernel_rfl) (by kernel_rfl) ?_ | refine d_pu 1 rfl (pu_nilCheck_fn rfl) (by kernel_rfl) (by kernel_rfl) (by kernel_rfl) ?_ | refine d_pu 1 rfl (pu_nilCheck_if rfl) (by kernel_rfl) (by kernel_rfl) (by kernel_rfl) ?_
 first | refine d_pu 2 rfl (pu_fieldAddr0 rfl) (by kernel_rfl) (by kernel_rfl) (by kernel_rfl) ?_ | refine d_pu 2 rfl (pu_fieldAddr rfl) (by kernel_rfl) (by kernel_rfl) (by kernel_rfl) ?_
 refine d_rd 3 rfl (rd_load rfl rfl) rfl (by kernel_rfl) (by kernel_rfl) (by kernel_rfl) ?_
 refine d_pu 4 rfl (pu_move rfl) (by kernel_rfl) (by kernel_rfl) (by kernel_rfl) ?_
 first | refine d_pu 5 rfl (pu_nilCheck rfl) (by kernel_rfl) (by kernel_rfl) (by kernel_rfl) ?_ | refine d_pu 5 rfl (pu_nilCheck_fn rfl) (by kernel_rfl) (by kernel_rfl) (by kernel_rfl) ?_ | refine d_pu 5 rfl (pu_nilCheck_if rfl) (by kernel_rfl) (by kernel_rfl) (by kernel_rfl) ?_
 first | refine d_pu 6 rfl (pu_fieldAddr0 rfl) (by kernel_rfl) (by kernel_rfl) (by kernel_rfl) ?_ | refine d_pu 6 rfl (pu_fieldAddr rfl) (by kernel_rfl) (by kernel_rfl) (by kernel_rfl) ?_
 refine d_rd 7 rfl (rd_load rfl rfl) rfl (by kernel_rfl) (by kernel_rfl) (by kernel_rfl) ?_
 refine d_pu 8 rfl (pu_move rfl) (by kernel_rfl) (by kernel_rfl) (by kernel_rfl) ?_
 refine d_pu 9 rfl (pu_indexAddr ((fs.length - 1) * 2) rfl rfl (by omega) (by omega) (by omega)) (by kernel_rfl) (by kernel_rfl) (by kernel_rfl) ?_
 refine d_rd 10 rfl (rd_loadA (vs := wcs l) rfl (by rfl) (flat_get wcs_len fs ex _ l hlast)) rfl (by kernel_rfl) (by kernel_rfl) (by kernel_rfl) ?_
 refine d_pu 11 rfl (pu_indexAddr (0 * 2) rfl rfl (by omega) (by omega) (by omega)) (by kernel_rfl) (by kernel_rfl) (by kernel_rfl) ?_
 first | refine d_fin0t 12 rfl (by kernel_rfl) (by kernel_rfl) (ef_storeAs (vs := wcs l) rfl rfl (wents_over fs ex 0 l hpos) (by rw [List.length_append, wents_len, wcs_len]; omega) rfl rfl) ?_ | refine d_fin0f 12 rfl (by kernel_rfl) (by kernel_rfl) (ef_storeAs (vs := wcs l) rfl rfl (wents_over fs ex 0 l hpos) (by rw [List.length_append, wents_len, wcs_len]; omega) rfl rfl) ?_
 refine d_sub _ (.cons (t := 0) rfl (.cons (t := 4) rfl (.cons (t := 6) rfl .nil))) ?_
 first | refine d_nilt (by kernel_rfl) ?_ | refine d_nilf (by kernel_rfl) ?_
 refine then_n ?_
 refine swp_seq ?_
 have hl2 : (fs.set 0 l).length = fs.length := List.length_set
 have hne2 : fs.set 0 l ≠ [] := by intro h; rw [h] at hl2; simp at hl2; omega
 refine swp_region ?_
 refine s_pu (pu_move rfl) ?_
 first | refine s_pu (pu_nilCheck rfl) ?_ | refine s_pu (pu_nilCheck_fn rfl) ?_ | refine s_pu (pu_nilCheck_if rfl) ?_
 first | refine s_pu (pu_fieldAddr0 rfl) ?_ | refine s_pu (pu_fieldAddr rfl) ?_
 refine s_rd (rd_load rfl rfl) ?_
 refine s_pu (pu_move rfl) ?_
 refine s_pu (pu_bld (qs := []) rfl) ?_
 refine s_pu (pu_indexAddr (((fs.set 0 l).length - 1) * 2) rfl rfl (by omega) (by omega) (by rw [hl2]; omega)) ?_
 refine s_ef0 (ef_storeAs (vs := wzcs) rfl rfl (wover_cut (fs.set 0 l) ex wzcs rfl hne2) (by rw [List.length_append, wents_len, hl2]; show _ + 2 ≤ _; omega) rfl rfl) ?_
 refine swl_sub _ (.cons (t := 0) rfl (.cons (t := 4) rfl (.cons (t := 6) rfl .nil))) ?_
 refine swl_nil ?_
 refine then_n ?_
 refine swp_seq ?_
 refine swp_region ?_
 refine s_pu (pu_move rfl) ?_
 refine s_pu (pu_move rfl) ?_
 first | refine s_pu (pu_nilCheck rfl) ?_ | refine s_pu (pu_nilCheck_fn rfl) ?_ | refine s_pu (pu_nilCheck_if rfl) ?_
 first | refine s_pu (pu_fieldAddr0 rfl) ?_ | refine s_pu (pu_fieldAddr rfl) ?_
 refine s_rd (rd_load rfl rfl) ?_
 refine s_pu (pu_move rfl) ?_
 refine s_pu (pu_slice_hi (fs.length - 1) rfl rfl rfl (by omega)) ?_
 first | refine s_pu (pu_nilCheck rfl) ?_ | refine s_pu (pu_nilCheck_fn rfl) ?_ | refine s_pu (pu_nilCheck_if rfl) ?_
 first | refine s_pu (pu_fieldAddr0 rfl) ?_ | refine s_pu (pu_fieldAddr rfl) ?_
 refine s_ef0 (ef_store rfl rfl rfl) ?_
 refine swl_sub _ (.cons (t := 0) rfl (.cons (t := 4) rfl .nil)) ?_
 refine swl_nil ?_
 refine then_n ?_
 refine swp_seq ?_
 refine swp_region ?_
 refine s_pu (pu_move rfl) ?_
 have hl3 : (fs.set 0 l).dropLast.length = fs.length - 1 := by rw [List.length_dropLast, hl2]
 rw [← hl3]
 refine s_ef (ef_fn (sink_w q g cap _ (fs.set 0 l).dropLast (wzcs ++ ex) (by omega)) rfl rfl (by repeat (first | exact Split.nil | (apply Split.cons; (repeat (first | with_reducible exact Take.here | apply Take.there)))))) ?_
 rintro v L1 ⟨rfl, rfl⟩
 refine swl_app ?_
 refine swl_sub _ (.cons (t := 4) rfl .nil) ?_
 refine swl_nil ?_
 refine then_n ?_
 refine swp_seq ?_
 refine swp_region ?_
 refine s_pu (pu_move rfl) ?_
 refine s_pu (pu_assign rfl) ?_
 refine s_pu (pu_assign rfl) ?_
 refine swl_sub _ (.cons (t := 2) rfl (.cons (t := 3) rfl .nil)) ?_
 refine swl_nil ?_
 refine then_n ?_
 refine swp_ret ?_
 have hp : Hp.pop aW fs = Hp.down aW (fs.set 0 l).dropLast.length (fs.set 0 l).dropLast 0 := by
  have hgl : fs.getLast? = some l := by rw [List.getLast?_eq_getElem?]; exact hlast
  unfold Hp.pop
  rw [hgl]
  exact Hp.down_enough _ _ _ _ (by omega) (by omega)
 have hpl : (Hp.pop aW fs).length = (fs.set 0 l).dropLast.length := by rw [hp, Hp.down_length]
 rw [← hp, ← hpl]
 exact done_retE [wraw q (Hp.pop aW fs) nxt] (.tmp rfl (.tmp rfl .nil)) ⟨rfl, rfl⟩
  ((Split.ent' (K := [blk g 161 (wents (Hp.pop aW fs) ++ (wzcs ++ ex)), blk q 138 [.slice (some ⟨g, 0, none⟩) (Hp.pop aW fs).length cap, .int .u64 (nxt : Nat)]]) (by repeat (first | exact Split.nil | (apply Split.cons; (repeat (first | with_reducible exact Take.here | apply Take.there)))))).trans
   (wraw_close (by omega) o2 (by rw [List.length_append, o4, hpl, hl3]; show 2 + _ = _; omega)))
end SX.Bq
namespace SX.Bq
open Go Go.Proofs SX

theorem aW_trans (a b c : WI × Nat) (h1 : aW a b = true) (h2 : aW b c = true) : aW a c = true := Hp.ahd_trans ltW_ord a b c h1 h2

/-- a queue, by what comes out -/
def wa (q : Nat) (S : List (WI × Nat)) (nxt : Nat) : Assn := exA (fun es : {es : List (WI × Nat) // Hp.Rep aW es S ∧ ∀ y ∈ S, y.2 < nxt} => [wraw q es.1 nxt])
theorem wa_close {q nxt : Nat} {es S : List (WI × Nat)} {L : List Assn} (h : Hp.Rep aW es S) (h2 : ∀ y ∈ S, y.2 < nxt) : Ent (wraw q es nxt :: L) (wa q S nxt :: L) :=
  ent_ex (F := fun es : {es : List (WI × Nat) // Hp.Rep aW es S ∧ ∀ y ∈ S, y.2 < nxt} => [wraw q es.1 nxt]) ⟨es, h, h2⟩ (by repeat (first | exact Split.nil | (apply Split.cons; (repeat (first | with_reducible exact Take.here | apply Take.there)))))
theorem push_a (q : Nat) (S : List (WI × Nat)) (nxt : Nat) (x : WI) (hb1 : S.length ≤ 1099511627776) (hb2 : nxt ≤ 18446744073709551614) :
    Spec Tryd.prog 52 [.pointer (some ⟨q, 0, none⟩), wiV x] [wa q S nxt] (fun v L => v = .tuple #[] ∧ L = [wa q (Hp.ins aW (x, nxt) S) (nxt + 1)]) := by
  refine Spec.exA' fun ⟨es, hr, hn⟩ => ?_
  refine Spec.ent2 (push_w q es nxt x (by rw [hr.length]; exact hb1) hb2) (wa_close ?_ ?_)
  · refine hr.push (Hp.ahd_ord ltW_ord) aW_trans fun y hy h => Hp.ahd_total (by have := hn y hy; simp only; omega) h
  · intro y hy
    rcases Hp.mem_ins.1 hy with rfl | hy
    · simp
    · have := hn y hy; omega
theorem pop_a (q nxt : Nat) (s : WI × Nat) (S : List (WI × Nat)) (hb : (s :: S).length ≤ 1099511627776) : Spec Tryd.prog 54 [.pointer (some ⟨q, 0, none⟩)] [wa q (s :: S) nxt] (fun v L => v = .tuple #[wiV s.1, .bool true] ∧ L = [wa q S nxt]) := by
  refine Spec.exA' fun ⟨es, hr, hn⟩ => ?_
  cases es with
  | nil => have := hr.length; simp at this
  | cons e es =>
    have hz : e = s := hr.head (Hp.ahd_ord ltW_ord) rfl
    subst hz
    exact Spec.ent2 (pop_w q nxt e es (by rw [hr.length]; exact hb)) (wa_close (hr.pop (Hp.ahd_ord ltW_ord)) fun y hy => hn y (List.mem_cons_of_mem _ hy))
theorem new_w : Spec Tryd.prog 37 [.slice none 0 0] [] (fun v L => ∃ q, v = .pointer (some ⟨q, 0, none⟩) ∧ L = [wa q [] 0]) := by
 refine Spec.of 19 Tryd.func37 rfl rfl rfl ?_
 refine swp_seq ?_
 refine swp_region ?_
 refine s_pu (pu_assign rfl) ?_
 refine swl_sub _ (.cons (t := 0) rfl .nil) ?_
 refine swl_nil ?_
 refine then_n ?_
 refine swp_seq ?_
 refine swp_region ?_
 refine s_pu (pu_bld (qs := []) rfl) ?_
 refine s_ef (ef_box rfl rfl) ?_
 intro b7
 refine s_pu (pu_assign rfl) ?_
 refine swl_sub _ (.cons (t := 0) rfl (.cons (t := 3) rfl .nil)) ?_
 refine swl_nil ?_
 refine then_n ?_
 refine swp_seq ?_
 refine swp_seq ?_
 refine swp_ent (wraw_nil (nxt := 0)) ?_
 refine swp_ent (wa_close Hp.Rep.nil (by simp)) ?_
 refine swp_region ?_
 refine s_pu (pu_move rfl) ?_
 refine s_pu (pu_len rfl) ?_
 refine s_pu (pu_move rfl) ?_
 refine swl_sub _ (.cons (t := 3) rfl (.cons (t := 8) rfl (.cons (t := 9) rfl (.cons (t := 10) rfl .nil)))) ?_
 refine swl_nil ?_
 refine then_n ?_
 refine swp_block ?_
 refine swp_loop (ι := Unit) (fun _ env L => env = [(3, _), (8, _), (9, .int .i64 0), (10, .int .i64 0)] ∧ L = [wa _ [] 0]) (fun _ => 0) () ⟨rfl, rfl⟩ ?_
 rintro _ env L ⟨rfl, rfl⟩
 refine swp_seq ?_
 refine swp_region ?_
 refine s_pu (pu_lss rfl rfl) ?_
 refine swl_sub _ (.cons (t := 3) rfl (.cons (t := 8) rfl (.cons (t := 9) rfl (.cons (t := 10) rfl (.cons (t := 11) rfl .nil))))) ?_
 refine swl_nil ?_
 refine then_n ?_
 refine swp_seq ?_
 refine swp_cond (b := _) rfl (fun h11 => by cases h11) (fun h11 => ?_)
 refine swp_exit ?_
 refine then_x ?_
 refine then_x ?_
 refine block_hit rfl ?_
 refine then_n ?_
 refine swp_seq ?_
 refine swp_region ?_
 refine s_pu (pu_move rfl) ?_
 refine s_pu (pu_assign rfl) ?_
 refine swl_sub _ (.cons (t := 2) rfl .nil) ?_
 refine swl_nil ?_
 refine then_n ?_
 refine swp_ret ?_
 exact done_ret _ (.tmp rfl .nil) ⟨_, rfl, rfl⟩ (by repeat (first | exact Split.nil | (apply Split.cons; (repeat (first | with_reducible exact Take.here | apply Take.there)))))
end SX.Bq
namespace SX.Bq
open Go Go.Proofs SX

theorem ins_fst {x nx : Nat} : ∀ {S : List (WI × Nat)} {Q : List Nat}, S.map (·.1) = Q.map (fun k : Nat => (k : Int)) → x ∉ Q → (Hp.ins aW ((x : Int), nx) S).map (·.1) = (insD x Q).map (fun k : Nat => (k : Int))
  | [], [], _, _ => rfl
  | [], _ :: _, h, _ => by simp at h
  | _ :: _, [], h, _ => by simp at h
  | s :: S, q :: Q, h, hx => by
    rw [List.map_cons, List.map_cons, List.cons.injEq] at h
    obtain ⟨h1, h2⟩ := h
    have hne : x ≠ q := fun e => hx (by rw [e]; exact List.mem_cons_self ..)
    have hA : aW ((x : Int), nx) s = decide (q < x) := by
      unfold aW Hp.ahd ltW
      rw [h1, Bool.eq_iff_iff]
      simp only [Bool.or_eq_true, Bool.and_eq_true, Bool.not_eq_true', decide_eq_true_eq, decide_eq_false_iff_not]
      show (@LT.lt Int _ q x ∨ _) ↔ _
      have e1 : (@LT.lt Int _ q x) ↔ q < x := by omega
      have e2 : (@LT.lt Int _ x q) ↔ x < q := by omega
      constructor
      · rintro (h | ⟨h, _⟩)
        · exact e1.1 h
        · have h' : ¬ @LT.lt Int _ (x : Int) (q : Int) := h
          omega
      · exact fun h => .inl (e1.2 h)
    unfold Hp.ins insD
    rw [hA]
    by_cases hq : q < x
    · rw [if_pos (decide_eq_true hq), if_pos hq, List.map_cons, List.map_cons, h1, h2]; rfl
    · rw [if_neg (by rw [decide_eq_false hq]; simp), if_neg hq, List.map_cons, List.map_cons, h1, ins_fst h2 (fun hm => hx (List.mem_cons_of_mem _ hm))]
/-- a queue of commits, by what comes out -/
def cq (q : Nat) (Q : List Nat) (nx : Nat) : Assn := exA (fun S : {S : List (WI × Nat) // S.map (·.1) = Q.map (fun k : Nat => (k : Int))} => [wa q S.1 nx])
theorem cq_close {q nx : Nat} {S : List (WI × Nat)} {Q : List Nat} {L : List Assn} (h : S.map (·.1) = Q.map (fun k : Nat => (k : Int))) : Ent (wa q S nx :: L) (cq q Q nx :: L) :=
  ent_ex (F := fun S : {S : List (WI × Nat) // S.map (·.1) = Q.map (fun k : Nat => (k : Int))} => [wa q S.1 nx]) ⟨S, h⟩ (by repeat (first | exact Split.nil | (apply Split.cons; (repeat (first | with_reducible exact Take.here | apply Take.there)))))
theorem len_fst {S : List (WI × Nat)} {Q : List Nat} (h : S.map (·.1) = Q.map (fun k : Nat => (k : Int))) : S.length = Q.length := by have := congrArg List.length h; rwa [List.length_map, List.length_map] at this
theorem push_q (q : Nat) (Q : List Nat) (nx x : Nat) (hx : x ∉ Q) (hb1 : Q.length ≤ 1099511627776) (hb2 : nx ≤ 18446744073709551614) :
    Spec Tryd.prog 52 [.pointer (some ⟨q, 0, none⟩), .int .i64 (x : Nat)] [cq q Q nx] (fun v L => v = .tuple #[] ∧ L = [cq q (insD x Q) (nx + 1)]) := by
  refine Spec.exA' fun ⟨S, hS⟩ => ?_
  exact Spec.ent2 (push_a q S nx (x : Int) (by rw [len_fst hS]; exact hb1) hb2) (cq_close (ins_fst hS hx))
theorem pop_q (q nx c : Nat) (Q : List Nat) (hb : (c :: Q).length ≤ 1099511627776) : Spec Tryd.prog 54 [.pointer (some ⟨q, 0, none⟩)] [cq q (c :: Q) nx] (fun v L => v = .tuple #[.int .i64 (c : Nat), .bool true] ∧ L = [cq q Q nx]) := by
  refine Spec.exA' fun ⟨S, hS⟩ => ?_
  cases S with
  | nil => simp at hS
  | cons s S =>
    rw [List.map_cons, List.map_cons, List.cons.injEq] at hS
    have h := pop_a q nx s S (by have := len_fst hS.2; simp only [List.length_cons] at hb ⊢; omega)
    rw [hS.1] at h
    exact Spec.ent2 h (cq_close hS.2)
theorem new_q : Spec Tryd.prog 37 [.slice none 0 0] [] (fun v L => ∃ q, v = .pointer (some ⟨q, 0, none⟩) ∧ L = [cq q [] 0]) :=
  Spec.ent3 new_w fun v L ⟨q, hv, hL⟩ => ⟨_, by rw [hL]; exact cq_close rfl, q, hv, rfl⟩
end SX.Bq
namespace SX
open Go Go.Proofs

set_option maxHeartbeats 1000000 in
theorem rcheck_spec (μ : PH) (v : Value) (G : List (Value × List Int)) (hG : Graph μ v G) (hbig : G.length ≤ 1099511627776) : Spec Tryd.prog 30 [v] [ro μ] (fun r L => r = .int .i64 (chkFrom 0 (nums G)) ∧ L = [ro μ]) := by
  obtain ⟨A, cap, hv⟩ := hG.1.sl
  subst hv
  refine Spec.of 49 Tryd.func30 rfl rfl rfl ?_
  refine swp_seq ?_
  refine swp_region ?_
  refine s_pu (pu_assign rfl) ?_
  refine swl_sub _ (.cons (t := 0) rfl .nil) ?_
  refine swl_nil ?_
  refine then_n ?_
  refine swp_seq ?_
  refine swp_seq ?_
  refine swp_region ?_
  refine s_pu (pu_assign rfl) ?_
  refine swl_sub _ (.cons (t := 0) rfl (.cons (t := 3) rfl .nil)) ?_
  refine swl_nil ?_
  refine then_n ?_
  refine swp_block ?_
  refine swp_loop (ι := Nat) (fun i env L => env = [(0, .slice A G.length cap), (3, .int .i64 (i : Nat))] ∧ L = [ro μ] ∧ i ≤ G.length ∧ chkFrom i ((nums G).drop i) = chkFrom 0 (nums G)) (fun i => G.length - i) 0 ⟨rfl, rfl, Nat.zero_le _, rfl⟩ ?_
  rintro i env L ⟨rfl, rfl, hi, hch⟩
  refine swp_seq ?_
  refine swp_seq ?_
  refine swp_region ?_
  refine s_pu (pu_move rfl) ?_
  refine s_pu (pu_move rfl) ?_
  refine s_pu (pu_len rfl) ?_
  refine s_pu (pu_lss rfl rfl) ?_
  refine swl_sub _ (.cons (t := 0) rfl (.cons (t := 3) rfl (.cons (t := 10) rfl .nil))) ?_
  refine swl_nil ?_
  refine then_n ?_
  refine swp_cond (b := _) rfl (fun h10 => ?_) (fun h10 => ?_)
  · skip   -- 10 T
    have h10' : i < G.length := by have := of_decide_eq_true h10; omega
    obtain ⟨gb, off, cap', hv, c1, c2, hr⟩ := hG.1.pos (by omega)
    simp only [Value.slice.injEq, true_and] at hv
    obtain ⟨rfl, rfl⟩ := hv
    obtain ⟨x, hx⟩ : ∃ x, G[i]? = some x := ⟨_, List.getElem?_eq_getElem h10'⟩
    have hrk := hr.elem gcs_len hx
    have hxr := hG.2 x (List.mem_of_getElem? hx)
    have hxs := hxr.small
    have hci := chkFrom_at (g := nums G) (i := i) (l := x.2) (by rw [List.getElem?_map, hx]; rfl)
    rw [hch] at hci
    refine swp_skip ?_
    refine then_n ?_
    refine swp_seq ?_
    refine swp_block ?_
    refine swp_seq ?_
    refine swp_region ?_
    refine s_pu (pu_assign rfl) ?_
    refine swl_sub _ (.cons (t := 0) rfl (.cons (t := 3) rfl (.cons (t := 4) rfl .nil))) ?_
    refine swl_nil ?_
    refine then_n ?_
    refine swp_seq ?_
    refine swp_seq ?_
    refine swp_region ?_
    refine s_pu (pu_move rfl) ?_
    refine s_pu (pu_move rfl) ?_
    refine s_pu (pu_indexAddr (off + i * 1) rfl rfl (by omega) (by omega) (by rw [Int.toNat_natCast])) ?_
    refine s_rd (rd_ro rfl hrk.cell) ?_
    refine s_pu (pu_len_row hxr rfl) ?_
    refine s_pu (pu_gtr rfl rfl) ?_
    refine swl_sub _ (.cons (t := 0) rfl (.cons (t := 3) rfl (.cons (t := 4) rfl (.cons (t := 18) rfl .nil)))) ?_
    refine swl_nil ?_
    refine then_n ?_
    refine swp_cond (b := _) rfl (fun h18 => ?_) (fun h18 => ?_)
    · skip   -- 18 T
      refine swp_region ?_
      refine s_pu (pu_move rfl) ?_
      refine s_ef (ef_make1 i rfl rfl rfl (by omega) (by simp only [maxLen]; omega)) ?_
      rintro b20
      skip
      refine s_pu (pu_assign rfl) ?_
      refine swl_sub _ (.cons (t := 0) rfl (.cons (t := 3) rfl (.cons (t := 4) rfl .nil))) ?_
      refine swl_nil ?_
      refine then_n ?_
      refine swp_seq ?_
      refine swp_region ?_
      refine s_pu (pu_assign rfl) ?_
      refine swl_sub _ (.cons (t := 0) rfl (.cons (t := 3) rfl (.cons (t := 4) rfl (.cons (t := 5) rfl .nil)))) ?_
      refine swl_nil ?_
      refine then_n ?_
      refine swp_block ?_
      refine swp_loop (ι := Nat) (fun j env L => env = [(0, .slice (some ⟨gb, off, none⟩) G.length cap), (3, .int .i64 (i : Nat)), (4, .slice (some ⟨b20, 0, none⟩) i i), (5, .int .i64 (j : Nat))] ∧ L = [blk b20 4 (rbs i fun k => decide ((k : Int) ∈ x.2.take j)), ro μ] ∧ j ≤ x.2.length ∧ rowErr i (x.2.take j) (x.2.drop j) = rowErr i [] x.2) (fun j => x.2.length - j) 0 ⟨rfl, ?_, Nat.zero_le _, rfl⟩ ?_
      · have e : rbs i (fun k => decide ((k : Int) ∈ x.2.take 0)) = List.replicate i (.bool false) := by
          apply List.ext_getElem?
          intro j
          simp [rbs, List.getElem?_replicate]
          split <;> simp_all
        rw [e]
      rintro j env L ⟨rfl, rfl, hj, hre⟩
      refine swp_seq ?_
      refine swp_seq ?_
      refine swp_region ?_
      refine s_pu (pu_move rfl) ?_
      refine s_pu (pu_move rfl) ?_
      refine s_pu (pu_move rfl) ?_
      refine s_pu (pu_indexAddr (off + i * 1) rfl rfl (by omega) (by omega) (by rw [Int.toNat_natCast])) ?_
      refine s_rd (rd_ro rfl hrk.cell) ?_
      refine s_pu (pu_len_row hxr rfl) ?_
      refine s_pu (pu_lss rfl rfl) ?_
      refine swl_sub _ (.cons (t := 0) rfl (.cons (t := 3) rfl (.cons (t := 4) rfl (.cons (t := 5) rfl (.cons (t := 27) rfl .nil))))) ?_
      refine swl_nil ?_
      refine then_n ?_
      refine swp_cond (b := _) rfl (fun h27 => ?_) (fun h27 => ?_)
      · skip   -- 27 T
        have h27' : j < x.2.length := by have := of_decide_eq_true h27; omega
        obtain ⟨pb, poff, pcap, hpv, p1, p2, hpr⟩ := hxr.pos (by omega)
        obtain ⟨p, hp⟩ : ∃ p, x.2[j]? = some p := ⟨_, List.getElem?_eq_getElem h27'⟩
        have hpk := hpr.elem (icsk_len .i64) hp
        rw [rowErr_at hp] at hre
        refine swp_skip ?_
        refine then_n ?_
        refine swp_seq ?_
        refine swp_block ?_
        refine swp_seq ?_
        refine swp_region ?_
        refine s_pu (pu_move rfl) ?_
        refine s_pu (pu_move rfl) ?_
        refine s_pu (pu_indexAddr (off + i * 1) rfl rfl (by omega) (by omega) (by rw [Int.toNat_natCast])) ?_
        refine s_rd (rd_ro rfl (hpv ▸ hrk.cell)) ?_
        refine s_pu (pu_move rfl) ?_
        refine s_pu (pu_indexAddr (poff + j * 1) rfl rfl (by omega) (by omega) (by rw [Int.toNat_natCast])) ?_
        refine s_rd (rd_ro rfl hpk.cell) ?_
        refine s_pu (pu_assign rfl) ?_
        refine swl_sub _ (.cons (t := 0) rfl (.cons (t := 3) rfl (.cons (t := 4) rfl (.cons (t := 5) rfl (.cons (t := 6) rfl .nil))))) ?_
        refine swl_nil ?_
        refine then_n ?_
        refine swp_seq ?_
        refine swp_seq ?_
        refine swp_region ?_
        refine s_pu (pu_move rfl) ?_
        refine s_pu (pu_lss rfl rfl) ?_
        refine swl_sub _ (.cons (t := 0) rfl (.cons (t := 3) rfl (.cons (t := 4) rfl (.cons (t := 5) rfl (.cons (t := 6) rfl (.cons (t := 38) rfl .nil)))))) ?_
        refine swl_nil ?_
        refine then_n ?_
        refine swp_cond (b := _) rfl (fun h38 => ?_) (fun h38 => ?_)
        · skip   -- 38 T
          rw [if_pos (of_decide_eq_true h38)] at hre
          refine swp_seq ?_
          refine swp_region ?_
          refine s_pu (pu_assign rfl) ?_
          refine swl_sub _ (.cons (t := 2) rfl .nil) ?_
          refine swl_nil ?_
          refine then_n ?_
          refine swp_ret ?_
          refine then_r ?_
          refine block_r ?_
          refine then_r ?_
          refine then_r ?_
          refine block_r ?_
          refine block_r ?_
          refine then_r ?_
          refine then_r ?_
          refine block_r ?_
          refine then_r ?_
          exact done_ret [ro μ] (.tmp rfl .nil) ⟨by rw [hci, ← hre, if_neg (by decide)]; rfl, rfl⟩ (by repeat (first | exact Split.nil | (apply Split.cons; (repeat (first | with_reducible exact Take.here | apply Take.there)))))
        · skip   -- 38 F
          rw [if_neg (of_decide_eq_false h38)] at hre
          have h38' := of_decide_eq_false h38
          refine swp_skip ?_
          refine then_n ?_
          refine swp_seq ?_
          refine swp_seq ?_
          refine swp_region ?_
          refine s_pu (pu_move rfl) ?_
          refine s_pu (pu_move rfl) ?_
          refine s_pu (pu_geq rfl rfl) ?_
          refine swl_sub _ (.cons (t := 0) rfl (.cons (t := 3) rfl (.cons (t := 4) rfl (.cons (t := 5) rfl (.cons (t := 6) rfl (.cons (t := 41) rfl .nil)))))) ?_
          refine swl_nil ?_
          refine then_n ?_
          refine swp_cond (b := _) rfl (fun h41 => ?_) (fun h41 => ?_)
          · skip   -- 41 T
            rw [if_pos (of_decide_eq_true h41)] at hre
            refine swp_seq ?_
            refine swp_region ?_
            refine s_pu (pu_assign rfl) ?_
            refine swl_sub _ (.cons (t := 2) rfl .nil) ?_
            refine swl_nil ?_
            refine then_n ?_
            refine swp_ret ?_
            refine then_r ?_
            refine block_r ?_
            refine then_r ?_
            refine then_r ?_
            refine block_r ?_
            refine block_r ?_
            refine then_r ?_
            refine then_r ?_
            refine block_r ?_
            refine then_r ?_
            exact done_ret [ro μ] (.tmp rfl .nil) ⟨by rw [hci, ← hre, if_neg (by decide)]; rfl, rfl⟩ (by repeat (first | exact Split.nil | (apply Split.cons; (repeat (first | with_reducible exact Take.here | apply Take.there)))))
          · skip   -- 41 F
            rw [if_neg (of_decide_eq_false h41)] at hre
            have h41' := of_decide_eq_false h41
            obtain ⟨k, rfl⟩ : ∃ k : Nat, p = k := ⟨p.toNat, by omega⟩
            refine swp_skip ?_
            refine then_n ?_
            refine swp_seq ?_
            refine swp_seq ?_
            refine swp_region ?_
            refine s_pu (pu_move rfl) ?_
            refine s_pu (pu_move rfl) ?_
            refine s_pu (pu_indexAddr k rfl rfl (by omega) (by omega) (by omega)) ?_
            refine s_rd (rd_load rfl (rbs_get _ (by omega))) ?_
            refine swl_sub _ (.cons (t := 0) rfl (.cons (t := 3) rfl (.cons (t := 4) rfl (.cons (t := 5) rfl (.cons (t := 6) rfl (.cons (t := 45) rfl .nil)))))) ?_
            refine swl_nil ?_
            refine then_n ?_
            refine swp_cond (b := _) rfl (fun h45 => ?_) (fun h45 => ?_)
            · skip   -- 45 T
              rw [if_pos (of_decide_eq_true h45)] at hre
              refine swp_seq ?_
              refine swp_region ?_
              refine s_pu (pu_assign rfl) ?_
              refine swl_sub _ (.cons (t := 2) rfl .nil) ?_
              refine swl_nil ?_
              refine then_n ?_
              refine swp_ret ?_
              refine then_r ?_
              refine block_r ?_
              refine then_r ?_
              refine then_r ?_
              refine block_r ?_
              refine block_r ?_
              refine then_r ?_
              refine then_r ?_
              refine block_r ?_
              refine then_r ?_
              exact done_ret [ro μ] (.tmp rfl .nil) ⟨by rw [hci, ← hre, if_neg (by decide)]; rfl, rfl⟩ (by repeat (first | exact Split.nil | (apply Split.cons; (repeat (first | with_reducible exact Take.here | apply Take.there)))))
            · skip   -- 45 F
              rw [if_neg (of_decide_eq_false h45)] at hre
              refine swp_skip ?_
              refine then_n ?_
              refine swp_region ?_
              refine s_pu (pu_move rfl) ?_
              refine s_pu (pu_move rfl) ?_
              refine s_pu (pu_indexAddr k rfl rfl (by omega) (by omega) (by omega)) ?_
              refine s_ef0 (ef_storeP rfl rfl rfl (by rw [rbs_len]; omega)) ?_
              refine swl_sub _ (.cons (t := 0) rfl (.cons (t := 3) rfl (.cons (t := 4) rfl (.cons (t := 5) rfl .nil)))) ?_
              rw [rbs_set (T := fun y => decide ((y : Int) ∈ x.2.take (j + 1))) (fun y hy => by
                rw [List.take_add_one, hp]
                by_cases e : y = k
                · subst e; simp
                · have : (y : Int) ≠ k := by omega
                  simp [e, this])]
              refine swl_nil ?_
              refine block_n ?_
              refine then_n ?_
              refine swp_region ?_
              refine s_pu (pu_move rfl) ?_
              refine s_pu (pu_add_as ((j + 1 : Nat) : Int) rfl rfl (by omega) (by omega) (by omega)) ?_
              refine s_pu (pu_assign rfl) ?_
              refine swl_sub _ (.cons (t := 0) rfl (.cons (t := 3) rfl (.cons (t := 4) rfl (.cons (t := 5) rfl .nil)))) ?_
              refine swl_nil ?_
              exact then_n ⟨j + 1, ⟨rfl, rfl, h27', hre⟩, by omega⟩
      · skip   -- 27 F
        have hz : chkFrom 0 (nums G) = chkFrom (i + 1) ((nums G).drop (i + 1)) := by
          first
          | (have h27' := of_decide_eq_false h27
             obtain rfl : j = x.2.length := by omega
             rw [List.drop_length] at hre
             have hz : rowErr i [] x.2 = 0 := hre.symm
             rw [if_pos hz] at hci
             exact hci)
          | (have hz : rowErr i [] x.2 = 0 := by rw [List.eq_nil_of_length_eq_zero hx0]; rfl
             rw [if_pos hz] at hci
             exact hci)
        refine swp_exit ?_
        refine then_x ?_
        refine then_x ?_
        refine block_hit rfl ?_
        refine block_n ?_
        refine then_n ?_
        refine swp_region ?_
        refine s_pu (pu_move rfl) ?_
        refine s_pu (pu_add_as ((i + 1 : Nat) : Int) rfl rfl (by omega) (by omega) (by omega)) ?_
        refine s_pu (pu_assign rfl) ?_
        refine swl_sub _ (.cons (t := 0) rfl (.cons (t := 3) rfl .nil)) ?_
        refine swl_ent (Split.ent' (K := [ro μ]) (by repeat (first | exact Split.nil | (apply Split.cons; (repeat (first | with_reducible exact Take.here | apply Take.there)))))) ?_
        refine swl_nil ?_
        exact then_n ⟨i + 1, ⟨rfl, rfl, h10', hz.symm⟩, by omega⟩
    · skip   -- 18 F
      have h18' := of_decide_eq_false h18
      have hx0 : x.2.length = 0 := by omega
      refine swp_skip ?_
      refine then_n ?_
      refine swp_seq ?_
      refine swp_region ?_
      refine s_pu (pu_assign rfl) ?_
      refine swl_sub _ (.cons (t := 0) rfl (.cons (t := 3) rfl (.cons (t := 4) rfl (.cons (t := 5) rfl .nil)))) ?_
      refine swl_nil ?_
      refine then_n ?_
      refine swp_block ?_
      refine swp_sub _ (.cons (t := 0) rfl (.cons (t := 3) rfl (.cons (t := 4) rfl (.cons (t := 5) rfl .nil)))) ?_
      refine swp_loop (ι := Nat) (fun j env L => env = [(0, .slice (some ⟨gb, off, none⟩) G.length cap), (3, .int .i64 (i : Nat)), (4, .slice none 0 0), (5, .int .i64 0)] ∧ L = [ro μ]) (fun j => j) 0 ⟨rfl, rfl⟩ ?_
      rintro j env L ⟨rfl, rfl⟩
      refine swp_seq ?_
      refine swp_seq ?_
      refine swp_region ?_
      refine s_pu (pu_move rfl) ?_
      refine s_pu (pu_move rfl) ?_
      refine s_pu (pu_move rfl) ?_
      refine s_pu (pu_indexAddr (off + i * 1) rfl rfl (by omega) (by omega) (by rw [Int.toNat_natCast])) ?_
      refine s_rd (rd_ro rfl hrk.cell) ?_
      refine s_pu (pu_len_row hxr rfl) ?_
      refine s_pu (pu_lss rfl rfl) ?_
      refine swl_sub _ (.cons (t := 0) rfl (.cons (t := 3) rfl (.cons (t := 4) rfl (.cons (t := 5) rfl (.cons (t := 27) rfl .nil))))) ?_
      refine swl_nil ?_
      refine then_n ?_
      refine swp_cond (b := _) rfl (fun h27 => by have := of_decide_eq_true h27; omega) (fun h27 => ?_)
      have hz : chkFrom 0 (nums G) = chkFrom (i + 1) ((nums G).drop (i + 1)) := by
        first
        | (have h27' := of_decide_eq_false h27
           obtain rfl : j = x.2.length := by omega
           rw [List.drop_length] at hre
           have hz : rowErr i [] x.2 = 0 := hre.symm
           rw [if_pos hz] at hci
           exact hci)
        | (have hz : rowErr i [] x.2 = 0 := by rw [List.eq_nil_of_length_eq_zero hx0]; rfl
           rw [if_pos hz] at hci
           exact hci)
      refine swp_exit ?_
      refine then_x ?_
      refine then_x ?_
      refine block_hit rfl ?_
      refine block_n ?_
      refine then_n ?_
      refine swp_region ?_
      refine s_pu (pu_move rfl) ?_
      refine s_pu (pu_add_as ((i + 1 : Nat) : Int) rfl rfl (by omega) (by omega) (by omega)) ?_
      refine s_pu (pu_assign rfl) ?_
      refine swl_sub _ (.cons (t := 0) rfl (.cons (t := 3) rfl .nil)) ?_
      refine swl_ent (Split.ent' (K := [ro μ]) (by repeat (first | exact Split.nil | (apply Split.cons; (repeat (first | with_reducible exact Take.here | apply Take.there)))))) ?_
      refine swl_nil ?_
      exact then_n ⟨i + 1, ⟨rfl, rfl, h10', hz.symm⟩, by omega⟩
  · skip   -- 10 F
    refine swp_exit ?_
    refine then_x ?_
    refine then_x ?_
    refine block_hit rfl ?_
    refine then_n ?_
    refine swp_seq ?_
    refine swp_region ?_
    refine s_pu (pu_assign rfl) ?_
    refine swl_sub _ (.cons (t := 2) rfl .nil) ?_
    refine swl_nil ?_
    refine then_n ?_
    refine swp_ret ?_
    have h10' := of_decide_eq_false h10
    have hd : (nums G).drop i = [] := List.drop_eq_nil_of_le (by rw [List.length_map]; omega)
    rw [hd] at hch
    exact done_ret [ro μ] (.tmp rfl .nil) ⟨by rw [← hch]; rfl, rfl⟩ (by repeat (first | exact Split.nil | (apply Split.cons; (repeat (first | with_reducible exact Take.here | apply Take.there)))))
end SX
