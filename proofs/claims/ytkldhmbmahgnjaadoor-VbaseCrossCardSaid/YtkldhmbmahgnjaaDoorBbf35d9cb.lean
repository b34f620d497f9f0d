/- A part of the proof: walks of the program's functions, and the rules by which they go. -/
import Derived.Test.YtkldhmbmahgnjaaDoorB9b79eba3
import Derived.Test.YtkldhmbmahgnjaaDoorB6031634f
import Derived.Test.YtkldhmbmahgnjaaDoorBc0560671
import Derived.Test.YtkldhmbmahgnjaaDoorBe381e68c
namespace SX
open Go Go.Proofs

/-! bits of paints -/
theorem pu_or_nat {P : Program} {env : Env} {t u : TypeId} {x y : Operand} (a b : Nat) (hx : evalE env x = some (.int .i64 (a : Nat))) (hy : evalE env y = some (.int .i64 (b : Nat))) (ha : a < 4611686018427387904) (hb : b < 4611686018427387904) : Pu P env (.binOp .or t x y u) (.int .i64 ((a ||| b : Nat) : Int)) := fun ρ hρ _ _ _ _ _ w => by
  have hg : ∀ X Y, eqGuard .or t X Y (.int .i64 (a : Nat)) (.int .i64 (b : Nat)) = pure () := fun _ _ => by simp [eqGuard]
  have hle : a ||| b < 4611686018427387904 := Nat.or_lt_two_pow (n := 62) ha hb
  have hb' : (binOp .or t (.int .i64 (a : Nat)) (.int .i64 (b : Nat)) : Sem Value) = pure (.int .i64 ((a ||| b : Nat) : Int)) := by
    have e : (binOp .or t (.int .i64 (a : Nat)) (.int .i64 (b : Nat)) : Sem Value) = Op.intBits .or .i64 a b := by simp [binOp]
    rw [e]
    show (let a' : BitVec 64 := BitVec.ofInt 64 a; let b' : BitVec 64 := BitVec.ofInt 64 b; pure (.int .i64 (IntKind.i64.wrap (a' ||| b').toNat)) : Sem Value) = _
    have e1 : (BitVec.ofInt 64 (a : Int)).toNat = a := by rw [BitVec.ofInt_natCast, BitVec.toNat_ofNat]; exact Nat.mod_eq_of_lt (by omega)
    have e2 : (BitVec.ofInt 64 (b : Int)).toNat = b := by rw [BitVec.ofInt_natCast, BitVec.toNat_ofNat]; exact Nat.mod_eq_of_lt (by omega)
    simp only [BitVec.toNat_or, e1, e2]
    rw [wrap_i64 (by omega) (by omega)]
  simp only [execOp, hρ x _ hx, hρ y _ hy, Sem.run_bind, hg, hb', Sem.run_pure, Result.andThen_ok]
theorem pu_or_v {P : Program} {env : Env} {t u : TypeId} {x y : Operand} {a b : Nat} (ha : isV a) (hb : b < 8) (hx : evalE env x = some (.int .i64 (a : Nat))) (hy : evalE env y = some (.int .i64 (b : Nat))) : Pu P env (.binOp .or t x y u) (.int .i64 ((a ||| b : Nat) : Int)) :=
  pu_or_nat a b hx hy (by have := ha.lt; omega) (by omega)
theorem pu_and_v {P : Program} {env : Env} {t u : TypeId} {x y : Operand} {a : Nat} (b : Nat) (ha : isV a) (hb : b < 8) (hx : evalE env x = some (.int .i64 (a : Nat))) (hy : evalE env y = some (.int .i64 (b : Nat))) : Pu P env (.binOp .and t x y u) (.int .i64 ((a &&& b : Nat) : Int)) :=
  pu_and_nat a b hx hy (by have := ha.lt; omega) (by omega)
theorem four_v {a : Nat} (ha : isV a) : decide (((a &&& 4 : Nat) : Int) = 0) = decide (a < 4) := by rcases ha with rfl | rfl | rfl | rfl | rfl <;> decide
theorem three_v {a : Nat} (ha : isV a) (h : a < 4) : decide (((a &&& 3 : Nat) : Int) = 3) = decide (a = 3) := by rcases ha with rfl | rfl | rfl | rfl | rfl <;> first | decide | omega
theorem pu_four {P : Program} {env : Env} {t u : TypeId} {x y : Operand} {a : Nat} (ha : isV a) (hx : evalE env x = some (.int .i64 ((a &&& 4 : Nat) : Int))) (hy : evalE env y = some (.int .i64 0)) : Pu P env (.binOp .eql t x y u) (.bool (decide (a < 4))) := by
  rw [← four_v ha]; exact pu_eql hx hy
theorem pu_three {P : Program} {env : Env} {t u : TypeId} {x y : Operand} {a : Nat} (ha : isV a) (h : a < 4) (hx : evalE env x = some (.int .i64 ((a &&& 3 : Nat) : Int))) (hy : evalE env y = some (.int .i64 3)) : Pu P env (.binOp .eql t x y u) (.bool (decide (a = 3))) := by
  rw [← three_v ha h]; exact pu_eql hx hy

/-! the map of paints -/
def pmapOk (P : Nat → Nat) (l : Ents Int) : Prop := ∀ c : Nat, mlook l (c : Int) = if P c = 0 then none else some (.int .i64 (P c : Nat))
def mpP (b : Nat) (P : Nat → Nat) : Assn := exA fun k : {k : Ents Int × Nat // pmapOk P k.1} => [mpe b ikv k.1.1 k.1.2]
theorem mpP_close {b : Nat} {P : Nat → Nat} {l : Ents Int} {c : Nat} {L : List Assn} (h : pmapOk P l) : Ent (mpe b ikv l c :: L) (mpP b P :: L) :=
  ent_ex (F := fun k : {k : Ents Int × Nat // pmapOk P k.1} => [mpe b ikv k.1.1 k.1.2]) ⟨(l, c), h⟩ (by repeat (first | exact Split.nil | (apply Split.cons; (repeat (first | with_reducible exact Take.here | apply Take.there)))))
theorem pmap_get {P : Nat → Nat} {l : Ents Int} (h : pmapOk P l) (c : Nat) : (mlook l (c : Int)).getD (Value.int .i64 0) = Value.int .i64 (P c : Nat) ∧ (mlook l (c : Int)).isSome = decide (P c ≠ 0) := by
  rw [h]
  by_cases e : P c = 0
  · rw [if_pos e, e]; exact ⟨rfl, rfl⟩
  · rw [if_neg e]; exact ⟨rfl, (decide_eq_true e).symm⟩
theorem pmap_upd {s : PS} {l : Ents Int} (h : pmapOk s.1 l) (c k : Nat) {v : Nat} (hne : s.1 c ||| v ≠ 0) : pmapOk (addP s c v).1 (upd l k (c : Int) (.int .i64 ((s.1 c ||| v : Nat) : Int))) := fun j => by
  rw [mlook_upd, h]
  show _ = if (if j = c then s.1 j ||| v else s.1 j) = 0 then none else some (Value.int .i64 ((if j = c then s.1 j ||| v else s.1 j : Nat) : Int))
  by_cases e : j = c
  · subst e
    rw [if_pos rfl, if_pos rfl, if_neg hne]
  · rw [if_neg (fun h => e (by omega)), if_neg e]
theorem pmap_nil : pmapOk (fun _ => 0) [] := fun _ => rfl
theorem rd_pmap2 {env : Env} {L : List Assn} {b k : Nat} {P : Nat → Nat} {l : Ents Int} {m x : Operand} [InM b L ikv l k] (h : pmapOk P l) (c : Nat) (hx : evalE env m = some (.map (some b))) (hy : evalE env x = some (.int .i64 (c : Nat))) : Rd Tryd.prog env L (.lookup 111 m x true) (.tuple #[.int .i64 (P c : Nat), .bool (decide (P c ≠ 0))]) := by
  have := rd_mlook2 (P := Tryd.prog) (t := 111) (kv := ikv) (L := L) (l := l) (c := k) (b := b) (c : Int) hx hy
  rwa [(pmap_get h c).1, (pmap_get h c).2] at this
theorem rd_pmap {env : Env} {L : List Assn} {b k : Nat} {P : Nat → Nat} {l : Ents Int} {m x : Operand} [InM b L ikv l k] (h : pmapOk P l) (c : Nat) (hx : evalE env m = some (.map (some b))) (hy : evalE env x = some (.int .i64 (c : Nat))) : Rd Tryd.prog env L (.lookup 111 m x false) (.int .i64 (P c : Nat)) := by
  have := rd_mlook (P := Tryd.prog) (t := 111) (kv := ikv) (L := L) (l := l) (c := k) (b := b) (c : Int) hx hy
  rwa [(pmap_get h c).1] at this
abbrev ptB (p : Nat) (sv : Value) (n mb q F : Nat) : Assn := blk p 116 [sv, .int .i64 (n : Nat), .map (some mb), .pointer (some ⟨q, 0, none⟩), .int .i64 (F : Nat)]
/-- how many were painted -/
def seenP (n : Nat) (P : Nat → Nat) : Nat := seenN n fun k => decide (P k ≠ 0)
theorem seenP_add {n : Nat} {s : PS} {c v : Nat} (hc : c < n) (hne : s.1 c ||| v ≠ 0) : seenP n (addP s c v).1 = if s.1 c = 0 then seenP n s.1 + 1 else seenP n s.1 := by
  have e : (fun k => decide ((addP s c v).1 k ≠ 0)) = fun j => decide (s.1 j ≠ 0) || decide (j = c) := funext fun j => by
    show decide ((if j = c then s.1 j ||| v else s.1 j) ≠ 0) = _
    by_cases e : j = c
    · subst e; rw [if_pos rfl, decide_eq_true hne]; simp
    · rw [if_neg e, decide_eq_false e, Bool.or_false]
  unfold seenP
  rw [e]
  by_cases h0 : s.1 c = 0
  · rw [if_pos h0, seenN_put (by simpa using h0) hc]
  · rw [if_neg h0]
    congr 1
    funext j
    by_cases e : j = c
    · subst e; rw [decide_eq_true h0]; simp
    · rw [decide_eq_false e, Bool.or_false]
theorem addP_new {s : PS} {c v : Nat} (h : s.1 c = 0) : (addP s c v).2 = insD c s.2 := if_pos h
theorem addP_old {s : PS} {c v : Nat} (h : s.1 c ≠ 0) : (addP s c v).2 = s.2 := if_neg h
theorem or_ne {a v : Nat} (h : v ≠ 0) : a ||| v ≠ 0 := by
  have : v ≤ a ||| v := Nat.right_le_or
  omega
set_option maxHeartbeats 2000000 in
theorem padd_spec (p n m mb q : Nat) (sv : Value) (s : PS) (c v : Nat) (hn : n ≤ 65536) (hI : PI n m s) (hm : m ≤ n) (hc : c < m) (hv : isV v) (h0 : v ≠ 0) :
    Spec Tryd.prog 38 [.pointer (some ⟨p, 0, none⟩), .int .i64 (c : Nat), .int .i64 (v : Nat)] [ptB p sv n mb q (frP s), mpP mb s.1, Bq.cq q s.2 (seenP n s.1)]
      (fun r L => r = .tuple #[] ∧ L = [ptB p sv n mb q (frP (addP s c v)), mpP mb (addP s c v).1, Bq.cq q (addP s c v).2 (seenP n (addP s c v).1)]) := by
  have hne := or_ne (a := s.1 c) h0
  have hql := falls_len hI.falls hI.lt
  have hsl := seenN_le n fun k => decide (s.1 k ≠ 0)
  have hse := seenP_add (v := v) (show c < n by omega) hne
  obtain ⟨f1, f2, f3⟩ := frP_add hI hc hv
  have hfl := frP_le hI
  have hva := hI.val c
  have hvo := hva.or hv
  have hww : pWas s c = (decide (s.1 c ≠ 0) && decide (s.1 c < 4)) := rfl
  have hii : pIs s c v = decide (s.1 c ||| v < 4) := rfl
  refine Spec.pre ?_ Ent.swap
  refine Spec.exA' fun ⟨⟨l, k⟩, hl⟩ => ?_
  simp only [List.cons_append, List.nil_append]
  dsimp only at hl ⊢
  refine Spec.ent3 (post := fun r L => ∃ k', r = .tuple #[] ∧ L = [mpe mb ikv (upd l k (c : Int) (.int .i64 ((s.1 c ||| v : Nat) : Int))) k', ptB p sv n mb q (frP (addP s c v)), Bq.cq q (addP s c v).2 (seenP n (addP s c v).1)]) ?_
    (fun r L ⟨k', h1, h2⟩ => ⟨_, by rw [h2]; exact (mpP_close (pmap_upd hl c k hne)).trans Ent.swap, h1, rfl⟩)
  refine Spec.of 80 Tryd.func38 rfl rfl rfl ?_
  refine swp_seq ?_
  refine swp_seq ?_
  refine swp_region ?_
  refine s_pu (pu_move rfl) ?_
  refine s_pu (pu_lss rfl rfl) ?_
  refine s_pu (pu_move rfl) ?_
  refine s_split 12 rfl (fun h12 => by exfalso; have := of_decide_eq_true h12; omega) (fun h12 => ?_)
  refine s_on rfl rfl ?_
  refine s_pu (pu_move rfl) ?_
  refine s_on rfl rfl ?_
  refine s_pu (pu_move rfl) ?_
  refine s_on rfl rfl ?_
  first | refine s_pu (pu_nilCheck rfl) ?_ | refine s_pu (pu_nilCheck_fn rfl) ?_ | refine s_pu (pu_nilCheck_if rfl) ?_
  refine s_on rfl rfl ?_
  first | refine s_pu (pu_fieldAddr0 rfl) ?_ | refine s_pu (pu_fieldAddr rfl) ?_
  refine s_on rfl rfl ?_
  refine s_rd (rd_load rfl rfl) ?_
  refine s_on rfl rfl ?_
  refine s_pu (pu_geq rfl rfl) ?_
  first | refine s_pu (pu_pick_t rfl rfl) ?_ | refine s_pu (pu_pick_f rfl rfl) ?_
  refine swl_sub _ (.cons (t := 0) rfl (.cons (t := 1) rfl (.cons (t := 2) rfl (.cons (t := 19) rfl .nil)))) ?_
  refine swl_nil ?_
  refine then_n ?_
  refine swp_cond (b := _) rfl (fun h19 => by exfalso; have := of_decide_eq_true h19; omega) (fun h19 => ?_)
  refine swp_skip ?_
  refine then_n ?_
  refine swp_seq ?_
  refine swp_region ?_
  refine s_pu (pu_move rfl) ?_
  first | refine s_pu (pu_nilCheck rfl) ?_ | refine s_pu (pu_nilCheck_fn rfl) ?_ | refine s_pu (pu_nilCheck_if rfl) ?_
  first | refine s_pu (pu_fieldAddr0 rfl) ?_ | refine s_pu (pu_fieldAddr rfl) ?_
  refine s_rd (rd_load rfl rfl) ?_
  refine s_pu (pu_move rfl) ?_
  refine s_rd (rd_pmap2 hl c rfl rfl) ?_
  refine s_pu (pu_move rfl) ?_
  first | refine s_pu (pu_extractL rfl) ?_ | refine s_pu (pu_extract rfl rfl) ?_
  first | refine s_pu (pu_extractL rfl) ?_ | refine s_pu (pu_extract rfl rfl) ?_
  refine s_pu (pu_assign rfl) ?_
  refine s_pu (pu_assign rfl) ?_
  refine swl_sub _ (.cons (t := 0) rfl (.cons (t := 1) rfl (.cons (t := 2) rfl (.cons (t := 6) rfl (.cons (t := 7) rfl .nil))))) ?_
  refine swl_nil ?_
  refine then_n ?_
  refine swp_seq ?_
  refine swp_region ?_
  refine s_pu (pu_move rfl) ?_
  first | refine s_pu (pu_nilCheck rfl) ?_ | refine s_pu (pu_nilCheck_fn rfl) ?_ | refine s_pu (pu_nilCheck_if rfl) ?_
  first | refine s_pu (pu_fieldAddr0 rfl) ?_ | refine s_pu (pu_fieldAddr rfl) ?_
  refine s_rd (rd_load rfl rfl) ?_
  refine s_pu (pu_move rfl) ?_
  refine s_pu (pu_move rfl) ?_
  refine s_pu (pu_move rfl) ?_
  refine s_pu (pu_or_v hva hv.lt rfl rfl) ?_
  refine s_ef0 (ef_upd (kv := ikv) _ rfl rfl rfl (by repeat (first | exact Split.nil | (apply Split.cons; (repeat (first | with_reducible exact Take.here | apply Take.there)))))) ?_
  refine swl_sub _ (.cons (t := 0) rfl (.cons (t := 1) rfl (.cons (t := 2) rfl (.cons (t := 6) rfl (.cons (t := 7) rfl .nil))))) ?_
  refine swl_nil ?_
  refine then_n ?_
  refine swp_seq ?_
  refine swp_seq ?_
  refine swp_region ?_
  refine s_pu (pu_move rfl) ?_
  refine s_pu (pu_not rfl) ?_
  refine swl_sub _ (.cons (t := 0) rfl (.cons (t := 1) rfl (.cons (t := 2) rfl (.cons (t := 6) rfl (.cons (t := 7) rfl (.cons (t := 38) rfl .nil)))))) ?_
  refine swl_nil ?_
  refine then_n ?_
  refine swp_cond (b := _) rfl (fun h38 => ?_) (fun h38 => ?_)
  · skip   -- 38 T
    have hz : s.1 c = 0 := by simpa using h38
    have hqn : c ∉ s.2 := fun hq => (hI.seen c hc).2 hq hz
    have hw : pWas s c = false := by rw [hww, hz]; rfl
    rw [if_pos hz] at hse
    refine swp_region ?_
    refine s_pu (pu_move rfl) ?_
    first | refine s_pu (pu_nilCheck rfl) ?_ | refine s_pu (pu_nilCheck_fn rfl) ?_ | refine s_pu (pu_nilCheck_if rfl) ?_
    first | refine s_pu (pu_fieldAddr0 rfl) ?_ | refine s_pu (pu_fieldAddr rfl) ?_
    refine s_rd (rd_load rfl rfl) ?_
    refine s_pu (pu_move rfl) ?_
    refine s_ef (ef_fn (Bq.push_q q s.2 (seenP n s.1) c hqn (by omega) (by unfold seenP; omega)) rfl rfl (by repeat (first | exact Split.nil | (apply Split.cons; (repeat (first | with_reducible exact Take.here | apply Take.there)))))) ?_
    rintro v44 L1 ⟨rfl, rfl⟩
    refine swl_app ?_
    rw [← addP_new (v := v) hz, ← hse]
    refine swl_sub _ (.cons (t := 0) rfl (.cons (t := 2) rfl (.cons (t := 6) rfl (.cons (t := 7) rfl .nil)))) ?_
    refine swl_nil ?_
    refine then_n ?_
    refine swp_seq ?_
    refine swp_region ?_
    refine s_pu (pu_move rfl) ?_
    refine s_pu (pu_move rfl) ?_
    refine s_split 46 rfl (fun h46 => by exfalso; have := of_decide_eq_true h46; exact this hz) (fun h46 => ?_)
    refine s_off rfl rfl rfl ?_
    refine s_off rfl rfl rfl ?_
    refine s_off rfl rfl rfl ?_
    first | refine s_pu (pu_pick_t rfl rfl) ?_ | refine s_pu (pu_pick_f rfl rfl) ?_
    refine s_pu (pu_move rfl) ?_
    refine s_pu (pu_move rfl) ?_
    refine s_pu (pu_or_v hva hv.lt rfl rfl) ?_
    refine s_pu (pu_and_v 4 hvo (by decide) rfl rfl) ?_
    refine s_pu (pu_four hvo rfl rfl) ?_
    refine s_pu (pu_assign rfl) ?_
    refine s_pu (pu_assign rfl) ?_
    refine swl_sub _ (.cons (t := 0) rfl (.cons (t := 8) rfl (.cons (t := 9) rfl .nil))) ?_
    refine swl_nil ?_
    refine then_n ?_
    refine swp_seq ?_
    refine swp_region ?_
    refine s_pu (pu_move rfl) ?_
    refine s_pu (pu_move rfl) ?_
    refine s_split 57 rfl (fun h57 => ?_) (fun h57 => ?_)
    · skip   -- 57 T
      refine s_on rfl rfl ?_
      refine s_pu (pu_move rfl) ?_
      refine s_on rfl rfl ?_
      refine s_pu (pu_not rfl) ?_
      first | refine s_pu (pu_pick_t rfl rfl) ?_ | refine s_pu (pu_pick_f rfl rfl) ?_
      refine swl_sub _ (.cons (t := 0) rfl (.cons (t := 8) rfl (.cons (t := 9) rfl (.cons (t := 60) rfl .nil)))) ?_
      refine swl_nil ?_
      refine then_n ?_
      refine swp_cond (b := _) rfl (fun h60 => ?_) (fun h60 => by cases h60)
      have e7 := f1 h57 hw
      refine swp_region ?_
      refine s_pu (pu_move rfl) ?_
      first | refine s_pu (pu_nilCheck rfl) ?_ | refine s_pu (pu_nilCheck_fn rfl) ?_ | refine s_pu (pu_nilCheck_if rfl) ?_
      first | refine s_pu (pu_fieldAddr0 rfl) ?_ | refine s_pu (pu_fieldAddr rfl) ?_
      refine s_rd (rd_load rfl rfl) ?_
      refine s_pu (pu_add_as ((frP (addP s c v) : Nat) : Int) rfl rfl (by omega) (by omega) (by omega)) ?_
      first | refine s_pu (pu_nilCheck rfl) ?_ | refine s_pu (pu_nilCheck_fn rfl) ?_ | refine s_pu (pu_nilCheck_if rfl) ?_
      first | refine s_pu (pu_fieldAddr0 rfl) ?_ | refine s_pu (pu_fieldAddr rfl) ?_
      refine s_ef0 (ef_store rfl rfl rfl) ?_
      refine swl_sub _ .nil ?_
      refine swl_nil ?_
      exact done_end [mpe mb ikv (upd l k (c : Int) (.int .i64 ((s.1 c ||| v : Nat) : Int))) _, ptB p sv n mb q (frP (addP s c v)), Bq.cq q (addP s c v).2 (seenP n (addP s c v).1)] .nil ⟨_, rfl, rfl⟩ (by repeat (first | exact Split.nil | (apply Split.cons; (repeat (first | with_reducible exact Take.here | apply Take.there)))))
    · skip   -- 57 F
      refine s_off rfl rfl rfl ?_
      refine s_off rfl rfl rfl ?_
      first | refine s_pu (pu_pick_t rfl rfl) ?_ | refine s_pu (pu_pick_f rfl rfl) ?_
      refine swl_sub _ (.cons (t := 0) rfl (.cons (t := 8) rfl (.cons (t := 9) rfl (.cons (t := 60) rfl .nil)))) ?_
      refine swl_nil ?_
      refine then_n ?_
      refine swp_cond (b := _) rfl (fun h60 => by cases h60) (fun h60 => ?_)
      refine swp_seq ?_
      refine swp_region ?_
      refine s_pu (pu_move rfl) ?_
      refine s_pu (pu_move rfl) ?_
      refine s_split 69 rfl (fun h69 => by cases h69) (fun h69 => ?_)
      refine s_off rfl rfl rfl ?_
      refine s_off rfl rfl rfl ?_
      first | refine s_pu (pu_pick_t rfl rfl) ?_ | refine s_pu (pu_pick_f rfl rfl) ?_
      refine swl_sub _ (.cons (t := 0) rfl (.cons (t := 72) rfl .nil)) ?_
      refine swl_nil ?_
      refine then_n ?_
      refine swp_cond (b := _) rfl (fun h72 => by cases h72) (fun h72 => ?_)
      refine swp_skip ?_
      rw [← f3 (h57.trans hw.symm)]
      exact done_end [mpe mb ikv (upd l k (c : Int) (.int .i64 ((s.1 c ||| v : Nat) : Int))) _, ptB p sv n mb q (frP (addP s c v)), Bq.cq q (addP s c v).2 (seenP n (addP s c v).1)] .nil ⟨_, rfl, rfl⟩ (by repeat (first | exact Split.nil | (apply Split.cons; (repeat (first | with_reducible exact Take.here | apply Take.there)))))
  · skip   -- 38 F
    have hz : s.1 c ≠ 0 := by simpa using h38
    have hw : pWas s c = decide (s.1 c < 4) := by rw [hww, decide_eq_true hz, Bool.true_and]
    rw [if_neg hz] at hse
    rw [← addP_old (v := v) hz, ← hse]
    refine swp_skip ?_
    refine then_n ?_
    refine swp_seq ?_
    refine swp_region ?_
    refine s_pu (pu_move rfl) ?_
    refine s_pu (pu_move rfl) ?_
    refine s_split 46 rfl (fun h46 => ?_) (fun h46 => by exfalso; have := of_decide_eq_false h46; exact this hz)
    refine s_on rfl rfl ?_
    refine s_pu (pu_move rfl) ?_
    refine s_on rfl rfl ?_
    refine s_pu (pu_and_v 4 hva (by decide) rfl rfl) ?_
    refine s_on rfl rfl ?_
    refine s_pu (pu_four hva rfl rfl) ?_
    first | refine s_pu (pu_pick_t rfl rfl) ?_ | refine s_pu (pu_pick_f rfl rfl) ?_
    refine s_pu (pu_move rfl) ?_
    refine s_pu (pu_move rfl) ?_
    refine s_pu (pu_or_v hva hv.lt rfl rfl) ?_
    refine s_pu (pu_and_v 4 hvo (by decide) rfl rfl) ?_
    refine s_pu (pu_four hvo rfl rfl) ?_
    refine s_pu (pu_assign rfl) ?_
    refine s_pu (pu_assign rfl) ?_
    refine swl_sub _ (.cons (t := 0) rfl (.cons (t := 8) rfl (.cons (t := 9) rfl .nil))) ?_
    refine swl_nil ?_
    refine then_n ?_
    refine swp_seq ?_
    refine swp_region ?_
    refine s_pu (pu_move rfl) ?_
    refine s_pu (pu_move rfl) ?_
    refine s_split 57 rfl (fun h57 => ?_) (fun h57 => ?_)
    · skip   -- 57 T
      refine s_on rfl rfl ?_
      refine s_pu (pu_move rfl) ?_
      refine s_on rfl rfl ?_
      refine s_pu (pu_not rfl) ?_
      first | refine s_pu (pu_pick_t rfl rfl) ?_ | refine s_pu (pu_pick_f rfl rfl) ?_
      refine swl_sub _ (.cons (t := 0) rfl (.cons (t := 8) rfl (.cons (t := 9) rfl (.cons (t := 60) rfl .nil)))) ?_
      refine swl_nil ?_
      refine then_n ?_
      refine swp_cond (b := _) rfl (fun h60 => ?_) (fun h60 => ?_)
      · skip   -- 60 T
        have e7 := f1 h57 (by rw [hw]; simpa using h60)
        refine swp_region ?_
        refine s_pu (pu_move rfl) ?_
        first | refine s_pu (pu_nilCheck rfl) ?_ | refine s_pu (pu_nilCheck_fn rfl) ?_ | refine s_pu (pu_nilCheck_if rfl) ?_
        first | refine s_pu (pu_fieldAddr0 rfl) ?_ | refine s_pu (pu_fieldAddr rfl) ?_
        refine s_rd (rd_load rfl rfl) ?_
        refine s_pu (pu_add_as ((frP (addP s c v) : Nat) : Int) rfl rfl (by omega) (by omega) (by omega)) ?_
        first | refine s_pu (pu_nilCheck rfl) ?_ | refine s_pu (pu_nilCheck_fn rfl) ?_ | refine s_pu (pu_nilCheck_if rfl) ?_
        first | refine s_pu (pu_fieldAddr0 rfl) ?_ | refine s_pu (pu_fieldAddr rfl) ?_
        refine s_ef0 (ef_store rfl rfl rfl) ?_
        refine swl_sub _ .nil ?_
        refine swl_nil ?_
        exact done_end [mpe mb ikv (upd l k (c : Int) (.int .i64 ((s.1 c ||| v : Nat) : Int))) _, ptB p sv n mb q (frP (addP s c v)), Bq.cq q (addP s c v).2 (seenP n (addP s c v).1)] .nil ⟨_, rfl, rfl⟩ (by repeat (first | exact Split.nil | (apply Split.cons; (repeat (first | with_reducible exact Take.here | apply Take.there)))))
      · skip   -- 60 F
        refine swp_seq ?_
        refine swp_region ?_
        refine s_pu (pu_move rfl) ?_
        refine s_pu (pu_move rfl) ?_
        refine s_split 69 rfl (fun h69 => ?_) (fun h69 => by rw [h69] at h60; cases h60)
        refine s_on rfl rfl ?_
        refine s_pu (pu_move rfl) ?_
        refine s_on rfl rfl ?_
        refine s_pu (pu_not rfl) ?_
        first | refine s_pu (pu_pick_t rfl rfl) ?_ | refine s_pu (pu_pick_f rfl rfl) ?_
        refine swl_sub _ (.cons (t := 0) rfl (.cons (t := 72) rfl .nil)) ?_
        refine swl_nil ?_
        refine then_n ?_
        refine swp_cond (b := _) rfl (fun h72 => by rw [h57] at h72; cases h72) (fun h72 => ?_)
        refine swp_skip ?_
        rw [← f3 (h57.trans (hw.trans h69).symm)]
        exact done_end [mpe mb ikv (upd l k (c : Int) (.int .i64 ((s.1 c ||| v : Nat) : Int))) _, ptB p sv n mb q (frP (addP s c v)), Bq.cq q (addP s c v).2 (seenP n (addP s c v).1)] .nil ⟨_, rfl, rfl⟩ (by repeat (first | exact Split.nil | (apply Split.cons; (repeat (first | with_reducible exact Take.here | apply Take.there)))))
    · skip   -- 57 F
      refine s_off rfl rfl rfl ?_
      refine s_off rfl rfl rfl ?_
      first | refine s_pu (pu_pick_t rfl rfl) ?_ | refine s_pu (pu_pick_f rfl rfl) ?_
      refine swl_sub _ (.cons (t := 0) rfl (.cons (t := 8) rfl (.cons (t := 9) rfl (.cons (t := 60) rfl .nil)))) ?_
      refine swl_nil ?_
      refine then_n ?_
      refine swp_cond (b := _) rfl (fun h60 => by cases h60) (fun h60 => ?_)
      refine swp_seq ?_
      refine swp_region ?_
      refine s_pu (pu_move rfl) ?_
      refine s_pu (pu_move rfl) ?_
      refine s_split 69 rfl (fun h69 => ?_) (fun h69 => ?_)
      · skip   -- 69 T
        refine s_on rfl rfl ?_
        refine s_pu (pu_move rfl) ?_
        refine s_on rfl rfl ?_
        refine s_pu (pu_not rfl) ?_
        first | refine s_pu (pu_pick_t rfl rfl) ?_ | refine s_pu (pu_pick_f rfl rfl) ?_
        refine swl_sub _ (.cons (t := 0) rfl (.cons (t := 72) rfl .nil)) ?_
        refine swl_nil ?_
        refine then_n ?_
        refine swp_cond (b := _) rfl (fun h72 => ?_) (fun h72 => by rw [h57] at h72; cases h72)
        have e9 := f2 h57 (hw.trans h69)
        refine swp_region ?_
        refine s_pu (pu_move rfl) ?_
        first | refine s_pu (pu_nilCheck rfl) ?_ | refine s_pu (pu_nilCheck_fn rfl) ?_ | refine s_pu (pu_nilCheck_if rfl) ?_
        first | refine s_pu (pu_fieldAddr0 rfl) ?_ | refine s_pu (pu_fieldAddr rfl) ?_
        refine s_rd (rd_load rfl rfl) ?_
        refine s_pu (pu_sub_as ((frP (addP s c v) : Nat) : Int) rfl rfl (by omega) (by omega) (by omega)) ?_
        first | refine s_pu (pu_nilCheck rfl) ?_ | refine s_pu (pu_nilCheck_fn rfl) ?_ | refine s_pu (pu_nilCheck_if rfl) ?_
        first | refine s_pu (pu_fieldAddr0 rfl) ?_ | refine s_pu (pu_fieldAddr rfl) ?_
        refine s_ef0 (ef_store rfl rfl rfl) ?_
        refine swl_sub _ .nil ?_
        refine swl_nil ?_
        exact done_end [mpe mb ikv (upd l k (c : Int) (.int .i64 ((s.1 c ||| v : Nat) : Int))) _, ptB p sv n mb q (frP (addP s c v)), Bq.cq q (addP s c v).2 (seenP n (addP s c v).1)] .nil ⟨_, rfl, rfl⟩ (by repeat (first | exact Split.nil | (apply Split.cons; (repeat (first | with_reducible exact Take.here | apply Take.there)))))
      · skip   -- 69 F
        refine s_off rfl rfl rfl ?_
        refine s_off rfl rfl rfl ?_
        first | refine s_pu (pu_pick_t rfl rfl) ?_ | refine s_pu (pu_pick_f rfl rfl) ?_
        refine swl_sub _ (.cons (t := 0) rfl (.cons (t := 72) rfl .nil)) ?_
        refine swl_nil ?_
        refine then_n ?_
        refine swp_cond (b := _) rfl (fun h72 => by cases h72) (fun h72 => ?_)
        refine swp_skip ?_
        rw [← f3 (h57.trans (hw.trans h69).symm)]
        exact done_end [mpe mb ikv (upd l k (c : Int) (.int .i64 ((s.1 c ||| v : Nat) : Int))) _, ptB p sv n mb q (frP (addP s c v)), Bq.cq q (addP s c v).2 (seenP n (addP s c v).1)] .nil ⟨_, rfl, rfl⟩ (by repeat (first | exact Split.nil | (apply Split.cons; (repeat (first | with_reducible exact Take.here | apply Take.there)))))
end SX
namespace SX
open Go Go.Proofs

/-- the bases of two sides -/
def sidesB (g : List (List Int)) (l r : List Int) : List Int := elsTo g.length (bestT g (bothS g l r) g.length)
abbrev stS (l r : List Int) : PS := addRow 2 (addRow 1 (fun _ => 0, []) l) r
theorem putS_f {n c : Nat} (hc : c < n) (D : Nat → Bool) : putS n D (c : Int) = fun j => D j || decide (j = c) := by
  funext j
  unfold putS
  rw [Int.toNat_natCast, decide_eq_true (show (0 : Int) ≤ (c : Int) ∧ (c : Int) < n by omega), Bool.true_and]
set_option maxHeartbeats 4000000 in
theorem pbest_spec (X : Src) (s0 : X.σ) (μ : PH) (p mb q : Nat) (l r : List Int) (hT : RowAt μ 1 0 tabV) (h0 : Le X.μ0 μ) (hf : X.fine s0) (hl : ∀ p ∈ l, 0 ≤ p ∧ p < X.g.length) (hr : ∀ p ∈ r, 0 ≤ p ∧ p < X.g.length) :
    Spec Tryd.prog 39 [.pointer (some ⟨p, 0, none⟩)] [ptB p X.sv X.n mb q (frP (stS l r)), mpP mb (stS l r).1, Bq.cq q (stS l r).2 (seenP X.n (stS l r).1), X.A s0 μ, ro μ]
      (fun v L => ∃ zs μ', askedIn X.n zs ∧ Le μ μ' ∧ L = [own 3 1 v (sidesB X.g l r).length ((sidesB X.g l r).flatMap (icsk .i64)), X.A (zs.foldl X.step s0) μ', ro μ']) := by
  have hn := X.hn
  have hXn : X.n = X.g.length := rfl
  have hw0 : PW X.g l r X.g.length (stS l r) (fun _ => false) := PW.start hl hr
  generalize stS l r = st0 at *
  refine Spec.of 85 Tryd.func39 rfl rfl rfl ?_
  refine swp_seq ?_
  refine swp_region ?_
  refine s_pu (pu_assign rfl) ?_
  refine swl_sub _ (.cons (t := 0) rfl .nil) ?_
  refine swl_nil ?_
  refine then_n ?_
  refine swp_seq ?_
  refine swp_region ?_
  refine s_pu (pu_move rfl) ?_
  first | refine s_pu (pu_nilCheck rfl) ?_ | refine s_pu (pu_nilCheck_fn rfl) ?_ | refine s_pu (pu_nilCheck_if rfl) ?_
  first | refine s_pu (pu_fieldAddr0 rfl) ?_ | refine s_pu (pu_fieldAddr rfl) ?_
  refine s_rd (rd_load rfl rfl) ?_
  refine s_ef (ef_fn (new_m (X.n : Nat)) rfl rfl (by repeat (first | exact Split.nil | (apply Split.cons; (repeat (first | with_reducible exact Take.here | apply Take.there)))))) ?_
  rintro v15 L1 ⟨p3, rfl, rfl⟩
  refine swl_app ?_
  refine s_pu (pu_assign rfl) ?_
  refine swl_sub _ (.cons (t := 0) rfl (.cons (t := 3) rfl .nil)) ?_
  refine swl_nil ?_
  refine then_n ?_
  refine swp_seq ?_
  refine swp_region ?_
  refine s_pu (pu_move rfl) ?_
  first | refine s_pu (pu_nilCheck rfl) ?_ | refine s_pu (pu_nilCheck_fn rfl) ?_ | refine s_pu (pu_nilCheck_if rfl) ?_
  first | refine s_pu (pu_fieldAddr0 rfl) ?_ | refine s_pu (pu_fieldAddr rfl) ?_
  refine s_rd (rd_load rfl rfl) ?_
  refine s_ef (ef_fn (new_m (X.n : Nat)) rfl rfl (by repeat (first | exact Split.nil | (apply Split.cons; (repeat (first | with_reducible exact Take.here | apply Take.there)))))) ?_
  rintro v20 L1 ⟨p4, rfl, rfl⟩
  refine swl_app ?_
  refine s_pu (pu_assign rfl) ?_
  refine swl_sub _ (.cons (t := 0) rfl (.cons (t := 3) rfl (.cons (t := 4) rfl .nil))) ?_
  rw [clampM_id hn]
  refine swl_nil ?_
  refine then_n ?_
  refine swp_seq ?_
  refine swp_block ?_
  refine swp_sub _ (.cons (t := 0) rfl (.cons (t := 3) rfl (.cons (t := 4) rfl .nil))) ?_
  refine swp_ent (Split.ent' (K := [ptB p X.sv X.n mb q (frP st0), mpP mb st0.1, Bq.cq q st0.2 (seenP X.n st0.1), mset p3 X.n (fun _ => false), mset p4 X.n (fun _ => false), X.A s0 μ, ro μ]) (by repeat (first | exact Split.nil | (apply Split.cons; (repeat (first | with_reducible exact Take.here | apply Take.there)))))) ?_
  refine swp_loop (ι := Nat × PS × (Nat → Bool) × (Nat → Bool) × List Nat × PH) (fun k env L => Sub env [(0, .pointer (some ⟨p, 0, none⟩)), (3, .pointer (some ⟨p3, 0, none⟩)), (4, .pointer (some ⟨p4, 0, none⟩))]
    ∧ L = [ptB p X.sv X.n mb q (frP k.2.1), mpP mb k.2.1.1, Bq.cq q k.2.1.2 (seenP X.n k.2.1.1), mset p3 X.n k.2.2.1, mset p4 X.n k.2.2.2.1, X.A (k.2.2.2.2.1.foldl X.step s0) k.2.2.2.2.2, ro k.2.2.2.2.2]
    ∧ PW X.g l r k.1 k.2.1 k.2.2.1 ∧ (∀ j, j < k.1 → k.2.2.2.1 j = false) ∧ askedIn X.n k.2.2.2.2.1 ∧ (∀ y ∈ k.2.2.2.2.1, k.1 ≤ y) ∧ Le μ k.2.2.2.2.2) (fun k => k.1) (X.g.length, st0, fun _ => false, fun _ => false, [], μ) ⟨⟨rfl, rfl, rfl, trivial⟩, rfl, hw0, fun _ _ => rfl, ⟨List.nodup_nil, fun y hy => by cases hy⟩, fun y hy => (by cases hy), Le.refl _⟩ ?_
  rintro ⟨m, ⟨P, Q0⟩, F, D, ys, μ1⟩ env L ⟨hsub0, rfl, hW, hD, hask, hys, hle⟩
  dsimp only at hW hD hask hys hle ⊢
  refine swp_sub _ hsub0 ?_
  refine swp_seq ?_
  refine swp_seq ?_
  refine swp_region ?_
  refine s_pu (pu_move rfl) ?_
  first | refine s_pu (pu_nilCheck rfl) ?_ | refine s_pu (pu_nilCheck_fn rfl) ?_ | refine s_pu (pu_nilCheck_if rfl) ?_
  first | refine s_pu (pu_fieldAddr0 rfl) ?_ | refine s_pu (pu_fieldAddr rfl) ?_
  refine s_rd (rd_load rfl rfl) ?_
  refine s_pu (pu_gtr rfl rfl) ?_
  refine swl_sub _ (.cons (t := 0) rfl (.cons (t := 3) rfl (.cons (t := 4) rfl (.cons (t := 25) rfl .nil)))) ?_
  refine swl_nil ?_
  refine then_n ?_
  refine swp_cond (b := _) rfl (fun h25 => ?_) (fun h25 => ?_)
  · skip   -- 25 T
    have hpos : 0 < frP (P, Q0) := by have := of_decide_eq_true h25; omega
    obtain ⟨c, Q, hQ⟩ := frP_pos hpos
    dsimp only at hQ
    subst hQ
    obtain ⟨hI1, hPc, hcm, hW1⟩ := hW.step X.hg
    have hml := hW.le
    have hcn : c < X.g.length := by omega
    have hV : isV (P c) := hW.pi.val c
    have hql : (c :: Q).length ≤ m := falls_len hW.pi.falls hW.pi.lt
    have hpop := frP_pop (P := P) (c := c) (Q := Q)
    have hfb := frP_le hI1
    have hnw : newW X.n D (c : Int) = true := by
      unfold newW
      rw [Int.toNat_natCast, hD c hcm, decide_eq_true (show (0 : Int) ≤ c by omega), decide_eq_true (show (c : Int) < X.n by omega)]; rfl
    refine swp_skip ?_
    refine then_n ?_
    refine swp_block ?_
    refine swp_seq ?_
    refine swp_region ?_
    refine s_pu (pu_move rfl) ?_
    first | refine s_pu (pu_nilCheck rfl) ?_ | refine s_pu (pu_nilCheck_fn rfl) ?_ | refine s_pu (pu_nilCheck_if rfl) ?_
    first | refine s_pu (pu_fieldAddr0 rfl) ?_ | refine s_pu (pu_fieldAddr rfl) ?_
    refine s_rd (rd_load rfl rfl) ?_
    refine s_ef (ef_fn (Bq.pop_q q (seenP X.n P) c Q (by omega)) rfl rfl (by repeat (first | exact Split.nil | (apply Split.cons; (repeat (first | with_reducible exact Take.here | apply Take.there)))))) ?_
    rintro v31 L1 ⟨rfl, rfl⟩
    refine swl_app ?_
    refine s_pu (pu_move rfl) ?_
    first | refine s_pu (pu_extractL rfl) ?_ | refine s_pu (pu_extract rfl rfl) ?_
    first | refine s_pu (pu_extractL rfl) ?_ | refine s_pu (pu_extract rfl rfl) ?_
    refine s_pu (pu_assign rfl) ?_
    refine s_pu (pu_assign rfl) ?_
    refine swl_sub _ (.cons (t := 0) rfl (.cons (t := 3) rfl (.cons (t := 4) rfl (.cons (t := 5) rfl .nil)))) ?_
    refine swl_nil ?_
    refine then_n ?_
    refine swp_seq ?_
    refine swp_region ?_
    refine s_pu (pu_move rfl) ?_
    refine s_pu (pu_assign rfl) ?_
    refine swl_sub _ (.cons (t := 0) rfl (.cons (t := 3) rfl (.cons (t := 4) rfl (.cons (t := 7) rfl .nil)))) ?_
    refine swl_nil ?_
    refine then_n ?_
    refine swp_seq ?_
    refine swp_ent (Split.ent' (K := [mpP mb P, ptB p X.sv X.n mb q (frP (P, c :: Q)), Bq.cq q Q (seenP X.n P), mset p3 X.n F, mset p4 X.n D, X.A (ys.foldl X.step s0) μ1, ro μ1]) (by repeat (first | exact Split.nil | (apply Split.cons; (repeat (first | with_reducible exact Take.here | apply Take.there)))))) ?_
    refine swp_ex fun ⟨⟨ents, clk⟩, hents⟩ => ?_
    simp only [List.cons_append, List.nil_append]
    dsimp only at hents ⊢
    refine swp_region ?_
    refine s_pu (pu_move rfl) ?_
    first | refine s_pu (pu_nilCheck rfl) ?_ | refine s_pu (pu_nilCheck_fn rfl) ?_ | refine s_pu (pu_nilCheck_if rfl) ?_
    first | refine s_pu (pu_fieldAddr0 rfl) ?_ | refine s_pu (pu_fieldAddr rfl) ?_
    refine s_rd (rd_load rfl rfl) ?_
    refine s_pu (pu_move rfl) ?_
    refine s_rd (rd_pmap hents c rfl rfl) ?_
    refine s_pu (pu_assign rfl) ?_
    refine swl_sub _ (.cons (t := 0) rfl (.cons (t := 3) rfl (.cons (t := 4) rfl (.cons (t := 7) rfl (.cons (t := 8) rfl .nil))))) ?_
    refine swl_ent (mpP_close hents) ?_
    refine swl_nil ?_
    refine then_n ?_
    refine swp_seq ?_
    refine swp_seq ?_
    refine swp_region ?_
    refine s_pu (pu_move rfl) ?_
    refine s_pu (pu_move rfl) ?_
    refine s_ef (ef_fn (put_w p4 X.n D (c : Nat)) rfl rfl (by repeat (first | exact Split.nil | (apply Split.cons; (repeat (first | with_reducible exact Take.here | apply Take.there)))))) ?_
    rintro v43 L1 ⟨rfl, rfl⟩
    refine swl_app ?_
    rw [hnw, putS_f (show c < X.n from hcn)]
    refine s_pu (pu_not rfl) ?_
    refine swl_sub _ (.cons (t := 0) rfl (.cons (t := 3) rfl (.cons (t := 4) rfl (.cons (t := 7) rfl (.cons (t := 8) rfl (.cons (t := 44) rfl .nil)))))) ?_
    refine swl_nil ?_
    refine then_n ?_
    refine swp_cond (b := _) rfl (fun h44 => by cases h44) (fun h44 => ?_)
    refine swp_skip ?_
    refine then_n ?_
    refine swp_cut (fun env L => Sub env [(0, .pointer (some ⟨p, 0, none⟩)), (3, .pointer (some ⟨p3, 0, none⟩)), (4, .pointer (some ⟨p4, 0, none⟩)), (7, .int .i64 (c : Nat)), (8, .int .i64 (pOut (P c) : Nat))] ∧ Ent L [ptB p X.sv X.n mb q (frP (P, Q)), mpP mb P, Bq.cq q Q (seenP X.n P), mset p3 X.n (fun k => F k || (decide (P c = 3) && decide (k = c))), mset p4 X.n (fun j => D j || decide (j = c)), X.A (ys.foldl X.step s0) μ1, ro μ1]) ?_ ?_
    · skip
      refine swp_seq ?_
      refine swp_region ?_
      refine s_pu (pu_move rfl) ?_
      refine s_pu (pu_and_v 4 hV (by decide) rfl rfl) ?_
      refine s_pu (pu_four hV rfl rfl) ?_
      refine swl_sub _ (.cons (t := 0) rfl (.cons (t := 3) rfl (.cons (t := 4) rfl (.cons (t := 7) rfl (.cons (t := 8) rfl (.cons (t := 47) rfl .nil)))))) ?_
      refine swl_nil ?_
      refine then_n ?_
      refine swp_cond (b := _) rfl (fun h47 => ?_) (fun h47 => ?_)
      · skip   -- 47 T
        have h47' : P c < 4 := of_decide_eq_true h47
        rw [if_pos h47'] at hpop
        refine swp_seq ?_
        refine swp_region ?_
        refine s_pu (pu_move rfl) ?_
        first | refine s_pu (pu_nilCheck rfl) ?_ | refine s_pu (pu_nilCheck_fn rfl) ?_ | refine s_pu (pu_nilCheck_if rfl) ?_
        first | refine s_pu (pu_fieldAddr0 rfl) ?_ | refine s_pu (pu_fieldAddr rfl) ?_
        refine s_rd (rd_load rfl rfl) ?_
        refine s_pu (pu_sub_as ((frP (P, Q) : Nat) : Int) rfl rfl (by omega) (by omega) (by omega)) ?_
        first | refine s_pu (pu_nilCheck rfl) ?_ | refine s_pu (pu_nilCheck_fn rfl) ?_ | refine s_pu (pu_nilCheck_if rfl) ?_
        first | refine s_pu (pu_fieldAddr0 rfl) ?_ | refine s_pu (pu_fieldAddr rfl) ?_
        refine s_ef0 (ef_store rfl rfl rfl) ?_
        refine swl_sub _ (.cons (t := 0) rfl (.cons (t := 3) rfl (.cons (t := 4) rfl (.cons (t := 7) rfl (.cons (t := 8) rfl .nil))))) ?_
        refine swl_nil ?_
        refine then_n ?_
        refine swp_seq ?_
        refine swp_region ?_
        refine s_pu (pu_move rfl) ?_
        refine s_pu (pu_and_v 3 hV (by decide) rfl rfl) ?_
        refine s_pu (pu_three hV h47' rfl rfl) ?_
        refine swl_sub _ (.cons (t := 0) rfl (.cons (t := 3) rfl (.cons (t := 4) rfl (.cons (t := 7) rfl (.cons (t := 8) rfl (.cons (t := 57) rfl .nil)))))) ?_
        refine swl_nil ?_
        refine then_n ?_
        refine swp_cond (b := _) rfl (fun h57 => ?_) (fun h57 => ?_)
        · skip   -- 57 T
          have h57' : P c = 3 := of_decide_eq_true h57
          refine swp_seq ?_
          refine swp_region ?_
          refine s_pu (pu_move rfl) ?_
          refine s_pu (pu_move rfl) ?_
          refine s_ef (ef_fn (put_w p3 X.n F (c : Nat)) rfl rfl (by repeat (first | exact Split.nil | (apply Split.cons; (repeat (first | with_reducible exact Take.here | apply Take.there)))))) ?_
          rintro v60 L1 ⟨rfl, rfl⟩
          refine swl_app ?_
          refine swl_sub _ (.cons (t := 0) rfl (.cons (t := 3) rfl (.cons (t := 4) rfl (.cons (t := 7) rfl (.cons (t := 8) rfl .nil))))) ?_
          refine swl_nil ?_
          refine then_n ?_
          refine swp_region ?_
          refine s_pu (pu_move rfl) ?_
          refine s_pu (pu_or_v hV (by decide) rfl rfl) ?_
          refine s_pu (pu_assign rfl) ?_
          refine swl_sub _ (.cons (t := 0) rfl (.cons (t := 3) rfl (.cons (t := 4) rfl (.cons (t := 7) rfl (.cons (t := 8) rfl .nil))))) ?_
          refine swl_nil ?_
          refine then_n ⟨⟨rfl, rfl, rfl, rfl, by rw [h57']; rfl, trivial⟩, ?_⟩
          rw [putS_f (show c < X.n from hcn), show (fun k => F k || (decide (P c = 3) && decide (k = c))) = fun k => F k || decide (k = c) by rw [h57']; rfl]
          exact Split.ent' (by repeat (first | exact Split.nil | (apply Split.cons; (repeat (first | with_reducible exact Take.here | apply Take.there)))))
        · skip   -- 57 F
          have h57' : ¬ P c = 3 := of_decide_eq_false h57
          refine swp_skip ?_
          refine then_n ⟨⟨rfl, rfl, rfl, rfl, by unfold pOut; rw [if_neg h57']; rfl, trivial⟩, ?_⟩
          rw [show (fun k => F k || (decide (P c = 3) && decide (k = c))) = F by funext k; rw [decide_eq_false h57']; simp]
          exact Split.ent' (by repeat (first | exact Split.nil | (apply Split.cons; (repeat (first | with_reducible exact Take.here | apply Take.there)))))
      · skip   -- 47 F
        have h47' : ¬ P c < 4 := of_decide_eq_false h47
        rw [if_neg h47', Nat.add_zero] at hpop
        have h57' : ¬ P c = 3 := by omega
        refine swp_skip ?_
        refine then_n ⟨⟨rfl, rfl, rfl, rfl, by unfold pOut; rw [if_neg h57']; rfl, trivial⟩, ?_⟩
        rw [hpop, show (fun k => F k || (decide (P c = 3) && decide (k = c))) = F by funext k; rw [decide_eq_false h57']; simp]
        exact Split.ent' (by repeat (first | exact Split.nil | (apply Split.cons; (repeat (first | with_reducible exact Take.here | apply Take.there)))))
    rintro env L ⟨hsub, hL8⟩
    refine swp_sub _ hsub ?_
    refine swp_ent hL8 ?_
    have hcy : c ∉ ys := fun h => by have := hys c h; omega
    have hvo : isV (pOut (P c)) := hV.out
    have hvn := pOut_ne hPc
    generalize hv : pOut (P c) = v at *
    generalize hF' : (fun k => F k || (decide (P c = 3) && decide (k = c))) = F' at *
    have hD' : ∀ j, j < c → (fun j => D j || decide (j = c)) j = false := fun j hj => by
      show (D j || decide (j = c)) = false
      rw [hD j (by omega), decide_eq_false (by omega)]; rfl
    generalize (fun j => D j || decide (j = c)) = D' at *
    refine swp_seq ?_
    refine swp_region ?_
    refine s_pu (pu_move rfl) ?_
    first | refine s_pu (pu_nilCheck rfl) ?_ | refine s_pu (pu_nilCheck_fn rfl) ?_ | refine s_pu (pu_nilCheck_if rfl) ?_
    first | refine s_pu (pu_fieldAddr0 rfl) ?_ | refine s_pu (pu_fieldAddr rfl) ?_
    refine s_rd (rd_load rfl rfl) ?_
    refine s_pu (pu_move rfl) ?_
    refine s_ef (ef_invS rfl X.hd (X.parents (ys.foldl X.step s0) μ1 c (h0.trans hle) hcn (hf ys c hask.1 hcy (fun y hy => hask.2 y hy) hcn)) rfl (by repeat (first | exact Split.nil | (apply Split.cons; (repeat (first | with_reducible exact Take.here | apply Take.there)))))) ?_
    rintro v68 L1 ⟨μ3, hμ3, hrw, rfl⟩
    refine swl_app ?_
    refine s_pu (pu_len_row hrw rfl) ?_
    refine s_pu (pu_move rfl) ?_
    refine swl_sub _ (.cons (t := 0) rfl (.cons (t := 3) rfl (.cons (t := 4) rfl (.cons (t := 8) rfl (.cons (t := 68) rfl (.cons (t := 69) rfl (.cons (t := 70) rfl .nil))))))) ?_
    refine swl_nil ?_
    refine then_n ?_
    refine swp_block ?_
    refine swp_sub _ (.cons (t := 0) rfl (.cons (t := 3) rfl (.cons (t := 4) rfl (.cons (t := 8) rfl (.cons (t := 68) rfl (.cons (t := 69) rfl (.cons (t := 70) rfl .nil))))))) ?_
    refine swp_ent (Split.ent' (K := [ptB p X.sv X.n mb q (frP (P, Q)), mpP mb P, Bq.cq q Q (seenP X.n P), mset p3 X.n F', mset p4 X.n D', X.A (X.step (ys.foldl X.step s0) c) μ3, ro μ3]) (by repeat (first | exact Split.nil | (apply Split.cons; (repeat (first | with_reducible exact Take.here | apply Take.there)))))) ?_
    refine swp_loop (ι := Nat) (fun i env L => env = [(0, .pointer (some ⟨p, 0, none⟩)), (3, .pointer (some ⟨p3, 0, none⟩)), (4, .pointer (some ⟨p4, 0, none⟩)), (8, .int .i64 (v : Nat)), (68, v68), (69, .int .i64 ((rowOf X.g c).length : Nat)), (70, .int .i64 (i : Nat))]
      ∧ L = [ptB p X.sv X.n mb q (frP (addRow v (P, Q) ((rowOf X.g c).take i))), mpP mb (addRow v (P, Q) ((rowOf X.g c).take i)).1, Bq.cq q (addRow v (P, Q) ((rowOf X.g c).take i)).2 (seenP X.n (addRow v (P, Q) ((rowOf X.g c).take i)).1), mset p3 X.n F', mset p4 X.n D', X.A (X.step (ys.foldl X.step s0) c) μ3, ro μ3] ∧ i ≤ (rowOf X.g c).length) (fun i => (rowOf X.g c).length - i) 0 ⟨rfl, rfl, Nat.zero_le _⟩ ?_
    rintro i env L ⟨rfl, rfl, hi⟩
    refine swp_seq ?_
    have hrs := hrw.small
    have hrg : ∀ u ∈ rowOf X.g c, 0 ≤ u ∧ u < c := fun u hu => ⟨(row_good X.hg hu).1, (row_good X.hg hu).2.1⟩
    refine swp_region ?_
    refine s_pu (pu_lss rfl rfl) ?_
    refine swl_sub _ (.cons (t := 0) rfl (.cons (t := 3) rfl (.cons (t := 4) rfl (.cons (t := 8) rfl (.cons (t := 68) rfl (.cons (t := 69) rfl (.cons (t := 70) rfl (.cons (t := 71) rfl .nil)))))))) ?_
    refine swl_nil ?_
    refine then_n ?_
    refine swp_seq ?_
    refine swp_cond (b := _) rfl (fun h71 => ?_) (fun h71 => ?_)
    · skip   -- 71 T
      have h71' : i < (rowOf X.g c).length := by have := of_decide_eq_true h71; omega
      obtain ⟨u, hu⟩ : ∃ u, (rowOf X.g c)[i]? = some u := ⟨_, List.getElem?_eq_getElem h71'⟩
      obtain ⟨pb, po, pc, hpv, hpc⟩ := hrw.at_ hu
      have hur := hrg u (List.mem_of_getElem? hu)
      obtain ⟨u, rfl⟩ : ∃ k : Nat, u = k := ⟨u.toNat, by omega⟩
      have hsu := addRow_succ (v := v) (s := (P, Q)) hu
      rw [Int.toNat_natCast] at hsu
      obtain ⟨hIi, _⟩ := PI.addRow (v := v) (show c ≤ X.g.length by omega) hvo hvn hI1 (l := (rowOf X.g c).take i) (fun w hw => hrg w (List.mem_of_mem_take hw))
      have hDu := hD' u (by omega)
      generalize addRow v (P, Q) ((rowOf X.g c).take i) = si at *
      refine swp_skip ?_
      refine then_n ?_
      refine swp_seq ?_
      refine swp_block ?_
      refine swp_seq ?_
      refine swp_region ?_
      refine s_pu (pu_indexAddr (po + i * 1) (congrArg some hpv) rfl (by omega) (by omega) (by rw [Int.toNat_natCast])) ?_
      refine s_rd (rd_ro rfl hpc) ?_
      refine s_pu (pu_assign rfl) ?_
      refine swl_sub _ (.cons (t := 0) rfl (.cons (t := 3) rfl (.cons (t := 4) rfl (.cons (t := 8) rfl (.cons (t := 10) rfl (.cons (t := 68) rfl (.cons (t := 69) rfl (.cons (t := 70) rfl .nil)))))))) ?_
      refine swl_nil ?_
      refine then_n ?_
      refine swp_seq ?_
      refine swp_region ?_
      refine s_pu (pu_move rfl) ?_
      refine s_pu (pu_move rfl) ?_
      refine s_ef (ef_fn (has_w p4 X.n D' u) rfl rfl (by repeat (first | exact Split.nil | (apply Split.cons; (repeat (first | with_reducible exact Take.here | apply Take.there)))))) ?_
      rintro v76 L1 ⟨rfl, rfl⟩
      refine swl_app ?_
      rw [hDu]
      refine s_pu (pu_not rfl) ?_
      refine swl_sub _ (.cons (t := 0) rfl (.cons (t := 3) rfl (.cons (t := 4) rfl (.cons (t := 8) rfl (.cons (t := 10) rfl (.cons (t := 68) rfl (.cons (t := 69) rfl (.cons (t := 70) rfl (.cons (t := 77) rfl .nil))))))))) ?_
      refine swl_nil ?_
      refine then_n ?_
      refine swp_cond (b := _) rfl (fun h77 => ?_) (fun h77 => by cases h77)
      refine swp_region ?_
      refine s_pu (pu_move rfl) ?_
      refine s_pu (pu_move rfl) ?_
      refine s_pu (pu_move rfl) ?_
      refine s_ef (ef_fn (padd_spec p X.n c mb q X.sv si u v hn hIi (by omega) (by omega) hvo hvn) rfl rfl (by repeat (first | exact Split.nil | (apply Split.cons; (repeat (first | with_reducible exact Take.here | apply Take.there)))))) ?_
      rintro v81 L1 ⟨rfl, rfl⟩
      refine swl_app ?_
      refine swl_sub _ (.cons (t := 0) rfl (.cons (t := 3) rfl (.cons (t := 4) rfl (.cons (t := 8) rfl (.cons (t := 68) rfl (.cons (t := 69) rfl (.cons (t := 70) rfl .nil))))))) ?_
      refine swl_nil ?_
      refine block_n ?_
      refine then_n ?_
      refine swp_region ?_
      refine s_pu (pu_add_as ((i + 1 : Nat) : Int) rfl rfl (by omega) (by omega) (by omega)) ?_
      refine s_pu (pu_move rfl) ?_
      refine swl_sub _ (.cons (t := 0) rfl (.cons (t := 3) rfl (.cons (t := 4) rfl (.cons (t := 8) rfl (.cons (t := 68) rfl (.cons (t := 69) rfl (.cons (t := 70) rfl .nil))))))) ?_
      refine swl_ent (Split.ent' (K := [ptB p X.sv X.n mb q (frP (addP si u v)), mpP mb (addP si u v).1, Bq.cq q (addP si u v).2 (seenP X.n (addP si u v).1), mset p3 X.n F', mset p4 X.n D', X.A (X.step (ys.foldl X.step s0) c) μ3, ro μ3]) (by repeat (first | exact Split.nil | (apply Split.cons; (repeat (first | with_reducible exact Take.here | apply Take.there)))))) ?_
      refine swl_nil ?_
      exact then_n ⟨i + 1, ⟨rfl, by rw [hsu], h71'⟩, by omega⟩
    · skip   -- 71 F
      have h71' := of_decide_eq_false h71
      obtain rfl : i = (rowOf X.g c).length := by omega
      rw [List.take_length]
      refine swp_exit ?_
      refine then_x ?_
      refine then_x ?_
      refine block_hit rfl ?_
      refine block_n ?_
      refine then_n ⟨(c, addRow v (P, Q) (rowOf X.g c), F', D', ys ++ [c], μ3), ⟨⟨rfl, rfl, rfl, trivial⟩, ?_, hW1, hD', ⟨?_, ?_⟩, ?_, hle.trans hμ3⟩, hcm⟩
      · rw [List.foldl_append]; rfl
      · rw [List.nodup_append]
        exact ⟨hask.1, by simp, fun a ha b hb e => by obtain rfl := List.mem_singleton.1 hb; subst e; exact hcy ha⟩
      · intro y hy
        rcases List.mem_append.1 hy with hy | hy
        · exact hask.2 y hy
        · obtain rfl := List.mem_singleton.1 hy; exact hcn
      · intro y hy
        rcases List.mem_append.1 hy with hy | hy
        · have := hys y hy; show c ≤ y; omega
        · obtain rfl := List.mem_singleton.1 hy; exact Nat.le_refl _
  · skip   -- 25 F
    have hz : frP (P, Q0) = 0 := by have := of_decide_eq_false h25; omega
    have hFe : F = bestT X.g (bothS X.g l r) X.g.length := funext (hW.done X.hg hz)
    subst hFe
    refine swp_exit ?_
    refine then_x ?_
    refine then_x ?_
    refine block_hit rfl ?_
    refine then_n ?_
    refine swp_seq ?_
    refine swp_region ?_
    refine s_pu (pu_move rfl) ?_
    refine s_ef (ef_fn (list_m μ1 p3 X.n (bestT X.g (bothS X.g l r) X.g.length) (hT.le hle)) rfl rfl (by repeat (first | exact Split.nil | (apply Split.cons; (repeat (first | with_reducible exact Take.here | apply Take.there)))))) ?_
    rintro v84 L1 rfl
    refine swl_app ?_
    rw [show elsTo X.n (bestT X.g (bothS X.g l r) X.g.length) = sidesB X.g l r from rfl]
    refine s_pu (pu_assign rfl) ?_
    refine swl_sub _ (.cons (t := 2) rfl .nil) ?_
    refine swl_nil ?_
    refine then_n ?_
    refine swp_ret ?_
    exact done_ret [own 3 1 v84 (sidesB X.g l r).length ((sidesB X.g l r).flatMap (icsk .i64)), X.A (ys.foldl X.step s0) μ1, ro μ1] (.tmp rfl .nil) ⟨ys, μ1, hask, hle, rfl⟩ (by repeat (first | exact Split.nil | (apply Split.cons; (repeat (first | with_reducible exact Take.here | apply Take.there)))))
end SX
namespace SX
open Go Go.Proofs

theorem bcommits_spec (X : Src) (s : X.σ) (μ : PH) : Spec Tryd.prog 36 [X.sv] [X.A s μ] (fun r L => r = .int .i64 (X.n : Nat) ∧ L = [X.A s μ]) := by
  have hn := X.hn
  refine Spec.of 7 Tryd.func36 rfl rfl rfl ?_
  refine swp_seq ?_
  refine swp_region ?_
  refine s_pu (pu_assign rfl) ?_
  refine swl_sub _ (.cons (t := 0) rfl .nil) ?_
  refine swl_nil ?_
  refine then_n ?_
  refine swp_seq ?_
  refine swp_region ?_
  refine s_pu (pu_move rfl) ?_
  refine s_ef (ef_invS rfl X.hd (X.commits s μ) rfl (by repeat (first | exact Split.nil | (apply Split.cons; (repeat (first | with_reducible exact Take.here | apply Take.there)))))) ?_
  rintro v4 L1 ⟨rfl, rfl⟩
  refine swl_app ?_
  refine s_pu (pu_max2 rfl rfl) ?_
  refine s_pu (pu_min2 rfl rfl) ?_
  refine s_pu (pu_assign rfl) ?_
  refine swl_sub _ (.cons (t := 2) rfl .nil) ?_
  refine swl_nil ?_
  refine then_n ?_
  refine swp_ret ?_
  exact done_ret [X.A s μ] (.tmp rfl .nil) ⟨by show Value.int .i64 _ = _; rw [show min (max (X.g.length : Int) 0) 65536 = (X.g.length : Int) by omega], rfl⟩ (by repeat (first | exact Split.nil | (apply Split.cons; (repeat (first | with_reducible exact Take.here | apply Take.there)))))
set_option maxHeartbeats 1000000 in
theorem basked_spec (X : Src) (s : X.σ) (μ : PH) (lv : Value) (G : List (Value × List Int)) (hG : Graph μ lv G) : Spec Tryd.prog 35 [X.sv, lv] [X.A s μ, ro μ] (fun r L => r = .int .i64 (askedE X.n (nums G)) ∧ L = [X.A s μ, ro μ]) := by
  have hsm := hG.1.small
  refine Spec.of 33 Tryd.func35 rfl rfl rfl ?_
  refine swp_seq ?_
  refine swp_region ?_
  refine s_pu (pu_assign rfl) ?_
  refine swl_sub _ (.cons (t := 0) rfl (.cons (t := 1) rfl .nil)) ?_
  refine swl_nil ?_
  refine then_n ?_
  refine swp_seq ?_
  refine swp_seq ?_
  refine swp_region ?_
  refine s_pu (pu_move rfl) ?_
  refine s_pu (pu_if_eq_nil rfl rfl) ?_
  refine swl_sub _ (.cons (t := 0) rfl (.cons (t := 1) rfl (.cons (t := 10) rfl .nil))) ?_
  refine swl_nil ?_
  refine then_n ?_
  refine swp_cond (b := _) rfl (fun h10 => by cases h10) (fun h10 => ?_)
  refine swp_skip ?_
  refine then_n ?_
  refine swp_seq ?_
  refine swp_seq ?_
  refine swp_region ?_
  refine s_pu (pu_move rfl) ?_
  refine s_pu (pu_len_row hG.1 rfl) ?_
  refine s_pu (pu_move rfl) ?_
  refine swl_sub _ (.cons (t := 0) rfl (.cons (t := 11) rfl (.cons (t := 12) rfl (.cons (t := 13) rfl .nil)))) ?_
  refine swl_nil ?_
  refine then_n ?_
  refine swp_block ?_
  refine swp_loop (ι := Nat) (fun i env L => env = [(0, X.sv), (11, lv), (12, .int .i64 (G.length : Nat)), (13, .int .i64 (i : Nat))] ∧ L = [X.A s μ, ro μ] ∧ i ≤ G.length ∧ ((nums G).take i).all (fun l => l.all (inR X.n)) = true) (fun i => G.length - i) 0 ⟨rfl, rfl, Nat.zero_le _, rfl⟩ ?_
  rintro i env L ⟨rfl, rfl, hi, hall⟩
  refine swp_seq ?_
  refine swp_region ?_
  refine s_pu (pu_lss rfl rfl) ?_
  refine swl_sub _ (.cons (t := 0) rfl (.cons (t := 11) rfl (.cons (t := 12) rfl (.cons (t := 13) rfl (.cons (t := 14) rfl .nil))))) ?_
  refine swl_nil ?_
  refine then_n ?_
  refine swp_seq ?_
  refine swp_cond (b := _) rfl (fun h14 => ?_) (fun h14 => ?_)
  · skip   -- 14 T
    have h14' : i < G.length := by have := of_decide_eq_true h14; omega
    obtain ⟨gb, off, cap, x, hv, hx, hxc, hxr, hnx⟩ := row_at hG h14'
    have hsx := hxr.small
    refine swp_skip ?_
    refine then_n ?_
    refine swp_seq ?_
    refine swp_block ?_
    refine swp_seq ?_
    refine swp_region ?_
    refine s_pu (pu_indexAddr (off + i * 1) (congrArg some hv) rfl (by omega) (by omega) (by rw [Int.toNat_natCast])) ?_
    refine s_rd (rd_ro rfl hxc) ?_
    refine s_pu (pu_assign rfl) ?_
    refine swl_sub _ (.cons (t := 0) rfl (.cons (t := 6) rfl (.cons (t := 11) rfl (.cons (t := 12) rfl (.cons (t := 13) rfl .nil))))) ?_
    refine swl_nil ?_
    refine then_n ?_
    refine swp_seq ?_
    refine swp_region ?_
    refine s_pu (pu_move rfl) ?_
    refine s_pu (pu_len_row hxr rfl) ?_
    refine s_pu (pu_move rfl) ?_
    refine swl_sub _ (.cons (t := 0) rfl (.cons (t := 11) rfl (.cons (t := 12) rfl (.cons (t := 13) rfl (.cons (t := 17) rfl (.cons (t := 18) rfl (.cons (t := 19) rfl .nil))))))) ?_
    refine swl_nil ?_
    refine then_n ?_
    refine swp_block ?_
    refine swp_loop (ι := Nat) (fun j env L => env = [(0, X.sv), (11, lv), (12, .int .i64 (G.length : Nat)), (13, .int .i64 (i : Nat)), (17, x.1), (18, .int .i64 (x.2.length : Nat)), (19, .int .i64 (j : Nat))] ∧ L = [X.A s μ, ro μ] ∧ j ≤ x.2.length ∧ (x.2.take j).all (inR X.n) = true) (fun j => x.2.length - j) 0 ⟨rfl, rfl, Nat.zero_le _, rfl⟩ ?_
    rintro j env L ⟨rfl, rfl, hj, hin⟩
    refine swp_seq ?_
    refine swp_region ?_
    refine s_pu (pu_lss rfl rfl) ?_
    refine swl_sub _ (.cons (t := 0) rfl (.cons (t := 11) rfl (.cons (t := 12) rfl (.cons (t := 13) rfl (.cons (t := 17) rfl (.cons (t := 18) rfl (.cons (t := 19) rfl (.cons (t := 20) rfl .nil)))))))) ?_
    refine swl_nil ?_
    refine then_n ?_
    refine swp_seq ?_
    refine swp_cond (b := _) rfl (fun h20 => ?_) (fun h20 => ?_)
    · skip   -- 20 T
      have h20' : j < x.2.length := by have := of_decide_eq_true h20; omega
      obtain ⟨c, hc⟩ : ∃ c, x.2[j]? = some c := ⟨_, List.getElem?_eq_getElem h20'⟩
      obtain ⟨pb, po, pc, hpv, hpc⟩ := hxr.at_ hc
      have hbad : inR X.n c = false → (nums G).all (fun l => l.all (inR X.n)) = false := fun h => by
        rw [List.all_eq_false]
        refine ⟨x.2, List.mem_of_getElem? hnx, ?_⟩
        rw [List.all_eq_true]
        intro h2
        rw [h2 c (List.mem_of_getElem? hc)] at h; cases h
      refine swp_skip ?_
      refine then_n ?_
      refine swp_seq ?_
      refine swp_block ?_
      refine swp_seq ?_
      refine swp_region ?_
      refine s_pu (pu_indexAddr (po + j * 1) (congrArg some hpv) rfl (by omega) (by omega) (by rw [Int.toNat_natCast])) ?_
      refine s_rd (rd_ro rfl hpc) ?_
      refine s_pu (pu_assign rfl) ?_
      refine swl_sub _ (.cons (t := 0) rfl (.cons (t := 8) rfl (.cons (t := 11) rfl (.cons (t := 12) rfl (.cons (t := 13) rfl (.cons (t := 17) rfl (.cons (t := 18) rfl (.cons (t := 19) rfl .nil)))))))) ?_
      refine swl_nil ?_
      refine then_n ?_
      refine swp_seq ?_
      refine swp_region ?_
      refine s_pu (pu_move rfl) ?_
      refine s_pu (pu_lss rfl rfl) ?_
      refine s_pu (pu_move rfl) ?_
      refine s_split 25 rfl (fun h25 => ?_) (fun h25 => ?_)
      · skip   -- 25 T
        refine s_off rfl rfl rfl ?_
        refine s_off rfl rfl rfl ?_
        refine s_off rfl rfl rfl ?_
        refine s_off rfl rfl rfl ?_
        first | refine s_pu (pu_pick_t rfl rfl) ?_ | refine s_pu (pu_pick_f rfl rfl) ?_
        refine swl_sub _ (.cons (t := 0) rfl (.cons (t := 11) rfl (.cons (t := 12) rfl (.cons (t := 13) rfl (.cons (t := 17) rfl (.cons (t := 18) rfl (.cons (t := 19) rfl (.cons (t := 30) rfl .nil)))))))) ?_
        refine swl_nil ?_
        refine then_n ?_
        refine swp_cond (b := _) rfl (fun h30 => ?_) (fun h30 => by cases h30)
        refine swp_seq ?_
        refine swp_region ?_
        refine s_pu (pu_assign rfl) ?_
        refine swl_sub _ (.cons (t := 4) rfl .nil) ?_
        refine swl_nil ?_
        refine then_n ?_
        refine swp_ret ?_
        refine block_r ?_
        refine then_r ?_
        refine then_r ?_
        refine block_r ?_
        refine block_r ?_
        refine then_r ?_
        refine then_r ?_
        refine block_r ?_
        refine then_r ?_
        have h25' := of_decide_eq_true h25
        refine done_ret [X.A s μ, ro μ] (.tmp rfl .nil) ⟨?_, rfl⟩ (by repeat (first | exact Split.nil | (apply Split.cons; (repeat (first | with_reducible exact Take.here | apply Take.there)))))
        unfold askedE
        rw [if_neg (by rw [hbad (by unfold inR; rw [decide_eq_false (by omega)]; rfl)]; exact Bool.false_ne_true)]; rfl
      · skip   -- 25 F
        refine s_on rfl rfl ?_
        refine s_pu (pu_move rfl) ?_
        refine s_on rfl rfl ?_
        refine s_pu (pu_move rfl) ?_
        refine s_on rfl rfl ?_
        refine s_ef (ef_fn (bcommits_spec X s μ) rfl rfl (by repeat (first | exact Split.nil | (apply Split.cons; (repeat (first | with_reducible exact Take.here | apply Take.there)))))) ?_
        rintro v28 L1 ⟨rfl, rfl⟩
        refine swl_app ?_
        refine s_on rfl rfl ?_
        refine s_pu (pu_geq rfl rfl) ?_
        first | refine s_pu (pu_pick_t rfl rfl) ?_ | refine s_pu (pu_pick_f rfl rfl) ?_
        refine swl_sub _ (.cons (t := 0) rfl (.cons (t := 11) rfl (.cons (t := 12) rfl (.cons (t := 13) rfl (.cons (t := 17) rfl (.cons (t := 18) rfl (.cons (t := 19) rfl (.cons (t := 30) rfl .nil)))))))) ?_
        refine swl_nil ?_
        refine then_n ?_
        refine swp_cond (b := _) rfl (fun h30 => ?_) (fun h30 => ?_)
        · skip   -- 30 T
          refine swp_seq ?_
          refine swp_region ?_
          refine s_pu (pu_assign rfl) ?_
          refine swl_sub _ (.cons (t := 4) rfl .nil) ?_
          refine swl_nil ?_
          refine then_n ?_
          refine swp_ret ?_
          refine block_r ?_
          refine then_r ?_
          refine then_r ?_
          refine block_r ?_
          refine block_r ?_
          refine then_r ?_
          refine then_r ?_
          refine block_r ?_
          refine then_r ?_
          have h30' := of_decide_eq_true h30
          refine done_ret [X.A s μ, ro μ] (.tmp rfl .nil) ⟨?_, rfl⟩ (by repeat (first | exact Split.nil | (apply Split.cons; (repeat (first | with_reducible exact Take.here | apply Take.there)))))
          unfold askedE
          rw [if_neg (by rw [hbad (by unfold inR; rw [decide_eq_false (p := c < (X.n : Int)) (by omega), Bool.and_false])]; exact Bool.false_ne_true)]; rfl
        · skip   -- 30 F
          refine swp_skip ?_
          refine block_n ?_
          refine then_n ?_
          refine swp_region ?_
          refine s_pu (pu_add_as ((j + 1 : Nat) : Int) rfl rfl (by omega) (by omega) (by omega)) ?_
          refine s_pu (pu_move rfl) ?_
          refine swl_sub _ (.cons (t := 0) rfl (.cons (t := 11) rfl (.cons (t := 12) rfl (.cons (t := 13) rfl (.cons (t := 17) rfl (.cons (t := 18) rfl (.cons (t := 19) rfl .nil))))))) ?_
          refine swl_nil ?_
          have h25' := of_decide_eq_false h25
          have h30' := of_decide_eq_false h30
          refine then_n ⟨j + 1, ⟨rfl, rfl, h20', ?_⟩, by omega⟩
          rw [List.take_add_one, hc, List.all_append, hin]
          show (true && ([c].all _)) = true
          simp only [List.all_cons, List.all_nil, Bool.and_true, Bool.true_and]
          unfold inR
          rw [decide_eq_true (show 0 ≤ c by omega), decide_eq_true (show c < (X.n : Int) by omega)]; rfl
    · skip   -- 20 F
      have h20' := of_decide_eq_false h20
      obtain rfl : j = x.2.length := by omega
      rw [List.take_length] at hin
      refine swp_exit ?_
      refine then_x ?_
      refine then_x ?_
      refine block_hit rfl ?_
      refine block_n ?_
      refine then_n ?_
      refine swp_region ?_
      refine s_pu (pu_add_as ((i + 1 : Nat) : Int) rfl rfl (by omega) (by omega) (by omega)) ?_
      refine s_pu (pu_move rfl) ?_
      refine swl_sub _ (.cons (t := 0) rfl (.cons (t := 11) rfl (.cons (t := 12) rfl (.cons (t := 13) rfl .nil)))) ?_
      refine swl_nil ?_
      refine then_n ⟨i + 1, ⟨rfl, rfl, h14', ?_⟩, by omega⟩
      rw [List.take_add_one, hnx, List.all_append, hall]
      show (true && ([x.2].all _)) = true
      simp only [List.all_cons, List.all_nil, Bool.and_true, Bool.true_and]
      exact hin
  · skip   -- 14 F
    have h14' := of_decide_eq_false h14
    obtain rfl : i = G.length := by omega
    refine swp_exit ?_
    refine then_x ?_
    refine then_x ?_
    refine block_hit rfl ?_
    refine then_n ?_
    refine swp_seq ?_
    refine swp_region ?_
    refine s_pu (pu_assign rfl) ?_
    refine swl_sub _ (.cons (t := 4) rfl .nil) ?_
    refine swl_nil ?_
    refine then_n ?_
    refine swp_ret ?_
    refine done_ret [X.A s μ, ro μ] (.tmp rfl .nil) ⟨?_, rfl⟩ (by repeat (first | exact Split.nil | (apply Split.cons; (repeat (first | with_reducible exact Take.here | apply Take.there)))))
    rw [List.take_of_length_le (by rw [List.length_map]; exact Nat.le_refl _)] at hall
    unfold askedE
    rw [if_pos hall]; rfl
/-- the bases of two sides, or why not -/
def sidesA (g : List (List Int)) (xs ys : List Int) : List Int := if onlyE g xs ys = 0 then sidesB g xs ys else []
set_option maxHeartbeats 4000000 in
theorem sides_spec (X : Src) (s0 : X.σ) (μ : PH) (v u : Value) (xs ys : List Int) (hT : RowAt μ 1 0 tabV) (hv : Row μ v 1 xs.length (xs.flatMap (icsk .i64))) (hu : Row μ u 1 ys.length (ys.flatMap (icsk .i64))) (h0 : Le X.μ0 μ) (hf : X.fine s0) :
    Spec Tryd.prog 26 [X.sv, v, u] [X.A s0 μ, ro μ] (fun r L => ∃ lv zs μ', askedIn X.n zs ∧ Le μ μ' ∧ r = .tuple #[lv, .int .i64 (onlyE X.g xs ys)] ∧ L = [own 3 1 lv (sidesA X.g xs ys).length ((sidesA X.g xs ys).flatMap (icsk .i64)), X.A (zs.foldl X.step s0) μ', ro μ']) := by
  have hn := X.hn
  have hXn : X.n = X.g.length := rfl
  have hvs := hv.small
  have hus := hu.small
  obtain ⟨A1, c1, rfl⟩ := hv.sl
  obtain ⟨A2, c2, rfl⟩ := hu.sl
  refine Spec.of 51 Tryd.func26 rfl rfl rfl ?_
  refine swp_seq ?_
  refine swp_region ?_
  refine s_pu (pu_assign rfl) ?_
  refine s_pu (pu_assign rfl) ?_
  refine swl_sub _ (.cons (t := 0) rfl (.cons (t := 1) rfl (.cons (t := 2) rfl .nil))) ?_
  refine swl_nil ?_
  refine then_n ?_
  refine swp_seq ?_
  refine swp_seq ?_
  refine swp_region ?_
  refine s_pu (pu_move rfl) ?_
  refine s_pu (pu_move rfl) ?_
  refine s_pu (pu_move rfl) ?_
  refine s_ef (ef_bldS (qs := [(0, _), (1, _)]) rfl rfl rfl) ?_
  intro b17
  refine swl_share (b := b17) (μ := μ) (by repeat (first | exact Split.nil | (apply Split.cons; (repeat (first | with_reducible exact Take.here | apply Take.there))))) fun μ1 h1 k1 => ?_
  refine swl_ent (X.up (s := s0) h1 (by repeat (first | exact Split.nil | (apply Split.cons; (repeat (first | with_reducible exact Take.here | apply Take.there)))))) ?_
  have hG : Graph μ1 (.slice (some ⟨b17, 0, none⟩) 2 2) [(.slice A1 xs.length c1, xs), (.slice A2 ys.length c2, ys)] := ⟨row_of_blk k1 (by rfl) (by decide), fun x hx => by
    rcases List.mem_cons.1 hx with rfl | hx
    · exact hv.le h1
    · obtain rfl := List.mem_singleton.1 hx; exact hu.le h1⟩
  refine s_ef (ef_fn (basked_spec X s0 μ1 _ _ hG) rfl rfl (by repeat (first | exact Split.nil | (apply Split.cons; (repeat (first | with_reducible exact Take.here | apply Take.there)))))) ?_
  rintro v18 L1 ⟨rfl, rfl⟩
  refine swl_app ?_
  rw [show askedE X.n (nums [(Value.slice A1 xs.length c1, xs), (Value.slice A2 ys.length c2, ys)]) = onlyE X.g xs ys from rfl]
  refine s_pu (pu_assign rfl) ?_
  refine swl_sub _ (.cons (t := 0) rfl (.cons (t := 1) rfl (.cons (t := 2) rfl (.cons (t := 8) rfl .nil)))) ?_
  refine swl_nil ?_
  refine then_n ?_
  refine swp_seq ?_
  refine swp_region ?_
  refine s_pu (pu_move rfl) ?_
  refine s_pu (pu_neq rfl rfl) ?_
  refine swl_sub _ (.cons (t := 0) rfl (.cons (t := 1) rfl (.cons (t := 2) rfl (.cons (t := 8) rfl (.cons (t := 20) rfl .nil))))) ?_
  refine swl_nil ?_
  refine then_n ?_
  refine swp_cond (b := _) rfl (fun h20 => ?_) (fun h20 => ?_)
  · skip   -- 20 T
    have he : onlyE X.g xs ys ≠ 0 := by simpa using h20
    refine swp_seq ?_
    refine swp_region ?_
    refine s_pu (pu_move rfl) ?_
    refine s_pu (pu_assign rfl) ?_
    refine s_pu (pu_assign rfl) ?_
    refine swl_sub _ (.cons (t := 6) rfl (.cons (t := 7) rfl .nil)) ?_
    refine swl_nil ?_
    refine then_n ?_
    refine swp_ret ?_
    refine then_r ?_
    refine done_retE [own 3 1 (.slice none 0 0) (sidesA X.g xs ys).length ((sidesA X.g xs ys).flatMap (icsk .i64)), X.A s0 μ1, ro μ1] (.tmp rfl (.tmp rfl .nil)) ⟨_, [], μ1, ⟨List.nodup_nil, fun y hy => by cases hy⟩, h1, rfl, rfl⟩ ?_
    rw [sidesA, if_neg he]
    exact (Split.ent' (K := [X.A s0 μ1, ro μ1]) (by repeat (first | exact Split.nil | (apply Split.cons; (repeat (first | with_reducible exact Take.here | apply Take.there)))))).trans own_nil_ent
  · skip   -- 20 F
    have he : onlyE X.g xs ys = 0 := by simpa using h20
    have hx : ∀ p ∈ xs, 0 ≤ p ∧ p < X.g.length := askedE_in he (by simp)
    have hy : ∀ p ∈ ys, 0 ≤ p ∧ p < X.g.length := askedE_in he (by simp)
    refine swp_skip ?_
    refine then_n ?_
    refine swp_seq ?_
    refine swp_region ?_
    refine s_pu (pu_move rfl) ?_
    refine s_pu (pu_move rfl) ?_
    refine s_ef (ef_fn (bcommits_spec X s0 μ1) rfl rfl (by repeat (first | exact Split.nil | (apply Split.cons; (repeat (first | with_reducible exact Take.here | apply Take.there)))))) ?_
    rintro v24 L1 ⟨rfl, rfl⟩
    refine swl_app ?_
    refine s_ef (ef_makeMap (kv := ikv)) ?_
    intro b25
    refine s_ef (ef_fn Bq.new_q rfl rfl (by repeat (first | exact Split.nil | (apply Split.cons; (repeat (first | with_reducible exact Take.here | apply Take.there)))))) ?_
    rintro v26 L1 ⟨q, rfl, rfl⟩
    refine swl_app ?_
    refine s_pu (pu_bld (qs := [(0, _), (1, _), (2, _), (3, _)]) rfl) ?_
    refine s_ef (ef_box rfl rfl) ?_
    intro b28
    refine s_pu (pu_assign rfl) ?_
    refine swl_sub _ (.cons (t := 1) rfl (.cons (t := 2) rfl (.cons (t := 9) rfl .nil))) ?_
    refine swl_ent (Split.ent' (K := [mpe b25 ikv [] 0, blk b28 116 [X.sv, .int .i64 (X.n : Nat), .map (some b25), .pointer (some ⟨q, 0, none⟩), .int .i64 0], Bq.cq q [] 0, X.A s0 μ1, ro μ1]) (by repeat (first | exact Split.nil | (apply Split.cons; (repeat (first | with_reducible exact Take.here | apply Take.there)))))) ?_
    refine swl_ent (mpP_close pmap_nil) ?_
    have hs0 : seenP X.n (fun _ => 0) = 0 := by unfold seenP; exact seenN_none _
    refine swl_nil ?_
    refine then_n ?_
    refine swp_seq ?_
    refine swp_seq ?_
    refine swp_region ?_
    refine s_pu (pu_move rfl) ?_
    refine s_pu (pu_len rfl) ?_
    refine s_pu (pu_move rfl) ?_
    refine swl_sub _ (.cons (t := 2) rfl (.cons (t := 9) rfl (.cons (t := 29) rfl (.cons (t := 30) rfl (.cons (t := 31) rfl .nil))))) ?_
    refine swl_nil ?_
    refine then_n ?_
    refine swp_block ?_
    have key : ∀ i, PI X.n X.n (addRow 1 (fun _ => 0, []) (xs.take i)) := fun i => (PI.addRow (v := 1) (Nat.le_refl X.n) (by unfold isV; decide) (by decide) (PI.start X.n) (fun p hp => hx p (List.mem_of_mem_take hp))).1
    refine swp_ent (L' := [ptB b28 X.sv X.n b25 q (frP (addRow 1 (fun _ => 0, []) (xs.take 0))), mpP b25 (addRow 1 (fun _ => 0, []) (xs.take 0)).1, Bq.cq q (addRow 1 (fun _ => 0, []) (xs.take 0)).2 (seenP X.n (addRow 1 (fun _ => 0, []) (xs.take 0)).1), X.A s0 μ1, ro μ1]) (by
      show Ent _ [blk b28 116 [X.sv, .int .i64 (X.n : Nat), .map (some b25), .pointer (some ⟨q, 0, none⟩), .int .i64 0], mpP b25 (fun _ => 0), Bq.cq q [] (seenP X.n (fun _ => 0)), X.A s0 μ1, ro μ1]
      rw [hs0]; exact Split.ent' (by repeat (first | exact Split.nil | (apply Split.cons; (repeat (first | with_reducible exact Take.here | apply Take.there)))))) ?_
    refine swp_loop (ι := Nat) (fun i env L => env = [(2, .slice A2 ys.length c2), (9, .pointer (some ⟨b28, 0, none⟩)), (29, .slice A1 xs.length c1), (30, .int .i64 (xs.length : Nat)), (31, .int .i64 (i : Nat))]
      ∧ L = [ptB b28 X.sv X.n b25 q (frP (addRow 1 (fun _ => 0, []) (xs.take i))), mpP b25 (addRow 1 (fun _ => 0, []) (xs.take i)).1, Bq.cq q (addRow 1 (fun _ => 0, []) (xs.take i)).2 (seenP X.n (addRow 1 (fun _ => 0, []) (xs.take i)).1), X.A s0 μ1, ro μ1] ∧ i ≤ xs.length) (fun i => xs.length - i) 0 ⟨rfl, rfl, Nat.zero_le _⟩ ?_
    rintro i env L ⟨rfl, rfl, hi⟩
    refine swp_seq ?_
    refine swp_region ?_
    refine s_pu (pu_lss rfl rfl) ?_
    refine swl_sub _ (.cons (t := 2) rfl (.cons (t := 9) rfl (.cons (t := 29) rfl (.cons (t := 30) rfl (.cons (t := 31) rfl (.cons (t := 32) rfl .nil)))))) ?_
    refine swl_nil ?_
    refine then_n ?_
    refine swp_seq ?_
    refine swp_cond (b := _) rfl (fun h32 => ?_) (fun h32 => ?_)
    · skip   -- 32 T
      have h32' : i < xs.length := by have := of_decide_eq_true h32; omega
      obtain ⟨c, hc⟩ : ∃ c, xs[i]? = some c := ⟨_, List.getElem?_eq_getElem h32'⟩
      obtain ⟨pb, po, pc, hpv, hpc⟩ := (hv.le h1).at_ hc
      have hcr := hx c (List.mem_of_getElem? hc)
      obtain ⟨c, rfl⟩ : ∃ k : Nat, c = k := ⟨c.toNat, by omega⟩
      have hsu := addRow_succ (v := 1) (s := (fun _ => 0, [])) hc
      rw [Int.toNat_natCast] at hsu
      have hki := key i
      generalize addRow 1 (fun _ => 0, []) (xs.take i) = si at *
      refine swp_skip ?_
      refine then_n ?_
      refine swp_seq ?_
      refine swp_block ?_
      refine swp_seq ?_
      refine swp_region ?_
      refine s_pu (pu_indexAddr (po + i * 1) (congrArg some hpv) rfl (by omega) (by omega) (by rw [Int.toNat_natCast])) ?_
      refine s_rd (rd_ro rfl hpc) ?_
      refine s_pu (pu_assign rfl) ?_
      refine swl_sub _ (.cons (t := 2) rfl (.cons (t := 9) rfl (.cons (t := 11) rfl (.cons (t := 29) rfl (.cons (t := 30) rfl (.cons (t := 31) rfl .nil)))))) ?_
      refine swl_nil ?_
      refine then_n ?_
      refine swp_region ?_
      refine s_pu (pu_move rfl) ?_
      refine s_pu (pu_move rfl) ?_
      refine s_ef (ef_fn (padd_spec b28 X.n X.n b25 q X.sv si c 1 hn hki (Nat.le_refl _) (by omega) (by unfold isV; decide) (by decide)) rfl rfl (by repeat (first | exact Split.nil | (apply Split.cons; (repeat (first | with_reducible exact Take.here | apply Take.there)))))) ?_
      rintro v37 L1 ⟨rfl, rfl⟩
      refine swl_app ?_
      refine swl_sub _ (.cons (t := 2) rfl (.cons (t := 9) rfl (.cons (t := 29) rfl (.cons (t := 30) rfl (.cons (t := 31) rfl .nil))))) ?_
      refine swl_nil ?_
      refine block_n ?_
      refine then_n ?_
      refine swp_region ?_
      refine s_pu (pu_add_as ((i + 1 : Nat) : Int) rfl rfl (by omega) (by omega) (by omega)) ?_
      refine s_pu (pu_move rfl) ?_
      refine swl_sub _ (.cons (t := 2) rfl (.cons (t := 9) rfl (.cons (t := 29) rfl (.cons (t := 30) rfl (.cons (t := 31) rfl .nil))))) ?_
      refine swl_nil ?_
      exact then_n ⟨i + 1, ⟨rfl, by rw [hsu], h32'⟩, by omega⟩
    · skip   -- 32 F
      have h32' := of_decide_eq_false h32
      obtain rfl : i = xs.length := by omega
      have hk1 := key xs.length
      rw [List.take_length] at *
      refine swp_exit ?_
      refine then_x ?_
      refine then_x ?_
      refine block_hit rfl ?_
      refine then_n ?_
      refine swp_seq ?_
      refine swp_seq ?_
      refine swp_region ?_
      refine s_pu (pu_move rfl) ?_
      refine s_pu (pu_len_row hu rfl) ?_
      refine s_pu (pu_move rfl) ?_
      refine swl_sub _ (.cons (t := 9) rfl (.cons (t := 39) rfl (.cons (t := 40) rfl (.cons (t := 41) rfl .nil)))) ?_
      refine swl_nil ?_
      refine then_n ?_
      refine swp_block ?_
      have key2 : ∀ i, PI X.n X.n (addRow 2 (addRow 1 (fun _ => 0, []) xs) (ys.take i)) := fun i => (PI.addRow (v := 2) (Nat.le_refl X.n) (by unfold isV; decide) (by decide) hk1 (fun p hp => hy p (List.mem_of_mem_take hp))).1
      refine swp_sub _ (.cons (t := 9) rfl (.cons (t := 39) rfl (.cons (t := 40) rfl (.cons (t := 41) rfl .nil)))) ?_
      refine swp_loop (ι := Nat) (fun i env L => env = [(9, .pointer (some ⟨b28, 0, none⟩)), (39, .slice A2 ys.length c2), (40, .int .i64 (ys.length : Nat)), (41, .int .i64 (i : Nat))]
        ∧ L = [ptB b28 X.sv X.n b25 q (frP (addRow 2 (addRow 1 (fun _ => 0, []) xs) (ys.take i))), mpP b25 (addRow 2 (addRow 1 (fun _ => 0, []) xs) (ys.take i)).1, Bq.cq q (addRow 2 (addRow 1 (fun _ => 0, []) xs) (ys.take i)).2 (seenP X.n (addRow 2 (addRow 1 (fun _ => 0, []) xs) (ys.take i)).1), X.A s0 μ1, ro μ1] ∧ i ≤ ys.length) (fun i => ys.length - i) 0 ⟨rfl, rfl, Nat.zero_le _⟩ ?_
      rintro i env L ⟨rfl, rfl, hi⟩
      refine swp_seq ?_
      refine swp_region ?_
      refine s_pu (pu_lss rfl rfl) ?_
      refine swl_sub _ (.cons (t := 9) rfl (.cons (t := 39) rfl (.cons (t := 40) rfl (.cons (t := 41) rfl (.cons (t := 42) rfl .nil))))) ?_
      refine swl_nil ?_
      refine then_n ?_
      refine swp_seq ?_
      refine swp_cond (b := _) rfl (fun h42 => ?_) (fun h42 => ?_)
      · skip   -- 42 T
        have h42' : i < ys.length := by have := of_decide_eq_true h42; omega
        obtain ⟨c, hc⟩ : ∃ c, ys[i]? = some c := ⟨_, List.getElem?_eq_getElem h42'⟩
        obtain ⟨pb, po, pc, hpv, hpc⟩ := (hu.le h1).at_ hc
        have hcr := hy c (List.mem_of_getElem? hc)
        obtain ⟨c, rfl⟩ : ∃ k : Nat, c = k := ⟨c.toNat, by omega⟩
        have hsu := addRow_succ (v := 2) (s := addRow 1 (fun _ => 0, []) xs) hc
        rw [Int.toNat_natCast] at hsu
        have hki := key2 i
        generalize addRow 2 (addRow 1 (fun _ => 0, []) xs) (ys.take i) = si at *
        refine swp_skip ?_
        refine then_n ?_
        refine swp_seq ?_
        refine swp_block ?_
        refine swp_seq ?_
        refine swp_region ?_
        refine s_pu (pu_indexAddr (po + i * 1) (congrArg some hpv) rfl (by omega) (by omega) (by rw [Int.toNat_natCast])) ?_
        refine s_rd (rd_ro rfl hpc) ?_
        refine s_pu (pu_assign rfl) ?_
        refine swl_sub _ (.cons (t := 9) rfl (.cons (t := 13) rfl (.cons (t := 39) rfl (.cons (t := 40) rfl (.cons (t := 41) rfl .nil))))) ?_
        refine swl_nil ?_
        refine then_n ?_
        refine swp_region ?_
        refine s_pu (pu_move rfl) ?_
        refine s_pu (pu_move rfl) ?_
        refine s_ef (ef_fn (padd_spec b28 X.n X.n b25 q X.sv si c 2 hn hki (Nat.le_refl _) (by omega) (by unfold isV; decide) (by decide)) rfl rfl (by repeat (first | exact Split.nil | (apply Split.cons; (repeat (first | with_reducible exact Take.here | apply Take.there)))))) ?_
        rintro v47 L1 ⟨rfl, rfl⟩
        refine swl_app ?_
        refine swl_sub _ (.cons (t := 9) rfl (.cons (t := 39) rfl (.cons (t := 40) rfl (.cons (t := 41) rfl .nil)))) ?_
        refine swl_nil ?_
        refine block_n ?_
        refine then_n ?_
        refine swp_region ?_
        refine s_pu (pu_add_as ((i + 1 : Nat) : Int) rfl rfl (by omega) (by omega) (by omega)) ?_
        refine s_pu (pu_move rfl) ?_
        refine swl_sub _ (.cons (t := 9) rfl (.cons (t := 39) rfl (.cons (t := 40) rfl (.cons (t := 41) rfl .nil)))) ?_
        refine swl_nil ?_
        exact then_n ⟨i + 1, ⟨rfl, by rw [hsu], h42'⟩, by omega⟩
      · skip   -- 42 F
        have h42' := of_decide_eq_false h42
        obtain rfl : i = ys.length := by omega
        rw [List.take_length]
        refine swp_exit ?_
        refine then_x ?_
        refine then_x ?_
        refine block_hit rfl ?_
        refine then_n ?_
        refine swp_seq ?_
        refine swp_region ?_
        refine s_pu (pu_move rfl) ?_
        refine s_ef (ef_fn (pbest_spec X s0 μ1 b28 b25 q xs ys (hT.le h1) (h0.trans h1) hf hx hy) rfl rfl (by repeat (first | exact Split.nil | (apply Split.cons; (repeat (first | with_reducible exact Take.here | apply Take.there)))))) ?_
        rintro v50 L1 ⟨zs, μ2, hzs, h2, rfl⟩
        refine swl_app ?_
        rw [show sidesB X.g xs ys = sidesA X.g xs ys from (if_pos he).symm]
        refine s_pu (pu_assign rfl) ?_
        refine s_pu (pu_assign rfl) ?_
        refine swl_sub _ (.cons (t := 6) rfl (.cons (t := 7) rfl .nil)) ?_
        refine swl_nil ?_
        refine then_n ?_
        refine swp_ret ?_
        exact done_ret [own 3 1 v50 (sidesA X.g xs ys).length ((sidesA X.g xs ys).flatMap (icsk .i64)), X.A (zs.foldl X.step s0) μ2, ro μ2] (.tmp rfl (.tmp rfl .nil)) ⟨_, zs, μ2, hzs, h1.trans h2, by rw [he]; rfl, rfl⟩ (by repeat (first | exact Split.nil | (apply Split.cons; (repeat (first | with_reducible exact Take.here | apply Take.there)))))
end SX
namespace SX
open Go Go.Proofs

end SX
namespace SX
open Go Go.Proofs
abbrev HW.rest (W : HW) (s : HSt) (x : Value × Value) : List Assn := [blk W.p 42 (W.cells x.1 x.2), own 4 1 x.1 W.n (bcn W.n s.lk), own 4 1 x.2 W.n (bcn W.n s.my)]
/-- the law's source as one of commits -/
def HW.bsrc (W : HW) (μ0 : PH) (h : W.Ok μ0) : Src where
  t := 31
  v := .pointer (some ⟨W.p, 0, none⟩)
  d := 0
  hd := Nat.zero_le _
  g := nums W.G
  hg := h.hg
  hn := by rw [List.length_map]; exact h.hn
  σ := HSt
  A := fun s _ => W.A s
  mono := fun _ => Ent.refl _
  ok := fun s c => s.ask c ≤ 4611686018427387904
  step := fun s c => { s with ask := ask1 s.ask c }
  μ0 := μ0
  commits := fun s μ => by
    refine InvS.exA fun x => ?_
    have hk := gcommits_spec W.pg W.n W.vg W.vn s.ask h.hG.1.sl
    have hq := InvS.ptr (t := 31) (name := "Commits") (b := W.p) (a := some ⟨W.pg, 0, none⟩) (pre := [gA W.pg W.vg W.vn W.n s.ask]) (R := W.rest s x) (by simp only [List.cons_append, List.nil_append, HW.rest]; exact ld_one rfl) hk
    simp only [List.cons_append, List.nil_append, HW.rest] at hq ⊢
    refine hq.ent (Split.ent' (by repeat (first | exact Split.nil | (apply Split.cons; (repeat (first | with_reducible exact Take.here | apply Take.there)))))) fun v L ⟨L', ⟨h1, h2⟩, h3⟩ => ?_
    subst h2 h3
    simp only [List.cons_append, List.nil_append]
    refine ⟨_, (Split.ent' (K := [blk W.p 42 (W.cells x.1 x.2), gA W.pg W.vg W.vn W.n s.ask, own 4 1 x.1 W.n (bcn W.n s.lk), own 4 1 x.2 W.n (bcn W.n s.my)]) (by repeat (first | exact Split.nil | (apply Split.cons; (repeat (first | with_reducible exact Take.here | apply Take.there)))))).trans HW.close, ?_, rfl⟩
    rw [h1, show (nums W.G).length = W.n from List.length_map _]
  parents := fun s μ c hl hc ha => by
    refine InvS.exA fun x => ?_
    have hk := gparents_spec μ W.pg W.vg W.vn s.ask W.G c (h.hG.le hl) (by rwa [show (nums W.G).length = W.G.length from List.length_map _] at hc) ha h.hr
    have hq := InvS.ptr (t := 31) (name := "Parents") (b := W.p) (a := some ⟨W.pg, 0, none⟩) (pre := [gA W.pg W.vg W.vn W.n s.ask, ro μ]) (R := W.rest s x) (by simp only [List.cons_append, List.nil_append, HW.rest]; exact ld_one rfl) hk
    simp only [List.cons_append, List.nil_append, HW.rest] at hq ⊢
    refine hq.ent (Split.ent' (by repeat (first | exact Split.nil | (apply Split.cons; (repeat (first | with_reducible exact Take.here | apply Take.there)))))) fun v L ⟨L', ⟨μ', h1, h2, h3⟩, h4⟩ => ?_
    subst h3 h4
    simp only [List.cons_append, List.nil_append]
    exact ⟨_, (Split.ent' (K := [blk W.p 42 (W.cells x.1 x.2), gA W.pg W.vg W.vn W.n (ask1 s.ask c), own 4 1 x.1 W.n (bcn W.n s.lk), own 4 1 x.2 W.n (bcn W.n s.my), ro μ']) (by repeat (first | exact Split.nil | (apply Split.cons; (repeat (first | with_reducible exact Take.here | apply Take.there)))))).trans (HW.close (s := { s with ask := ask1 s.ask c })), μ', h1, h2, rfl⟩
end SX
namespace SX
open Go Go.Proofs
theorem one_u32 {b o t : Int} (ho : U32 o) (ht : U32 t) : U32 (oneE b o t).1 := by
  unfold oneE
  split
  · exact ho
  · split
    · exact ht
    · have h := (markW (BitVec.ofInt 32 b) (BitVec.ofInt 32 o) (BitVec.ofInt 32 t)).isLt
      unfold markZ U32
      dsimp only
      omega
theorem nodup_in {α : Type} : ∀ {xs U : List α}, xs.Nodup → (∀ x ∈ xs, x ∈ U) → xs.length ≤ U.length
  | [], _, _, _ => Nat.zero_le _
  | x :: xs, U, hn, hs => by
    obtain ⟨h1, h2⟩ := List.nodup_cons.1 hn
    obtain ⟨s, t, rfl⟩ := List.append_of_mem (hs x (List.mem_cons_self ..))
    have h3 := nodup_in (U := s ++ t) h2 fun y hy => by
      rcases List.mem_append.1 (hs y (List.mem_cons_of_mem _ hy)) with k | k
      · exact List.mem_append_left _ k
      · rcases List.mem_cons.1 k with rfl | k
        · exact absurd hy h1
        · exact List.mem_append_right _ k
    rw [List.length_append] at h3
    rw [List.length_cons, List.length_append, List.length_cons]
    omega
/-- a good tree over some paths -/
structure TOk (U : List ByteArray) (t : List En) : Prop where
  good : GoodT t
  u32 : U32s t
  sub : ∀ e ∈ t, e.1 ∈ U
theorem TOk.nil (U : List ByteArray) : TOk U [] := ⟨good_nil, (fun _ h => by cases h), fun _ h => by cases h⟩
theorem TOk.len {U : List ByteArray} {t : List En} (h : TOk U t) : t.length ≤ U.length := by
  have hn : (t.map (·.1)).Nodup := by
    rw [List.Nodup, List.pairwise_map]
    exact h.good.rises.imp fun k => strLt_ne k
  have := nodup_in (U := U) hn fun p hp => by
    obtain ⟨e, he, rfl⟩ := List.mem_map.1 hp
    exact h.sub e he
  rwa [List.length_map] at this
def VM (a b c : List En) : List En := outR (rowsB a b c)
theorem TOk.merge {U : List ByteArray} {a b c : List En} (ha : TOk U a) (hb : TOk U b) (hc : TOk U c) : TOk U (VM a b c) where
  good := out_good ha.good hb.good hc.good
  u32 := fun e he => by
    obtain ⟨r, hr, h1, _⟩ := outR_mem he
    unfold rowsB at hr
    obtain ⟨p, _, rfl⟩ := List.mem_map.1 hr
    rw [h1]
    exact one_u32 (hb.u32.lookB p) (hc.u32.lookB p)
  sub := fun e he => by
    obtain ⟨r, hr, h1, _⟩ := outR_mem he
    unfold rowsB at hr
    obtain ⟨p, hp, rfl⟩ := List.mem_map.1 hr
    rw [h1]
    have hm : ∀ t, TOk U t → p ∈ t.map (·.1) → p ∈ U := fun t ht hq => by
      obtain ⟨x, hx, rfl⟩ := List.mem_map.1 hq
      exact ht.sub x hx
    rcases (pathsE_mem a b c p).1 hp with k | k | k
    · exact hm a ha k
    · exact hm b hb k
    · exact hm c hc k
theorem els_in {n : Nat} {S : Nat → Bool} {c : Int} (h : c ∈ elsTo n S) : 0 ≤ c ∧ c < n := by
  unfold elsTo numsI at h
  obtain ⟨k, hk, rfl⟩ := List.mem_map.1 h
  have := List.mem_range.1 (List.mem_filter.1 hk).1
  omega
theorem sidesA_in {g : List (List Int)} {xs ys : List Int} {c : Int} (h : c ∈ sidesA g xs ys) : 0 ≤ c ∧ c < g.length := by
  unfold sidesA sidesB at h
  split at h
  · exact els_in h
  · cases h
theorem sidesA_le (g : List (List Int)) (xs ys : List Int) : (sidesA g xs ys).length ≤ g.length := by
  unfold sidesA
  split
  · exact elsTo_len _ _
  · exact Nat.zero_le _
/-- what of the source is asked -/
def HW.U (W : HW) : List ByteArray := W.T.flatMap fun t => t.2.map (·.1)
theorem sum_all {α : Type} (f : α → Nat) (m : Nat) : ∀ (l : List α), (∀ x ∈ l, f x ≤ m) → (l.map f).sum ≤ l.length * m
  | [], _ => Nat.zero_le _
  | x :: l, h => by
    rw [List.map_cons, List.sum_cons, List.length_cons, Nat.succ_mul]
    have h1 := h x (List.mem_cons_self ..)
    have h2 := sum_all f m l fun y hy => h y (List.mem_cons_of_mem _ hy)
    omega
theorem HW.U_len {W : HW} {μ : PH} (h : W.Ok μ) (hn : W.n ≤ 10000) : W.U.length ≤ 1000000 := by
  unfold HW.U
  rw [List.length_flatMap]
  have h1 := sum_all (fun t : Value × List En => (t.2.map (·.1)).length) 100 W.T fun t ht => by
    rw [List.length_map]; exact (h.hTr t ht).2.1
  have h2 := h.hTn
  have h3 : W.G.length ≤ 10000 := hn
  omega
def VT (W : HW) (c : Int) : List En := treeOf W.T c.toNat
def VS (W : HW) (x : List Int) (y : Int) : List Int := sidesA (nums W.G) x [y]
theorem vt_ok {W : HW} {μ : PH} (h : W.Ok μ) {c : Nat} (hc : c < W.n) : TOk W.U (treeOf W.T c) := by
  have hlt : c < W.T.length := by rw [h.hTn]; exact hc
  have e : treeOf W.T c = (W.T[c]).2 := by unfold treeOf; rw [List.getElem?_eq_getElem hlt]; rfl
  have ht := h.hTr _ (List.getElem_mem hlt)
  rw [e]
  refine ⟨ht.2.2.1, ht.2.2.2, fun x hx => ?_⟩
  exact List.mem_flatMap.2 ⟨_, List.getElem_mem hlt, List.mem_map.2 ⟨x, hx, rfl⟩⟩
/-- a question under work, as it lies in memory -/
structure VV where
  rest : Value
  node : Value
  tree : Value
  f : VF (List En)
  own : Bool
abbrev encV (x : VV) : List Value := [x.rest, x.node, x.tree]
abbrev ivs (l : List Int) : List Value := l.flatMap (icsk .i64)
def nodeA (x : VV) : List Assn := if x.own = true then [own 3 1 x.node x.f.node.length (ivs x.f.node)] else []
abbrev treeA (x : VV) : Assn := own 52 2 x.tree x.f.tree.length (ens x.f.tree)
structure VV.Ok (n : Nat) (U : List ByteArray) (μ : PH) (x : VV) : Prop where
  rest : Row μ x.rest 1 x.f.rest.length (ivs x.f.rest)
  node : x.own = false → Row μ x.node 1 x.f.node.length (ivs x.f.node) ∧ ∃ A, x.node = .slice A x.f.node.length x.f.node.length
  one : (∃ A c, x.node = .slice A x.f.node.length c) ∧ ∃ A c, x.tree = .slice A x.f.tree.length c
  ins : ∀ c ∈ x.f.node ++ x.f.rest, 0 ≤ c ∧ c < n
  len : x.f.node.length + x.f.rest.length ≤ n
  tree : TOk U x.f.tree
theorem VV.Ok.le {n : Nat} {U : List ByteArray} {μ μ' : PH} {x : VV} (h : x.Ok n U μ) (k : Le μ μ') : x.Ok n U μ' := ⟨h.rest.le k, fun e => ⟨(h.node e).1.le k, (h.node e).2⟩, h.one, h.ins, h.len, h.tree⟩
abbrev wkV (w : Nat) (sv st : Value) (steps limit : Nat) : Assn := blk w 82 [sv, st, .int .i64 (steps : Nat), .int .i64 (limit : Nat)]
abbrev HW.sv (W : HW) : Value := .iface 31 (.pointer (some ⟨W.p, 0, none⟩))
/-- how often commits were asked -/
def AskB (m : Nat) (s : HSt) : Prop := ∀ c, s.ask c ≤ m
def askS (s : HSt) (c : Nat) : HSt := { s with ask := ask1 s.ask c }
theorem askS_ask : ∀ (ys : List Nat) (s : HSt), (ys.foldl askS s).ask = ys.foldl ask1 s.ask
  | [], _ => rfl
  | y :: ys, s => by rw [List.foldl_cons, List.foldl_cons, askS_ask ys]; rfl
theorem bsrc_fine {W : HW} {μ0 : PH} (h : W.Ok μ0) {s : HSt} {m : Nat} (hs : AskB m s) (hm : m + 1 ≤ 4611686018427387904) : (W.bsrc μ0 h).fine s := fun ys c hn _ _ _ => by
  show (ys.foldl askS s).ask c ≤ _
  rw [askS_ask]
  exact Nat.le_trans (ask_le hn (hs c)) hm
theorem askS_le {n : Nat} {s : HSt} {m : Nat} (hs : AskB m s) {zs : List Nat} (hz : askedIn n zs) : AskB (m + 1) (zs.foldl askS s) := fun c => by
  rw [askS_ask]
  exact ask_le hz.1 (hs c)
/-- the bases of two sides, over the law's source -/
theorem hsides_spec (W : HW) (μ0 : PH) (h : W.Ok μ0) (s : HSt) (m : Nat) (hs : AskB m s) (hm : m + 1 ≤ 4611686018427387904) (μ : PH) (v u : Value) (xs ys : List Int) (hT : RowAt μ 1 0 tabV) (hv : Row μ v 1 xs.length (ivs xs)) (hu : Row μ u 1 ys.length (ivs ys)) (h0 : Le μ0 μ) :
    Spec Tryd.prog 26 [W.sv, v, u] [W.A s, ro μ] (fun r L => ∃ lv s' μ', AskB (m + 1) s' ∧ Le μ μ' ∧ r = .tuple #[lv, .int .i64 (onlyE (nums W.G) xs ys)] ∧ L = [own 3 1 lv (sidesA (nums W.G) xs ys).length (ivs (sidesA (nums W.G) xs ys)), W.A s', ro μ']) := by
  refine (sides_spec (W.bsrc μ0 h) s μ v u xs ys hT hv hu h0 (bsrc_fine h hs hm)).mono fun r L ⟨lv, zs, μ', h1, h2, h3, h4⟩ => ?_
  exact ⟨lv, zs.foldl askS s, μ', askS_le hs h1, h2, h3, h4⟩
/-- a node: only read, or of the call's own -/
def naA (x : VV) : Assn := star (nodeA x)
theorem naA_no {x : VV} (h : x.own = false) {L : List Assn} : Ent L (naA x :: L) := by
  have e : nodeA x = [] := by unfold nodeA; rw [if_neg (by rw [h]; decide)]
  unfold naA
  rw [e]
  exact star_close (K := [])
theorem naA_open {x : VV} (h : x.own = true) {L : List Assn} : Ent (naA x :: L) (own 3 1 x.node x.f.node.length (ivs x.f.node) :: L) := by
  have e : nodeA x = [own 3 1 x.node x.f.node.length (ivs x.f.node)] := if_pos h
  unfold naA
  rw [e]
  exact star_ent
theorem naA_close {x : VV} (h : x.own = true) {L : List Assn} : Ent (own 3 1 x.node x.f.node.length (ivs x.f.node) :: L) (naA x :: L) := by
  have e : nodeA x = [own 3 1 x.node x.f.node.length (ivs x.f.node)] := if_pos h
  unfold naA
  rw [e]
  exact star_close (K := [own 3 1 x.node x.f.node.length (ivs x.f.node)])
theorem hsides_node (W : HW) (μ0 : PH) (h : W.Ok μ0) (s : HSt) (m : Nat) (hs : AskB m s) (hm : m + 1 ≤ 4611686018427387904) (μ : PH) (x : VV) (u : Value) (ys : List Int) (hT : RowAt μ 1 0 tabV) (hx : x.own = false → Row μ x.node 1 x.f.node.length (ivs x.f.node)) (hu : Row μ u 1 ys.length (ivs ys)) (h0 : Le μ0 μ) :
    Spec Tryd.prog 26 [W.sv, x.node, u] [naA x, W.A s, ro μ] (fun r L => ∃ lv s' μ', AskB (m + 1) s' ∧ Le μ μ' ∧ r = .tuple #[lv, .int .i64 (onlyE (nums W.G) x.f.node ys)] ∧ L = [own 3 1 lv (sidesA (nums W.G) x.f.node ys).length (ivs (sidesA (nums W.G) x.f.node ys)), naA x, W.A s', ro μ']) := by
  intro E w hh
  cases ho : x.own with
  | false =>
    refine ((hsides_spec W μ0 h s m hs hm μ x.node u x.f.node ys hT (hx ho) hu h0) E w (hh.ent Ent.drop)).mono fun e w' ⟨v, L', he, ⟨lv, s', μ', q1, q2, q3, q4⟩, h5⟩ => ?_
    subst q4
    exact ⟨v, _, he, ⟨lv, s', μ', q1, q2, q3, rfl⟩, h5.ent ((naA_no ho).trans Ent.swap)⟩
  | true =>
    have hh1 := hh.ent ((naA_open ho).trans (Split.ent' (K := [own 3 1 x.node x.f.node.length (ivs x.f.node), ro μ, W.A s]) (by repeat (first | exact Split.nil | (apply Split.cons; (repeat (first | with_reducible exact Take.here | apply Take.there)))))))
    obtain ⟨μL, hl, hrow, hh2, hback⟩ := hh1.lend_own
    refine ((hsides_spec W μ0 h s m hs hm μL x.node u x.f.node ys (hT.le hl) hrow (hu.le hl) (h0.trans hl)) E w (hh2.ent Ent.swap)).mono fun e w' ⟨v, L', he, ⟨lv, s', μ', q1, q2, q3, q4⟩, h5⟩ => ?_
    subst q4
    obtain ⟨μ3, b1, b2⟩ := hback μ' q2
    refine ⟨v, _, he, ⟨lv, s', μ3, q1, b1, q3, rfl⟩, h5.ent ?_⟩
    refine (Split.ent' (K := [ro μ', own 3 1 lv (sidesA (nums W.G) x.f.node ys).length (ivs (sidesA (nums W.G) x.f.node ys)), W.A s']) (by repeat (first | exact Split.nil | (apply Split.cons; (repeat (first | with_reducible exact Take.here | apply Take.there)))))).trans ?_
    refine (b2 _).trans ((naA_close ho).trans (Split.ent' (by repeat (first | exact Split.nil | (apply Split.cons; (repeat (first | with_reducible exact Take.here | apply Take.there)))))))
end SX
namespace SX
open Go Go.Proofs
/-- what comes as a slice of the call's own has a slice's form -/
theorem Spec.formed {P : Program} {f : FuncId} {args : List Value} {pre : List Assn} {e n l : Nat} {xs : List Value} {R : List Assn} (h : Spec P f args pre (fun r L => L = own e n r l xs :: R)) : Spec P f args pre (fun r L => (∃ A c, r = .slice A l c) ∧ L = own e n r l xs :: R) := fun E w hw =>
  (h E w hw).mono fun e' w' ⟨v, L', he, hl, hh⟩ => by
    subst hl
    obtain ⟨h1, h2, h3, h4, h5⟩ := hh
    obtain ⟨A, c, hv, _⟩ := own_cap2 (Sat.perm (perm_out (X := E.X) (.refl _)) _ h5)
    exact ⟨v, _, he, ⟨⟨A, c, hv⟩, rfl⟩, h1, h2, h3, h4, h5⟩
def lookS (s : HSt) (c : Nat) : HSt := { s with lk := on1 s.lk c }
theorem hcontent (W : HW) (μ : PH) (h : W.Ok μ) (s : HSt) (c : Nat) (hc : c < W.n) : InvS Tryd.prog 0 31 (.pointer (some ⟨W.p, 0, none⟩)) "Content" [.int .i64 (c : Nat)] [W.A s, ro μ]
    (fun r L => (∃ A k, r = .slice A (treeOf W.T c).length k) ∧ L = [own 52 2 r (treeOf W.T c).length (ens (treeOf W.T c)), W.A (lookS s c), ro μ]) := InvS.of (Spec.formed (content_spec W μ h s c hc))
theorem encV_one {x : VV} {n : Nat} {U : List ByteArray} {μ : PH} (h : x.Ok n U μ) : (encV x).all Value.oneCell' = true := by
  obtain ⟨_, A, c, e1, _⟩ := h.rest
  obtain ⟨⟨A2, c2, e2⟩, A3, c3, e3⟩ := h.one
  show ([x.rest, x.node, x.tree]).all _ = true
  rw [e1, e2, e3]; rfl
set_option maxHeartbeats 8000000 in
theorem push_spec (W : HW) (μ0 : PH) (hW : W.Ok μ0) (_ : W.n ≤ 10000) (μ : PH) (h0 : Le μ0 μ) (hT : RowAt μ 1 0 tabV) (w : Nat) (s : HSt) (m : Nat) (hs : AskB m s) (hm : m + 1 ≤ 4611686018427387904) (A : Option Addr) (cap : Nat) (xs : List VV) (steps limit : Nat) (hsl : xs.length ≤ steps) (hlim : limit ≤ 4096)
    (tv : VV) (y : Int) (hx : tv.own = false → Row μ tv.node 1 tv.f.node.length (ivs tv.f.node)) :
    Spec Tryd.prog 24 [.pointer (some ⟨w, 0, none⟩), tv.node, .int .i64 y] [naA tv, wkV w W.sv (.slice A xs.length cap) steps limit, own 85 3 (.slice A xs.length cap) xs.length (xs.flatMap encV), W.A s, ro μ]
      (fun r L => (limit ≤ steps ∧ r = .int .i64 12 ∧ L = [naA tv, wkV w W.sv (.slice A xs.length cap) steps limit, own 85 3 (.slice A xs.length cap) xs.length (xs.flatMap encV), W.A s, ro μ]) ∨
        (steps < limit ∧ r = .int .i64 0 ∧ ∃ (nv : VV) (A2 : Option Addr) (cap2 : Nat) (s2 : HSt) (μ2 : PH), nv.own = false ∧ nv.f = vfr (VT W) [] (VS W tv.f.node y) ∧ nv.Ok W.n W.U μ2 ∧ AskB (m + 1) s2 ∧ Le μ μ2 ∧
          L = [naA tv, wkV w W.sv (.slice A2 (xs.length + 1) cap2) (steps + 1) limit, own 85 3 (.slice A2 (xs.length + 1) cap2) (xs.length + 1) (xs.flatMap encV ++ encV nv), treeA nv, W.A s2, ro μ2])) := by
  refine Spec.of 66 Tryd.func24 rfl rfl rfl ?_
  refine swp_seq ?_
  refine swp_region ?_
  refine s_pu (pu_assign rfl) ?_
  refine swl_sub _ (.cons (t := 0) rfl (.cons (t := 1) rfl (.cons (t := 2) rfl .nil))) ?_
  refine swl_nil ?_
  refine then_n ?_
  refine swp_seq ?_
  refine swp_seq ?_
  refine swp_draw [3, 7] _ [] (by simp only [List.append_nil]; exact Ent.refl _) (by kernel_rfl) ?_
  refine d_pu 0 rfl (pu_move rfl) (by kernel_rfl) (by kernel_rfl) (by kernel_rfl) ?_
  first | refine d_pu 1 rfl (pu_nilCheck rfl) (by kernel_rfl) (by kernel_rfl) (by kernel_rfl) ?_ | refine d_pu 1 rfl (pu_nilCheck_fn rfl) (by kernel_rfl) (by kernel_rfl) (by kernel_rfl) ?_ | refine d_pu 1 rfl (pu_nilCheck_if rfl) (by kernel_rfl) (by kernel_rfl) (by kernel_rfl) ?_
  first | refine d_pu 2 rfl (pu_fieldAddr0 rfl) (by kernel_rfl) (by kernel_rfl) (by kernel_rfl) ?_ | refine d_pu 2 rfl (pu_fieldAddr rfl) (by kernel_rfl) (by kernel_rfl) (by kernel_rfl) ?_
  refine d_rd 3 rfl (rd_load rfl rfl) rfl (by kernel_rfl) (by kernel_rfl) (by kernel_rfl) ?_
  refine d_pu 4 rfl (pu_move rfl) (by kernel_rfl) (by kernel_rfl) (by kernel_rfl) ?_
  first | refine d_pu 5 rfl (pu_nilCheck rfl) (by kernel_rfl) (by kernel_rfl) (by kernel_rfl) ?_ | refine d_pu 5 rfl (pu_nilCheck_fn rfl) (by kernel_rfl) (by kernel_rfl) (by kernel_rfl) ?_ | refine d_pu 5 rfl (pu_nilCheck_if rfl) (by kernel_rfl) (by kernel_rfl) (by kernel_rfl) ?_
  first | refine d_pu 6 rfl (pu_fieldAddr0 rfl) (by kernel_rfl) (by kernel_rfl) (by kernel_rfl) ?_ | refine d_pu 6 rfl (pu_fieldAddr rfl) (by kernel_rfl) (by kernel_rfl) (by kernel_rfl) ?_
  refine d_rd 7 rfl (rd_load rfl rfl) rfl (by kernel_rfl) (by kernel_rfl) (by kernel_rfl) ?_
  refine d_pu 8 rfl (pu_geq rfl rfl) (by kernel_rfl) (by kernel_rfl) (by kernel_rfl) ?_
  refine d_sub _ (.cons (t := 0) rfl (.cons (t := 1) rfl (.cons (t := 2) rfl (.cons (t := 18) rfl .nil)))) ?_
  first | refine d_nilt (by kernel_rfl) ?_ | refine d_nilf (by kernel_rfl) ?_
  refine then_n ?_
  refine swp_cond (b := _) rfl (fun h18 => ?_) (fun h18 => ?_)
  · skip   -- 18 T
    refine swp_seq ?_
    refine swp_region ?_
    refine s_pu (pu_assign rfl) ?_
    refine swl_sub _ (.cons (t := 6) rfl .nil) ?_
    refine swl_nil ?_
    refine then_n ?_
    refine swp_ret ?_
    refine then_r ?_
    have h18' := of_decide_eq_true h18
    exact done_ret [naA tv, wkV w W.sv (.slice A xs.length cap) steps limit, own 85 3 (.slice A xs.length cap) xs.length (xs.flatMap encV), W.A s, ro μ] (.tmp rfl .nil) (.inl ⟨by omega, rfl, rfl⟩) (by repeat (first | exact Split.nil | (apply Split.cons; (repeat (first | with_reducible exact Take.here | apply Take.there)))))
  · skip   -- 18 F
    have h18' : steps < limit := by have := of_decide_eq_false h18; omega
    refine swp_skip ?_
    refine then_n ?_
    refine swp_seq ?_
    refine swp_region ?_
    refine s_pu (pu_move rfl) ?_
    first | refine s_pu (pu_nilCheck rfl) ?_ | refine s_pu (pu_nilCheck_fn rfl) ?_ | refine s_pu (pu_nilCheck_if rfl) ?_
    first | refine s_pu (pu_fieldAddr0 rfl) ?_ | refine s_pu (pu_fieldAddr rfl) ?_
    refine s_rd (rd_load rfl rfl) ?_
    refine s_pu (pu_add_as ((steps + 1 : Nat) : Int) rfl rfl (by omega) (by omega) (by omega)) ?_
    first | refine s_pu (pu_nilCheck rfl) ?_ | refine s_pu (pu_nilCheck_fn rfl) ?_ | refine s_pu (pu_nilCheck_if rfl) ?_
    first | refine s_pu (pu_fieldAddr0 rfl) ?_ | refine s_pu (pu_fieldAddr rfl) ?_
    refine s_ef0 (ef_store rfl rfl rfl) ?_
    refine swl_sub _ (.cons (t := 0) rfl (.cons (t := 1) rfl (.cons (t := 2) rfl .nil))) ?_
    refine swl_nil ?_
    refine then_n ?_
    refine swp_seq ?_
    refine swp_region ?_
    refine s_pu (pu_move rfl) ?_
    first | refine s_pu (pu_nilCheck rfl) ?_ | refine s_pu (pu_nilCheck_fn rfl) ?_ | refine s_pu (pu_nilCheck_if rfl) ?_
    first | refine s_pu (pu_fieldAddr0 rfl) ?_ | refine s_pu (pu_fieldAddr rfl) ?_
    refine s_rd (rd_load rfl rfl) ?_
    refine s_pu (pu_move rfl) ?_
    refine s_pu (pu_move rfl) ?_
    refine s_ef (ef_bldS (qs := [(0, _)]) rfl rfl rfl) ?_
    intro b33
    refine swl_share (b := b33) (μ := μ) (by repeat (first | exact Split.nil | (apply Split.cons; (repeat (first | with_reducible exact Take.here | apply Take.there))))) fun μ1 h1 k1 => ?_
    have r2 : Row μ1 (.slice (some ⟨b33, 0, none⟩) 1 1) 1 1 (ivs [y]) := row_of_blk (n := 1) (l := 1) (cs := [y].flatMap (icsk .i64)) k1 (by rfl) (by decide)
    refine s_ef (ef_fn (hsides_node W μ0 hW s m hs hm μ1 tv _ [y] (hT.le h1) (fun e => (hx e).le h1) r2 (h0.trans h1)) rfl rfl (by repeat (first | exact Split.nil | (apply Split.cons; (repeat (first | with_reducible exact Take.here | apply Take.there)))))) ?_
    rintro v34 L1 ⟨lv, s1, μ2, hs1, h2, rfl, rfl⟩
    refine swl_app ?_
    refine s_pu (pu_move rfl) ?_
    first | refine s_pu (pu_extractL rfl) ?_ | refine s_pu (pu_extract rfl rfl) ?_
    first | refine s_pu (pu_extractL rfl) ?_ | refine s_pu (pu_extract rfl rfl) ?_
    refine s_pu (pu_assign rfl) ?_
    refine s_pu (pu_assign rfl) ?_
    refine swl_sub _ (.cons (t := 0) rfl (.cons (t := 7) rfl .nil)) ?_
    refine swl_nil ?_
    refine then_n ?_
    refine swp_seq ?_
    rw [show sidesA (nums W.G) tv.f.node [y] = VS W tv.f.node y from rfl]
    have hin : ∀ c ∈ VS W tv.f.node y, 0 ≤ c ∧ c < (W.n : Int) := fun c hc => by
      have := sidesA_in hc
      rwa [show (nums W.G).length = W.n from List.length_map _] at this
    have hle : (VS W tv.f.node y).length ≤ W.n := by
      have := sidesA_le (nums W.G) tv.f.node [y]
      rwa [show (nums W.G).length = W.n from List.length_map _] at this
    generalize hbs : VS W tv.f.node y = bs at *
    refine swp_share_own (e := 3) (n := 1) (v := lv) (μ := μ2) (by repeat (first | exact Split.nil | (apply Split.cons; (repeat (first | with_reducible exact Take.here | apply Take.there))))) fun μ3 h3 hrow => ?_
    refine swp_region ?_
    refine s_pu (pu_bld (qs := []) rfl) ?_
    refine s_ef (ef_alloc) ?_
    intro b9
    refine s_ef0 (ef_storeA rfl rfl rfl rfl) ?_
    refine swl_sub _ (.cons (t := 0) rfl (.cons (t := 7) rfl (.cons (t := 9) rfl .nil))) ?_
    refine swl_nil ?_
    refine then_n ?_
    refine swp_cut (fun env L => ∃ (nv : VV) (s3 : HSt), Sub env [(0, .pointer (some ⟨w, 0, none⟩)), (9, .pointer (some ⟨b9, 0, none⟩))] ∧ Ent L [blk b9 85 (encV nv), treeA nv, naA tv, wkV w W.sv (.slice A xs.length cap) (steps + 1) limit, own 85 3 (.slice A xs.length cap) xs.length (xs.flatMap encV), W.A s3, ro μ3] ∧ nv.own = false ∧ nv.f = vfr (VT W) [] bs ∧ nv.Ok W.n W.U μ3 ∧ AskB (m + 1) s3) ?_ ?_
    · skip
      refine swp_seq ?_
      refine swp_region ?_
      refine s_pu (pu_move rfl) ?_
      refine s_pu (pu_len_row hrow rfl) ?_
      refine s_pu (pu_gtr rfl rfl) ?_
      refine swl_sub _ (.cons (t := 0) rfl (.cons (t := 7) rfl (.cons (t := 9) rfl (.cons (t := 40) rfl .nil)))) ?_
      refine swl_nil ?_
      refine then_n ?_
      refine swp_cond (b := _) rfl (fun h40 => ?_) (fun h40 => ?_)
      · skip   -- 40 T
        have h40' : 0 < bs.length := by have := of_decide_eq_true h40; omega
        obtain ⟨b0, bl, rfl⟩ : ∃ b0 bl, bs = b0 :: bl := by
          cases bs with
          | nil => exact absurd h40' (by decide)
          | cons b0 bl => exact ⟨b0, bl, rfl⟩
        obtain ⟨k0, hk0⟩ : ∃ k : Nat, b0 = (k : Int) := ⟨b0.toNat, by have := (hin b0 (List.mem_cons_self ..)).1; omega⟩
        subst hk0
        have hk0n : k0 < W.n := by have := (hin _ (List.mem_cons_self ..)).2; omega
        have hW3 := hW.le (h0.trans (h1.trans (h2.trans h3)))
        obtain ⟨gb, go, gc, hlv, hlc, hcm, hra⟩ := hrow.pos h40'
        obtain ⟨v', hr', hlo⟩ := Row.lo (P := Tryd.prog) (t := 43) hrow 1 (by omega)
        obtain ⟨AR, cR, rfl⟩ : ∃ A c, v' = .slice A bl.length c := by obtain ⟨_, A, c, e, _⟩ := hr'; exact ⟨A, c, e⟩
        have hcell : CellAt μ3 gb (go + 0 * 1) (.int .i64 (k0 : Nat)) := (hra.elem (f := icsk .i64) (n := 1) (fun _ => rfl) (show ((k0 : Int) :: bl)[0]? = some (k0 : Int) from rfl)).cell
        refine swp_ent (Split.ent' (K := [wkV w W.sv (.slice A xs.length cap) (steps + 1) limit, ro μ3, blk b9 85 [.slice none 0 0, .slice none 0 0, .slice none 0 0], W.A s1, naA tv, own 85 3 (.slice A xs.length cap) xs.length (xs.flatMap encV)]) (by repeat (first | exact Split.nil | (apply Split.cons; (repeat (first | with_reducible exact Take.here | apply Take.there)))))) ?_
        refine swp_draw [7, 10] ([wkV w W.sv (.slice A xs.length cap) (steps + 1) limit, ro μ3]) ([blk b9 85 [.slice none 0 0, .slice none 0 0, .slice none 0 0], W.A s1, naA tv, own 85 3 (.slice A xs.length cap) xs.length (xs.flatMap encV)]) (Split.ent (by repeat (first | exact Split.nil | (apply Split.cons; (repeat (first | with_reducible exact Take.here | apply Take.there)))))) (by kernel_rfl) ?_
        refine d_pu 0 rfl (pu_move rfl) (by kernel_rfl) (by kernel_rfl) (by kernel_rfl) ?_
        refine d_pu 1 rfl (hlo _ _ _ .i64 1 rfl rfl rfl) (by kernel_rfl) (by kernel_rfl) (by kernel_rfl) ?_
        refine d_pu 2 rfl (pu_move rfl) (by kernel_rfl) (by kernel_rfl) (by kernel_rfl) ?_
        refine d_pu 3 rfl (pu_slice3 1 1 (congrArg some hlv) rfl rfl rfl rfl (Nat.le_refl _) (by rw [List.length_cons] at hlc; omega)) (by kernel_rfl) (by kernel_rfl) (by kernel_rfl) ?_
        refine d_pu 4 rfl (pu_move rfl) (by kernel_rfl) (by kernel_rfl) (by kernel_rfl) ?_
        first | refine d_pu 5 rfl (pu_nilCheck rfl) (by kernel_rfl) (by kernel_rfl) (by kernel_rfl) ?_ | refine d_pu 5 rfl (pu_nilCheck_fn rfl) (by kernel_rfl) (by kernel_rfl) (by kernel_rfl) ?_ | refine d_pu 5 rfl (pu_nilCheck_if rfl) (by kernel_rfl) (by kernel_rfl) (by kernel_rfl) ?_
        first | refine d_pu 6 rfl (pu_fieldAddr0 rfl) (by kernel_rfl) (by kernel_rfl) (by kernel_rfl) ?_ | refine d_pu 6 rfl (pu_fieldAddr rfl) (by kernel_rfl) (by kernel_rfl) (by kernel_rfl) ?_
        refine d_rd 7 rfl (rd_load rfl rfl) rfl (by kernel_rfl) (by kernel_rfl) (by kernel_rfl) ?_
        refine d_pu 8 rfl (pu_move rfl) (by kernel_rfl) (by kernel_rfl) (by kernel_rfl) ?_
        refine d_pu 9 rfl (pu_indexAddr (go + 0 * 1) (congrArg some hlv) rfl (by omega) (by rw [List.length_cons]; omega) rfl) (by kernel_rfl) (by kernel_rfl) (by kernel_rfl) ?_
        refine d_rd 10 rfl (rd_ro rfl hcell) rfl (by kernel_rfl) (by kernel_rfl) (by kernel_rfl) ?_
        first | refine d_pu 11 rfl (pu_nilCheck rfl) (by kernel_rfl) (by kernel_rfl) (by kernel_rfl) ?_ | refine d_pu 11 rfl (pu_nilCheck_fn rfl) (by kernel_rfl) (by kernel_rfl) (by kernel_rfl) ?_ | refine d_pu 11 rfl (pu_nilCheck_if rfl) (by kernel_rfl) (by kernel_rfl) (by kernel_rfl) ?_
        refine d_pu 12 rfl (pu_move rfl) (by kernel_rfl) (by kernel_rfl) (by kernel_rfl) ?_
        first | refine d_fint 13 rfl (by kernel_rfl) (by kernel_rfl) (ef_invS rfl (Nat.zero_le _) (hcontent W μ3 hW3 s1 k0 hk0n) rfl (by repeat (first | exact Split.nil | (apply Split.cons; (repeat (first | with_reducible exact Take.here | apply Take.there)))))) ?_ | refine d_finf 13 rfl (by kernel_rfl) (by kernel_rfl) (ef_invS rfl (Nat.zero_le _) (hcontent W μ3 hW3 s1 k0 hk0n) rfl (by repeat (first | exact Split.nil | (apply Split.cons; (repeat (first | with_reducible exact Take.here | apply Take.there)))))) ?_
        rintro v54 L1 ⟨⟨AT, cT, rfl⟩, rfl⟩
        refine swd_app ?_
        refine d_pu 14 rfl (pu_bld (qs := [(0, _), (1, _), (2, _)]) rfl) (by kernel_rfl) (by kernel_rfl) (by kernel_rfl) ?_
        first | refine d_fin0t 15 rfl (by kernel_rfl) (by kernel_rfl) (ef_storeA rfl rfl rfl rfl) ?_ | refine d_fin0f 15 rfl (by kernel_rfl) (by kernel_rfl) (ef_storeA rfl rfl rfl rfl) ?_
        refine d_sub _ (.cons (t := 0) rfl (.cons (t := 9) rfl .nil)) ?_
        first | refine d_nilt (by kernel_rfl) ?_ | refine d_nilf (by kernel_rfl) ?_
        refine then_n ⟨⟨.slice AR bl.length cR, .slice (some ⟨gb, go, none⟩) 1 1, .slice AT (treeOf W.T k0).length cT, ⟨bl, [(k0 : Int)], treeOf W.T k0⟩, false⟩, lookS s1 k0, ⟨rfl, rfl, trivial⟩, Split.ent' (by repeat (first | exact Split.nil | (apply Split.cons; (repeat (first | with_reducible exact Take.here | apply Take.there))))), rfl, ?_, ⟨hr', fun _ => ⟨⟨rfl, some ⟨gb, go, none⟩, 1, rfl, Nat.le_refl _, by decide, (fun h => by cases h), fun _ => ⟨gb, go, rfl, fun j u hj => hra j u ?_⟩⟩, _, rfl⟩, ⟨⟨_, _, rfl⟩, _, _, rfl⟩, ?_, ?_, vt_ok hW3 hk0n⟩, hs1⟩
        · rfl
        · have hj0 : j = 0 := by
            have := (List.getElem?_eq_some_iff.1 hj).1
            rw [show (ivs [(k0 : Int)]).length = 1 from rfl] at this
            omega
          subst hj0
          exact hj
        · intro c hc
          exact hin c hc
        · rw [List.length_cons] at hle
          show 1 + bl.length ≤ W.n
          omega
      · skip   -- 40 F
        have h40' : bs = [] := by
          have := of_decide_eq_false h40
          cases bs with
          | nil => rfl
          | cons _ _ => exfalso; rw [List.length_cons] at this; omega
        refine swp_skip ?_
        subst h40'
        refine then_n ⟨⟨.slice none 0 0, .slice none 0 0, .slice none 0 0, ⟨[], [], []⟩, false⟩, s1, ⟨rfl, rfl, trivial⟩, ?_, rfl, rfl, ⟨Row.nil _ _, fun _ => ⟨Row.nil _ _, _, rfl⟩, ⟨⟨_, _, rfl⟩, _, _, rfl⟩, (fun c hc => by cases hc), Nat.zero_le _, TOk.nil _⟩, hs1⟩
        exact own_nil_ent.trans (Split.ent' (K := [blk b9 85 [.slice none 0 0, .slice none 0 0, .slice none 0 0], own 52 2 (.slice none 0 0) 0 [], naA tv, wkV w W.sv (.slice A xs.length cap) (steps + 1) limit, own 85 3 (.slice A xs.length cap) xs.length (xs.flatMap encV), W.A s1, ro μ3]) (by repeat (first | exact Split.nil | (apply Split.cons; (repeat (first | with_reducible exact Take.here | apply Take.there))))))
    rintro env L ⟨nv, s3, hsub, hE, hown, hfr, hok, hs3⟩
    refine swp_sub _ hsub ?_
    refine swp_ent hE ?_
    clear hsub hE env L
    obtain ⟨nr, nn, nt, nf, no⟩ := nv
    have hok' := hok
    obtain ⟨hq1, _, hq3, _⟩ := hok'
    obtain ⟨_, AR, cR, e1, _⟩ := hq1
    obtain ⟨⟨AN, cN, e2⟩, AT, cT, e3⟩ := hq3
    dsimp only at e1 e2 e3
    subst e1 e2 e3
    refine swp_seq ?_
    refine swp_draw [4, 5] _ [] (by simp only [List.append_nil]; exact Ent.refl _) (by kernel_rfl) ?_
    refine d_pu 0 rfl (pu_move rfl) (by kernel_rfl) (by kernel_rfl) (by kernel_rfl) ?_
    refine d_pu 1 rfl (pu_move rfl) (by kernel_rfl) (by kernel_rfl) (by kernel_rfl) ?_
    first | refine d_pu 2 rfl (pu_nilCheck rfl) (by kernel_rfl) (by kernel_rfl) (by kernel_rfl) ?_ | refine d_pu 2 rfl (pu_nilCheck_fn rfl) (by kernel_rfl) (by kernel_rfl) (by kernel_rfl) ?_ | refine d_pu 2 rfl (pu_nilCheck_if rfl) (by kernel_rfl) (by kernel_rfl) (by kernel_rfl) ?_
    first | refine d_pu 3 rfl (pu_fieldAddr0 rfl) (by kernel_rfl) (by kernel_rfl) (by kernel_rfl) ?_ | refine d_pu 3 rfl (pu_fieldAddr rfl) (by kernel_rfl) (by kernel_rfl) (by kernel_rfl) ?_
    refine d_rd 4 rfl (rd_load rfl rfl) rfl (by kernel_rfl) (by kernel_rfl) (by kernel_rfl) ?_
    first | refine d_rd 5 rfl (rd_loadW rfl rfl) rfl (by kernel_rfl) (by kernel_rfl) (by kernel_rfl) ?_ | refine d_rd 5 rfl (rd_loadX rfl rfl rfl) rfl (by kernel_rfl) (by kernel_rfl) (by kernel_rfl) ?_
    refine d_eft 6 rfl (by kernel_rfl) (ef_bldS (qs := [(0, _)]) rfl rfl rfl) ?_
    intro b62
    refine ⟨_, Split.ent (by repeat (first | exact Split.nil | (apply Split.cons; (repeat (first | with_reducible exact Take.here | apply Take.there))))), ?_⟩
    first | refine d_fint 7 rfl (by kernel_rfl) (by kernel_rfl) (ef_append_lit (l := xs.length) (m := 1) (news := [.slice AR nf.rest.length cR, .slice AN nf.node.length cN, .slice AT nf.tree.length cT]) rfl rfl (by repeat (first | exact Split.nil | (apply Split.cons; (repeat (first | with_reducible exact Take.here | apply Take.there))))) (by simp only [maxLen]; omega) (by omega)) ?_ | refine d_finf 7 rfl (by kernel_rfl) (by kernel_rfl) (ef_append_lit (l := xs.length) (m := 1) (news := [.slice AR nf.rest.length cR, .slice AN nf.node.length cN, .slice AT nf.tree.length cT]) rfl rfl (by repeat (first | exact Split.nil | (apply Split.cons; (repeat (first | with_reducible exact Take.here | apply Take.there))))) (by simp only [maxLen]; omega) (by omega)) ?_
    rintro st' hst'
    obtain ⟨g7, c7, rfl⟩ := hst' (by decide)
    first | refine d_pu 8 rfl (pu_nilCheck rfl) (by kernel_rfl) (by kernel_rfl) (by kernel_rfl) ?_ | refine d_pu 8 rfl (pu_nilCheck_fn rfl) (by kernel_rfl) (by kernel_rfl) (by kernel_rfl) ?_ | refine d_pu 8 rfl (pu_nilCheck_if rfl) (by kernel_rfl) (by kernel_rfl) (by kernel_rfl) ?_
    first | refine d_pu 9 rfl (pu_fieldAddr0 rfl) (by kernel_rfl) (by kernel_rfl) (by kernel_rfl) ?_ | refine d_pu 9 rfl (pu_fieldAddr rfl) (by kernel_rfl) (by kernel_rfl) (by kernel_rfl) ?_
    first | refine d_fin0t 10 rfl (by kernel_rfl) (by kernel_rfl) (ef_store rfl rfl rfl) ?_ | refine d_fin0f 10 rfl (by kernel_rfl) (by kernel_rfl) (ef_store rfl rfl rfl) ?_
    refine d_sub _ .nil ?_
    first | refine d_nilt (by kernel_rfl) ?_ | refine d_nilf (by kernel_rfl) ?_
    refine then_n ?_
    refine swp_seq ?_
    refine swp_region ?_
    refine s_pu (pu_assign rfl) ?_
    refine swl_sub _ (.cons (t := 6) rfl .nil) ?_
    refine swl_nil ?_
    refine then_n ?_
    refine swp_ret ?_
    refine done_retE [naA tv, wkV w W.sv (.slice (some ⟨g7, 0, none⟩) (xs.length + 1) c7) (steps + 1) limit, own 85 3 (.slice (some ⟨g7, 0, none⟩) (xs.length + 1) c7) (xs.length + 1) (xs.flatMap encV ++ encV ⟨.slice AR nf.rest.length cR, .slice AN nf.node.length cN, .slice AT nf.tree.length cT, nf, no⟩), treeA ⟨.slice AR nf.rest.length cR, .slice AN nf.node.length cN, .slice AT nf.tree.length cT, nf, no⟩, W.A s3, ro μ3] (.tmp rfl .nil) (.inr ⟨h18', rfl, _, _, _, s3, μ3, hown, hfr, hok, hs3, h1.trans (h2.trans h3), rfl⟩) (Split.ent' (by repeat (first | exact Split.nil | (apply Split.cons; (repeat (first | with_reducible exact Take.here | apply Take.there))))))
end SX
namespace SX
open Go Go.Proofs
theorem own_less {e n l c : Nat} {A : Option Addr} {xs ys : List Value} {L : List Assn} (hx : xs.length = l * n) : Ent (own e n (.slice A (l + 1) c) (l + 1) (xs ++ ys) :: L) (own e n (.slice A l c) l xs :: L) :=
  Ent.imp fun m ⟨_, h2⟩ => by
    rcases h2 with ⟨h3, _⟩ | ⟨g, cap, cur, h3, h4, h5, h6, h7, h8⟩
    · have := (Value.slice.inj h3).2.1; omega
    · obtain ⟨rfl, _, rfl⟩ := Value.slice.inj h3
      refine ⟨hx, .inr ⟨g, c, cur, rfl, h4, by omega, h6, h7, ?_⟩⟩
      have h9 := congrArg (List.take (l * n)) h8
      rw [List.take_take, Nat.min_eq_left (Nat.mul_le_mul_right n (Nat.le_succ l)), ← hx, List.take_left'  rfl] at h9
      rw [← hx]; exact h9
theorem set_tail {α : Type} {xs ys : List α} {i j : Nat} {v : α} (h : i = xs.length + j) : (xs ++ ys).set i v = xs ++ ys.set j v := by
  subst h
  rw [List.set_append_right (h := Nat.le_add_right _ _), Nat.add_sub_cancel_left]
theorem Spec.rowed {P : Program} {f : FuncId} {args : List Value} {pre : List Assn} {e n l : Nat} {xs : List Value} {B : Assn} {μ : PH} (h : Spec P f args pre (fun r L => L = [own e n r l xs, B, ro μ])) : Spec P f args pre (fun r L => ∃ μ', Le μ μ' ∧ Row μ' r n l xs ∧ L = [B, ro μ']) := fun E w hw =>
  (h E w hw).mono fun e' w' ⟨v, L', he, hl, hh⟩ => by
    subst hl
    obtain ⟨μ', h1, h2, h3⟩ := (hh.ent (Split.ent' (K := [own e n v l xs, ro μ, B]) (by repeat (first | exact Split.nil | (apply Split.cons; (repeat (first | with_reducible exact Take.here | apply Take.there))))))).share_own
    exact ⟨v, _, he, ⟨μ', h1, h2, rfl⟩, h3.ent Ent.swap⟩
/-- a commit's tree, only to be read -/
theorem hcontentR (W : HW) (μ : PH) (h : W.Ok μ) (s : HSt) (c : Nat) (hc : c < W.n) : InvS Tryd.prog 0 31 (.pointer (some ⟨W.p, 0, none⟩)) "Content" [.int .i64 (c : Nat)] [W.A s, ro μ]
    (fun r L => ∃ μ', Le μ μ' ∧ Row μ' r 2 (treeOf W.T c).length (ens (treeOf W.T c)) ∧ L = [W.A (lookS s c), ro μ']) := InvS.of (Spec.rowed (content_spec W μ h s c hc))
theorem three_form (μ : PH) (va vb vc : Value) (a b c : List En) (ha : Row μ va 2 a.length (ens a)) (hb : Row μ vb 2 b.length (ens b)) (hc : Row μ vc 2 c.length (ens c)) (hsz : a.length ≤ 1048576 ∧ b.length ≤ 1048576 ∧ c.length ≤ 1048576) (hu : U32s a ∧ U32s b ∧ U32s c) :
    Spec Tryd.prog 16 [va, vb, vc] [ro μ] (fun r L => ∃ A k v9 μ', Le μ μ' ∧ r = .tuple #[.slice A (VM a b c).length k, v9] ∧ L = [own 52 2 (.slice A (VM a b c).length k) (VM a b c).length (ens (VM a b c)), own 96 4 v9 (cfR (rowsB a b c)).length (cfs (cfR (rowsB a b c))), ro μ']) := fun E w hw =>
  (three_spec μ va vb vc a b c ha hb hc hsz hu E w hw).mono fun e' w' ⟨v, L', he, ⟨v8, v9, μ', h1, h2, h3⟩, hh⟩ => by
    subst h3
    obtain ⟨k1, k2, k3, k4, k5⟩ := hh
    obtain ⟨A, k, hv, _⟩ := own_cap2 (Sat.perm (perm_out (X := E.X) (.refl _)) _ k5)
    subst hv
    exact ⟨v, _, he, ⟨A, k, v9, μ', h1, h2, rfl⟩, k1, k2, k3, k4, k5⟩
/-- a node, by its parts -/
def naB (v : Value) (l : List Int) (o : Bool) : Assn := star (if o = true then [own 3 1 v l.length (ivs l)] else [])
theorem naB_eq (x : VV) : naA x = naB x.node x.f.node x.own := rfl
theorem ef_append_na {env : Env} {L R : List Assn} {μ : PH} {x y : Operand} {v s : Value} {l : List Int} {c : Int} {o : Bool} (hx : evalE env x = some v) (hy : evalE env y = some s) (hs : Row μ s 1 1 [.int .i64 c]) (hL : Split L [naB v l o, ro μ] R)
    (hv : o = false → Row μ v 1 l.length (ivs l) ∧ ∃ A, v = .slice A l.length l.length) (hl : l.length ≤ 1000000) :
    Ef Tryd.prog env L (.call { callee := .builtin .append, args := #[x, y], argTypes := #[43, 43] }) (fun k => ∀ A cap o', (o' = false → Row μ (.slice A (l ++ [c]).length cap) 1 (l ++ [c]).length (ivs (l ++ [c])) ∧ ∃ A', Value.slice A (l ++ [c]).length cap = .slice A' (l ++ [c]).length (l ++ [c]).length) → k (.slice A (l ++ [c]).length cap) (naB (.slice A (l ++ [c]).length cap) (l ++ [c]) o' :: ro μ :: R)) := by
  intro ro_ dst tt pos af g N E a w next Q k hf hh hk hn
  have e1 : ivs (l ++ [c]) = ivs l ++ [.int .i64 c] := by rw [ivs, List.flatMap_append]; rfl
  have e2 : (l ++ [c]).length = l.length + 1 := by rw [List.length_append]; rfl
  have hcat : Cat μ 3 1 v l.length (ivs l) (if o = true then own 3 1 v l.length (ivs l) :: ro μ :: R else ro μ :: R) R := by
    cases o with
    | false => exact .inl ⟨rfl, (hv rfl).1, (hv rfl).2⟩
    | true => exact .inr rfl
  have hent : Ent L (if o = true then own 3 1 v l.length (ivs l) :: ro μ :: R else ro μ :: R) := by
    refine hL.ent.trans ?_
    cases o with
    | false => exact Ent.drop
    | true => exact star_ent
  refine ef_append_cat (P := Tryd.prog) (t := 43) (env := env) (x := x) (y := y) (m := 1) (news := [.int .i64 c]) hcat hs hx hy rfl (by simp only [maxLen]; omega) (by omega) rfl (by decide) ro_ dst tt pos af g N E a w next Q (fun u L' => Cat μ 3 1 u (l.length + 1) (ivs l ++ [.int .i64 c]) L' R) hf (hh.ent hent) (fun _ _ hc => hc) ?_
  rintro u w' L' hc hh'
  rcases hc with ⟨rfl, hr, A, hA⟩ | rfl
  · subst hA
    rw [← e1, ← e2] at hr
    rw [← e2]
    exact hn _ _ _ (hk A _ false fun _ => ⟨hr, A, rfl⟩) (hh'.ent (star_close (K := [])))
  · obtain ⟨h1, h2, h3, h4, h5⟩ := hh'
    obtain ⟨A, cap, hu, _⟩ := own_cap2 (Sat.perm (perm_out (X := E.X) (.refl _)) _ h5)
    subst hu
    rw [← e1, ← e2] at h5
    rw [← e2]
    exact hn _ _ _ (hk A cap true fun h => by cases h) ((show H E w' (own 3 1 (.slice A (l ++ [c]).length cap) (l ++ [c]).length (ivs (l ++ [c])) :: ro μ :: R) from ⟨h1, h2, h3, h4, h5⟩).ent (star_close (K := [own 3 1 (.slice A (l ++ [c]).length cap) (l ++ [c]).length (ivs (l ++ [c]))])))
end SX
namespace SX
open Go Go.Proofs
def vvsA (xs : List VV) : Assn := star (xs.flatMap fun x => [treeA x, naA x])
theorem vvs_open {ys : List VV} {x : VV} {L : List Assn} : Ent (vvsA (ys ++ [x]) :: L) (treeA x :: naA x :: vvsA ys :: L) := by
  refine star_ent.trans ?_
  rw [List.flatMap_append]
  refine Ent.trans (Ent.perm ?_) (Ent.under (X := [treeA x, naA x]) star_close)
  show List.Perm ((ys.flatMap (fun x => [treeA x, naA x]) ++ [treeA x, naA x]) ++ L) ([treeA x, naA x] ++ (ys.flatMap (fun x => [treeA x, naA x]) ++ L))
  rw [List.append_assoc]
  exact List.perm_append_comm_assoc _ _ _
theorem vvs_close {ys : List VV} {x : VV} {L : List Assn} : Ent (treeA x :: naA x :: vvsA ys :: L) (vvsA (ys ++ [x]) :: L) := by
  refine Ent.trans ?_ star_close
  rw [List.flatMap_append]
  refine Ent.trans (Ent.under (X := [treeA x, naA x]) star_ent) (Ent.perm ?_)
  show List.Perm ([treeA x, naA x] ++ (ys.flatMap (fun x => [treeA x, naA x]) ++ L)) ((ys.flatMap (fun x => [treeA x, naA x]) ++ [treeA x, naA x]) ++ L)
  rw [List.append_assoc]
  exact (List.perm_append_comm_assoc _ _ _)
/-- a stack of which the topmost is shown -/
abbrev stB (A : Option Addr) (cap : Nat) (zs : List VV) (u : VV) : Assn := own 85 3 (.slice A (zs.length + 1) cap) (zs.length + 1) (zs.flatMap encV ++ encV u)
theorem zs_len (zs : List VV) : (zs.flatMap encV).length = zs.length * 3 := flat_length (f := encV) (k := 3) (fun _ => rfl) zs
theorem stB_get {zs : List VV} {u : VV} {j : Nat} {v : Value} (h : (encV u)[j]? = some v) : (zs.flatMap encV ++ encV u)[0 + zs.length * 3 + j]? = some v := by
  rw [Nat.zero_add, ← zs_len, List.getElem?_append_right (Nat.le_add_right _ _), Nat.add_sub_cancel_left]; exact h
theorem tl_get {zs : List VV} {us : List Value} {j : Nat} {v : Value} (h : us[j]? = some v) : (zs.flatMap encV ++ us)[0 + zs.length * 3 + j]? = some v := by
  rw [Nat.zero_add, ← zs_len, List.getElem?_append_right (Nat.le_add_right _ _), Nat.add_sub_cancel_left]; exact h
theorem tl_set {zs : List VV} {us : List Value} {j : Nat} {v : Value} : (zs.flatMap encV ++ us).set (0 + zs.length * 3 + j) v = zs.flatMap encV ++ us.set j v := set_tail (by rw [zs_len]; omega)
theorem tl_len {zs : List VV} {us : List Value} (h : us.length = 3) : (zs.flatMap encV ++ us).length = zs.length * 3 + 3 := by rw [List.length_append, zs_len, h]
abbrev stA (A : Option Addr) (cap : Nat) (xs : List VV) : Assn := own 85 3 (.slice A xs.length cap) xs.length (xs.flatMap encV)
theorem stA_B (A : Option Addr) (cap : Nat) (zs : List VV) (u : VV) : stA A cap (zs ++ [u]) = stB A cap zs u := by
  have e1 : (zs ++ [u]).length = zs.length + 1 := by rw [List.length_append]; rfl
  have e2 : (zs ++ [u]).flatMap encV = zs.flatMap encV ++ encV u := by rw [List.flatMap_append]; simp only [List.flatMap_cons, List.flatMap_nil, List.append_nil]
  show own 85 3 _ _ _ = _
  rw [e1, e2]
/-- what push leaves -/
def PushL (W : HW) (w : Nat) (tv : VV) (A : Option Addr) (cap : Nat) (xs : List VV) (steps limit : Nat) (s : HSt) (m : Nat) (μ : PH) (y e : Int) (L : List Assn) : Prop :=
  (limit ≤ steps ∧ e = 12 ∧ L = [naA tv, wkV w W.sv (.slice A xs.length cap) steps limit, stA A cap xs, W.A s, ro μ]) ∨
  (steps < limit ∧ e = 0 ∧ ∃ (nv : VV) (A2 : Option Addr) (cap2 : Nat) (s2 : HSt) (μ2 : PH), nv.own = false ∧ nv.f = vfr (VT W) [] (VS W tv.f.node y) ∧ nv.Ok W.n W.U μ2 ∧ AskB (m + 1) s2 ∧ Le μ μ2 ∧
    L = [naA tv, wkV w W.sv (.slice A2 (xs ++ [nv]).length cap2) (steps + 1) limit, stA A2 cap2 (xs ++ [nv]), treeA nv, W.A s2, ro μ2])
theorem push_e (W : HW) (μ0 : PH) (hW : W.Ok μ0) (hn : W.n ≤ 10000) (μ : PH) (h0 : Le μ0 μ) (hT : RowAt μ 1 0 tabV) (w : Nat) (s : HSt) (m : Nat) (hs : AskB m s) (hm : m + 1 ≤ 4611686018427387904) (A : Option Addr) (cap : Nat) (xs : List VV) (steps limit : Nat) (hsl : xs.length ≤ steps) (hlim : limit ≤ 4096)
    (tv : VV) (y : Int) (hx : tv.own = false → Row μ tv.node 1 tv.f.node.length (ivs tv.f.node)) :
    Spec Tryd.prog 24 [.pointer (some ⟨w, 0, none⟩), tv.node, .int .i64 y] [naA tv, wkV w W.sv (.slice A xs.length cap) steps limit, stA A cap xs, W.A s, ro μ] (fun r L => ∃ e, r = .int .i64 e ∧ PushL W w tv A cap xs steps limit s m μ y e L) :=
  (push_spec W μ0 hW hn μ h0 hT w s m hs hm A cap xs steps limit hsl hlim tv y hx).mono fun r L k => by
    rcases k with ⟨h1, h2, h3⟩ | ⟨h1, h2, nv, A2, cap2, s2, μ2, h3, h4, h5, h6, h7, h8⟩
    · exact ⟨12, h2, .inl ⟨h1, rfl, h3⟩⟩
    · refine ⟨0, h2, .inr ⟨h1, rfl, nv, A2, cap2, s2, μ2, h3, h4, h5, h6, h7, ?_⟩⟩
      rw [h8, show (xs ++ [nv]).length = xs.length + 1 by rw [List.length_append]; rfl]
      show _ = [_, _, own 85 3 (.slice A2 (xs ++ [nv]).length cap2) (xs ++ [nv]).length ((xs ++ [nv]).flatMap encV), _, _, _]
      rw [show (xs ++ [nv]).length = xs.length + 1 by rw [List.length_append]; rfl, List.flatMap_append]
      simp only [List.flatMap_cons, List.flatMap_nil, List.append_nil]
/-- what is left of a call: nothing came, or the first question's node -/
def RunL (W : HW) (w : Nat) (limit m : Nat) (μ : PH) (R : Option (List En × Bool) × Nat) (r : Value) (L : List Assn) : Prop := ∃ (s' : HSt) (μ' : PH), Le μ μ' ∧ AskB (m + limit) s' ∧
  ((R.1 = none ∧ r = .tuple #[.agg #[.slice none 0 0, .slice none 0 0, .slice none 0 0], .int .i64 12] ∧ L = [W.A s', ro μ']) ∨
   ∃ (nv : VV) (st : Value) (steps : Nat), R = (some (nv.f.tree, !nv.f.node.isEmpty), limit - steps) ∧ steps ≤ limit ∧ nv.Ok W.n W.U μ' ∧ r = .tuple #[.agg (encV nv).toArray, .int .i64 0] ∧ L = [wkV w W.sv st steps limit, treeA nv, W.A s', ro μ'])
set_option maxHeartbeats 16000000 in
theorem run_spec (W : HW) (μ0 : PH) (hW : W.Ok μ0) (hn : W.n ≤ 10000) (μ : PH) (h0 : Le μ0 μ) (hT : RowAt μ 1 0 tabV) (w : Nat) (s : HSt) (m : Nat) (limit : Nat) (hlim : limit ≤ 4096) (hm : m + 4097 ≤ 4611686018427387904) (A : Option Addr) (cap : Nat) (nv0 : VV) (steps : Nat) (hs : AskB (m + steps) s) (h1 : 1 ≤ steps) (hsl : steps ≤ limit)
    (hok : nv0.Ok W.n W.U μ) (R : Option (List En × Bool) × Nat) (hR : vst (VS W) (VT W) VM [] [nv0.f] (limit - steps) = R) :
    Spec Tryd.prog 25 [.pointer (some ⟨w, 0, none⟩)] [wkV w W.sv (.slice A 1 cap) steps limit, stA A cap [nv0], treeA nv0, naA nv0, W.A s, ro μ] (RunL W w limit m μ R) := by
  have hUl := HW.U_len hW hn
  refine Spec.of 120 Tryd.func25 rfl rfl rfl ?_
  refine swp_seq ?_
  refine swp_region ?_
  refine s_ef (ef_alloc) ?_
  intro b2
  refine s_pu (pu_assign rfl) ?_
  refine swl_sub _ (.cons (t := 0) rfl (.cons (t := 2) rfl .nil)) ?_
  refine swl_nil ?_
  refine then_n ?_
  refine swp_block ?_
  refine swp_loop (ι := Nat × Nat) (fun k env L => ∃ (xs : List VV) (A : Option Addr) (cap : Nat) (s : HSt) (μ1 : PH), Sub env [(0, .pointer (some ⟨w, 0, none⟩)), (2, .pointer (some ⟨b2, 0, none⟩))] ∧ xs.length = k.2 ∧ 0 < k.2 ∧ k.2 ≤ k.1 ∧ k.1 ≤ limit ∧ Ent L [wkV w W.sv (.slice A xs.length cap) k.1 limit, stA A cap xs, vvsA xs, blk b2 85 [.slice none 0 0, .slice none 0 0, .slice none 0 0], W.A s, ro μ1] ∧ Le μ μ1 ∧ AskB (m + k.1) s ∧ (∀ x ∈ xs, x.Ok W.n W.U μ1) ∧ (∀ ys y, xs = ys ++ [y] → ∀ x ∈ ys, x.f.rest ≠ []) ∧ vst (VS W) (VT W) VM [] (xs.reverse.map (·.f)) (limit - k.1) = R) (fun k => 2 * (limit - k.1) + k.2) (steps, 1) ⟨[nv0], A, cap, s, μ, ⟨rfl, rfl, trivial⟩, rfl, Nat.zero_lt_one, h1, hsl, ?_, Le.refl _, hs, ?_, ?_, hR⟩ ?_
  · exact Ent.trans (Split.ent' (K := [treeA nv0, naA nv0, wkV w W.sv (.slice A 1 cap) steps limit, stA A cap [nv0], blk b2 85 [.slice none 0 0, .slice none 0 0, .slice none 0 0], W.A s, ro μ]) (by repeat (first | exact Split.nil | (apply Split.cons; (repeat (first | with_reducible exact Take.here | apply Take.there)))))) ((Ent.under (X := [treeA nv0, naA nv0]) (star_close (K := []))).trans ((vvs_close (ys := [])).trans (show Ent (vvsA [nv0] :: wkV w W.sv (.slice A 1 cap) steps limit :: stA A cap [nv0] :: blk b2 85 [.slice none 0 0, .slice none 0 0, .slice none 0 0] :: W.A s :: ro μ :: []) [wkV w W.sv (.slice A 1 cap) steps limit, stA A cap [nv0], vvsA [nv0], blk b2 85 [.slice none 0 0, .slice none 0 0, .slice none 0 0], W.A s, ro μ] from Split.ent' (by repeat (first | exact Split.nil | (apply Split.cons; (repeat (first | with_reducible exact Take.here | apply Take.there))))))))
  · intro x hx; rw [List.mem_singleton.1 hx]; exact hok
  · intro ys y e x hx
    cases ys with
    | nil => cases hx
    | cons z zs =>
      have := congrArg List.length e
      simp at this
  clear hR hok hs hsl h1
  rintro ⟨steps, len⟩ env L ⟨xs, A, cap, s, μ1, hsub, hlen, hl0, hls, hsl, hE, hle, hs, hok, hrs, hR⟩
  dsimp only at hlen hl0 hls hsl hE hs hR
  refine swp_sub _ hsub ?_
  refine swp_ent hE ?_
  clear hsub hE env L
  obtain ⟨ys, top, rfl⟩ : ∃ ys top, xs = ys ++ [top] := by
    rcases List.eq_nil_or_concat xs with rfl | ⟨ys, top, e⟩
    · rw [List.length_nil] at hlen; omega
    · exact ⟨ys, top, by rw [e]; simp⟩
  have hyl : len = ys.length + 1 := by rw [← hlen, List.length_append]; rfl
  have hxl : (ys ++ [top]).length = ys.length + 1 := by rw [List.length_append]; rfl
  have htop := hok top (by simp)
  rw [stA_B, hxl]
  refine swp_ent (Split.ent' (K := [stB A cap ys top, vvsA (ys ++ [top]), wkV w W.sv (.slice A (ys.length + 1) cap) steps limit, blk b2 85 [.slice none 0 0, .slice none 0 0, .slice none 0 0], W.A s, ro μ1]) (by repeat (first | exact Split.nil | (apply Split.cons; (repeat (first | with_reducible exact Take.here | apply Take.there)))))) ?_
  refine swp_fact (fun m h => own_cap2 h) fun ⟨A', cap', hA1, hlc, hcm, hAn, hAs⟩ => ?_
  obtain ⟨rfl, _, rfl⟩ := Value.slice.inj hA1
  obtain ⟨a, ha⟩ : ∃ a, A = some a := by cases A with | none => have := hAn rfl; omega | some a => exact ⟨a, rfl⟩
  obtain ⟨g, rfl⟩ := hAs a ha
  subst ha
  simp only [maxLen] at hcm
  have hW1 := hW.le (h0.trans hle)
  have hT1 := hT.le hle
  refine swp_block ?_
  refine swp_seq ?_
  refine swp_draw [3, 7] _ [] (by simp only [List.append_nil]; exact Ent.refl _) (by kernel_rfl) ?_
  refine d_pu 0 rfl (pu_move rfl) (by kernel_rfl) (by kernel_rfl) (by kernel_rfl) ?_
  first | refine d_pu 1 rfl (pu_nilCheck rfl) (by kernel_rfl) (by kernel_rfl) (by kernel_rfl) ?_ | refine d_pu 1 rfl (pu_nilCheck_fn rfl) (by kernel_rfl) (by kernel_rfl) (by kernel_rfl) ?_ | refine d_pu 1 rfl (pu_nilCheck_if rfl) (by kernel_rfl) (by kernel_rfl) (by kernel_rfl) ?_
  first | refine d_pu 2 rfl (pu_fieldAddr0 rfl) (by kernel_rfl) (by kernel_rfl) (by kernel_rfl) ?_ | refine d_pu 2 rfl (pu_fieldAddr rfl) (by kernel_rfl) (by kernel_rfl) (by kernel_rfl) ?_
  refine d_rd 3 rfl (rd_load rfl rfl) rfl (by kernel_rfl) (by kernel_rfl) (by kernel_rfl) ?_
  refine d_pu 4 rfl (pu_move rfl) (by kernel_rfl) (by kernel_rfl) (by kernel_rfl) ?_
  first | refine d_pu 5 rfl (pu_nilCheck rfl) (by kernel_rfl) (by kernel_rfl) (by kernel_rfl) ?_ | refine d_pu 5 rfl (pu_nilCheck_fn rfl) (by kernel_rfl) (by kernel_rfl) (by kernel_rfl) ?_ | refine d_pu 5 rfl (pu_nilCheck_if rfl) (by kernel_rfl) (by kernel_rfl) (by kernel_rfl) ?_
  first | refine d_pu 6 rfl (pu_fieldAddr0 rfl) (by kernel_rfl) (by kernel_rfl) (by kernel_rfl) ?_ | refine d_pu 6 rfl (pu_fieldAddr rfl) (by kernel_rfl) (by kernel_rfl) (by kernel_rfl) ?_
  refine d_rd 7 rfl (rd_load rfl rfl) rfl (by kernel_rfl) (by kernel_rfl) (by kernel_rfl) ?_
  refine d_pu 8 rfl (pu_len rfl) (by kernel_rfl) (by kernel_rfl) (by kernel_rfl) ?_
  refine d_pu 9 rfl (pu_sub_as ((ys.length : Nat) : Int) rfl rfl (by omega) (by omega) (by omega)) (by kernel_rfl) (by kernel_rfl) (by kernel_rfl) ?_
  refine d_pu 10 rfl (pu_indexAddr (0 + ys.length * 3) rfl rfl (by omega) (by omega) (by rw [Int.toNat_natCast])) (by kernel_rfl) (by kernel_rfl) (by kernel_rfl) ?_
  refine d_pu 11 rfl (pu_assign rfl) (by kernel_rfl) (by kernel_rfl) (by kernel_rfl) ?_
  refine d_sub _ (.cons (t := 0) rfl (.cons (t := 2) rfl (.cons (t := 4) rfl .nil))) ?_
  first | refine d_nilt (by kernel_rfl) ?_ | refine d_nilf (by kernel_rfl) ?_
  refine then_n ?_
  refine swp_seq ?_
  refine swp_seq ?_
  refine swp_region ?_
  refine s_pu (pu_move rfl) ?_
  first | refine s_pu (pu_nilCheck rfl) ?_ | refine s_pu (pu_nilCheck_fn rfl) ?_ | refine s_pu (pu_nilCheck_if rfl) ?_
  first | refine s_pu (pu_fieldAddr0 rfl) ?_ | refine s_pu (pu_fieldAddr rfl) ?_
  refine s_rd (rd_own rfl (by repeat (first | with_reducible exact Take.here | apply Take.there)) (stB_get (j := 0) rfl)) ?_
  refine s_pu (pu_len_row htop.rest rfl) ?_
  refine s_pu (pu_gtr rfl rfl) ?_
  refine swl_sub _ (.cons (t := 0) rfl (.cons (t := 2) rfl (.cons (t := 4) rfl (.cons (t := 25) rfl .nil)))) ?_
  refine swl_nil ?_
  refine then_n ?_
  refine swp_cond (b := _) rfl (fun h25 => ?_) (fun h25 => ?_)
  · skip   -- 25 T
    have h25' : 0 < top.f.rest.length := by have := of_decide_eq_true h25; omega
    obtain ⟨c, rs, hrest⟩ : ∃ c rs, top.f.rest = c :: rs := by
      cases hq : top.f.rest with
      | nil => rw [hq] at h25'; exact absurd h25' (by decide)
      | cons c rs => exact ⟨c, rs, rfl⟩
    obtain ⟨rb, ro_, rc, hrv, _, _, hra⟩ := htop.rest.pos h25'
    have hcell := (hra.elem (f := icsk .i64) (n := 1) (fun _ => rfl) (show top.f.rest[0]? = some c by rw [hrest]; rfl)).cell
    refine swp_seq ?_
    refine swp_seq ?_
    refine swp_ent ((Split.ent' (K := [vvsA (ys ++ [top]), stB (some ⟨g, 0, none⟩) cap ys top, wkV w W.sv (.slice (some ⟨g, 0, none⟩) (ys.length + 1) cap) steps limit, blk b2 85 [.slice none 0 0, .slice none 0 0, .slice none 0 0], W.A s, ro μ1]) (by repeat (first | exact Split.nil | (apply Split.cons; (repeat (first | with_reducible exact Take.here | apply Take.there)))))).trans vvs_open) ?_
    refine swp_draw [4, 8, 10] _ [] (by simp only [List.append_nil]; exact Ent.refl _) (by kernel_rfl) ?_
    refine d_pu 0 rfl (pu_move rfl) (by kernel_rfl) (by kernel_rfl) (by kernel_rfl) ?_
    refine d_pu 1 rfl (pu_move rfl) (by kernel_rfl) (by kernel_rfl) (by kernel_rfl) ?_
    first | refine d_pu 2 rfl (pu_nilCheck rfl) (by kernel_rfl) (by kernel_rfl) (by kernel_rfl) ?_ | refine d_pu 2 rfl (pu_nilCheck_fn rfl) (by kernel_rfl) (by kernel_rfl) (by kernel_rfl) ?_ | refine d_pu 2 rfl (pu_nilCheck_if rfl) (by kernel_rfl) (by kernel_rfl) (by kernel_rfl) ?_
    first | refine d_pu 3 rfl (pu_fieldAddr0 rfl) (by kernel_rfl) (by kernel_rfl) (by kernel_rfl) ?_ | refine d_pu 3 rfl (pu_fieldAddr rfl) (by kernel_rfl) (by kernel_rfl) (by kernel_rfl) ?_
    refine d_rd 4 rfl (rd_own rfl (by repeat (first | with_reducible exact Take.here | apply Take.there)) (stB_get (j := 1) rfl)) rfl (by kernel_rfl) (by kernel_rfl) (by kernel_rfl) ?_
    refine d_pu 5 rfl (pu_move rfl) (by kernel_rfl) (by kernel_rfl) (by kernel_rfl) ?_
    first | refine d_pu 6 rfl (pu_nilCheck rfl) (by kernel_rfl) (by kernel_rfl) (by kernel_rfl) ?_ | refine d_pu 6 rfl (pu_nilCheck_fn rfl) (by kernel_rfl) (by kernel_rfl) (by kernel_rfl) ?_ | refine d_pu 6 rfl (pu_nilCheck_if rfl) (by kernel_rfl) (by kernel_rfl) (by kernel_rfl) ?_
    first | refine d_pu 7 rfl (pu_fieldAddr0 rfl) (by kernel_rfl) (by kernel_rfl) (by kernel_rfl) ?_ | refine d_pu 7 rfl (pu_fieldAddr rfl) (by kernel_rfl) (by kernel_rfl) (by kernel_rfl) ?_
    refine d_rd 8 rfl (rd_own rfl (by repeat (first | with_reducible exact Take.here | apply Take.there)) (stB_get (j := 0) rfl)) rfl (by kernel_rfl) (by kernel_rfl) (by kernel_rfl) ?_
    refine d_pu 9 rfl (pu_indexAddr (ro_ + 0 * 1) (congrArg some hrv) rfl (by omega) (by omega) rfl) (by kernel_rfl) (by kernel_rfl) (by kernel_rfl) ?_
    refine d_rd 10 rfl (rd_ro rfl hcell) rfl (by kernel_rfl) (by kernel_rfl) (by kernel_rfl) ?_
    first | refine d_fint 11 rfl (by kernel_rfl) (by kernel_rfl) (ef_fn (push_e W μ0 hW hn μ1 (h0.trans hle) hT1 w s (m + steps) hs (by omega) (some ⟨g, 0, none⟩) cap (ys ++ [top]) steps limit (by omega) hlim top c (fun e => (htop.node e).1)) rfl rfl (by rw [stA_B, hxl]; exact (by repeat (first | exact Split.nil | (apply Split.cons; (repeat (first | with_reducible exact Take.here | apply Take.there))))))) ?_ | refine d_finf 11 rfl (by kernel_rfl) (by kernel_rfl) (ef_fn (push_e W μ0 hW hn μ1 (h0.trans hle) hT1 w s (m + steps) hs (by omega) (some ⟨g, 0, none⟩) cap (ys ++ [top]) steps limit (by omega) hlim top c (fun e => (htop.node e).1)) rfl rfl (by rw [stA_B, hxl]; exact (by repeat (first | exact Split.nil | (apply Split.cons; (repeat (first | with_reducible exact Take.here | apply Take.there))))))) ?_
    rintro v37 L1 ⟨e, rfl, hp⟩
    skip
    refine d_pu 12 rfl (pu_assign rfl) (by kernel_rfl) (by kernel_rfl) (by kernel_rfl) ?_
    refine d_sub _ (.cons (t := 0) rfl (.cons (t := 2) rfl (.cons (t := 5) rfl .nil))) ?_
    first | refine d_nilt (by kernel_rfl) ?_ | refine d_nilf (by kernel_rfl) ?_
    refine then_n ?_
    refine swp_seq ?_
    refine swp_region ?_
    refine s_pu (pu_move rfl) ?_
    refine s_pu (pu_neq rfl rfl) ?_
    refine swl_sub _ (.cons (t := 0) rfl (.cons (t := 2) rfl (.cons (t := 5) rfl (.cons (t := 39) rfl .nil)))) ?_
    refine swl_nil ?_
    refine then_n ?_
    refine swp_cond (b := _) rfl (fun h39 => ?_) (fun h39 => ?_)
    · skip   -- 39 T
      obtain ⟨p1, rfl, rfl⟩ : limit ≤ steps ∧ e = 12 ∧ L1 = [naA top, wkV w W.sv (.slice (some ⟨g, 0, none⟩) (ys ++ [top]).length cap) steps limit, stA (some ⟨g, 0, none⟩) cap (ys ++ [top]), W.A s, ro μ1] := by
        rcases hp with k | ⟨_, he, _⟩
        · exact k
        · rw [he] at h39; cases h39
      simp only [List.cons_append, List.nil_append]
      refine swp_seq ?_
      refine swp_region ?_
      refine s_pu (pu_bld (qs := []) rfl) ?_
      refine s_pu (pu_move rfl) ?_
      refine s_ef0 (ef_storeA rfl rfl rfl rfl) ?_
      refine s_pu (pu_assign rfl) ?_
      refine swl_sub _ (.cons (t := 2) rfl (.cons (t := 3) rfl .nil)) ?_
      refine swl_nil ?_
      refine then_n ?_
      refine swp_ret ?_
      refine then_r ?_
      refine then_r ?_
      refine block_r ?_
      refine then_r ?_
      refine block_r ?_
      refine done_retE [W.A s, ro μ1] (.cell rfl (ld_whole rfl) (.tmp rfl .nil)) ⟨s, μ1, hle, fun c => Nat.le_trans (hs c) (by omega), .inl ⟨?_, rfl, rfl⟩⟩ (Split.ent' (by repeat (first | exact Split.nil | (apply Split.cons; (repeat (first | with_reducible exact Take.here | apply Take.there))))))
      have hout := vst_out (VS W) (VT W) VM [] c rs top.f.node top.f.tree (ys.reverse.map (·.f))
      have hte : (⟨c :: rs, top.f.node, top.f.tree⟩ : VF (List En)) = top.f := by rw [← hrest]
      rw [hte] at hout
      rw [← hR, show limit - steps = 0 by omega, List.reverse_append, List.map_append]
      exact hout
    · skip   -- 39 F
      obtain ⟨p1, rfl, nv, A2, cap2, s2, μ2, hno, hnf, hnok, hs2, hle2, rfl⟩ : steps < limit ∧ e = 0 ∧ ∃ (nv : VV) (A2 : Option Addr) (cap2 : Nat) (s2 : HSt) (μ2 : PH), nv.own = false ∧ nv.f = vfr (VT W) [] (VS W top.f.node c) ∧ nv.Ok W.n W.U μ2 ∧ AskB (m + steps + 1) s2 ∧ Le μ1 μ2 ∧ L1 = [naA top, wkV w W.sv (.slice A2 (ys ++ [top] ++ [nv]).length cap2) (steps + 1) limit, stA A2 cap2 (ys ++ [top] ++ [nv]), treeA nv, W.A s2, ro μ2] := by
        rcases hp with ⟨_, he, _⟩ | k
        · rw [he] at h39; cases h39
        · exact k
      simp only [List.cons_append, List.nil_append]
      refine swp_skip ?_
      refine then_n ?_
      refine swp_exit ?_
      refine then_x ?_
      refine block_hit rfl ?_
      refine then_n ⟨(steps + 1, len + 1), ⟨ys ++ [top] ++ [nv], A2, cap2, s2, μ2, ⟨rfl, rfl, trivial⟩, by rw [List.length_append, hlen]; rfl, by omega, by omega, p1, ?_, hle.trans hle2, hs2, ?_, ?_, ?_⟩, by dsimp only; omega⟩
      · dsimp only
        refine (Split.ent' (K := [treeA top, naA top, vvsA ys, treeA nv, wkV w W.sv (.slice A2 (ys ++ [top] ++ [nv]).length cap2) (steps + 1) limit, stA A2 cap2 (ys ++ [top] ++ [nv]), blk b2 85 [.slice none 0 0, .slice none 0 0, .slice none 0 0], W.A s2, ro μ2]) (by repeat (first | exact Split.nil | (apply Split.cons; (repeat (first | with_reducible exact Take.here | apply Take.there)))))).trans (vvs_close.trans ?_)
        refine (naA_no hno).trans ?_
        refine (Split.ent' (K := [treeA nv, naA nv, vvsA (ys ++ [top]), wkV w W.sv (.slice A2 (ys ++ [top] ++ [nv]).length cap2) (steps + 1) limit, stA A2 cap2 (ys ++ [top] ++ [nv]), blk b2 85 [.slice none 0 0, .slice none 0 0, .slice none 0 0], W.A s2, ro μ2]) (by repeat (first | exact Split.nil | (apply Split.cons; (repeat (first | with_reducible exact Take.here | apply Take.there)))))).trans ?_
        refine vvs_close.trans ?_
        exact Split.ent' (by repeat (first | exact Split.nil | (apply Split.cons; (repeat (first | with_reducible exact Take.here | apply Take.there)))))
      · intro x hx
        rcases List.mem_append.1 hx with hx | hx
        · exact (hok x hx).le hle2
        · rw [List.mem_singleton.1 hx]; exact hnok
      · intro ys' y' he x hx
        obtain ⟨e1, _⟩ := List.append_inj' he rfl
        rw [← e1] at hx
        rcases List.mem_append.1 hx with hx | hx
        · exact hrs ys top rfl x hx
        · rw [List.mem_singleton.1 hx, hrest]; exact fun h => by cases h
      · have hpush := vst_push (VS W) (VT W) VM [] c rs top.f.node top.f.tree (ys.reverse.map (·.f)) (limit - steps) (by omega)
        have hte : (⟨c :: rs, top.f.node, top.f.tree⟩ : VF (List En)) = top.f := by rw [← hrest]
        rw [hte] at hpush
        rw [← hR, List.reverse_append, List.reverse_append, List.map_append, List.map_append]
        show vst (VS W) (VT W) VM [] (nv.f :: top.f :: ys.reverse.map (·.f)) (limit - (steps + 1)) = vst (VS W) (VT W) VM [] (top.f :: ys.reverse.map (·.f)) (limit - steps)
        rw [hpush, hnf]; rfl
  · skip   -- 25 F
    have h25' : top.f.rest = [] := by
      have := of_decide_eq_false h25
      cases hq : top.f.rest with
      | nil => rfl
      | cons _ _ => rw [hq, List.length_cons] at this; omega
    have hte : top.f = ⟨[], top.f.node, top.f.tree⟩ := by rw [← h25']
    refine swp_skip ?_
    refine then_n ?_
    refine swp_seq ?_
    refine swp_region ?_
    refine s_pu (pu_move rfl) ?_
    first | refine s_pu (pu_nilCheck rfl) ?_ | refine s_pu (pu_nilCheck_fn rfl) ?_ | refine s_pu (pu_nilCheck_if rfl) ?_
    refine s_rd (rd_ownA (vs := encV top) rfl (by repeat (first | with_reducible exact Take.here | apply Take.there)) rfl (fun j v hj => stB_get hj)) ?_
    refine s_ef (ef_alloc) ?_
    intro b6
    refine s_ef0 (ef_storeA rfl rfl (encV_one htop) rfl) ?_
    refine swl_sub _ (.cons (t := 0) rfl (.cons (t := 2) rfl (.cons (t := 6) rfl .nil))) ?_
    refine swl_nil ?_
    refine then_n ?_
    refine swp_seq ?_
    refine swp_seq ?_
    refine swp_region ?_
    refine s_pu (pu_move rfl) ?_
    first | refine s_pu (pu_nilCheck rfl) ?_ | refine s_pu (pu_nilCheck_fn rfl) ?_ | refine s_pu (pu_nilCheck_if rfl) ?_
    first | refine s_pu (pu_fieldAddr0 rfl) ?_ | refine s_pu (pu_fieldAddr rfl) ?_
    refine s_rd (rd_load rfl rfl) ?_
    refine s_pu (pu_len rfl) ?_
    refine s_pu (pu_eql rfl rfl) ?_
    refine swl_sub _ (.cons (t := 0) rfl (.cons (t := 2) rfl (.cons (t := 6) rfl (.cons (t := 50) rfl .nil)))) ?_
    refine swl_nil ?_
    refine then_n ?_
    refine swp_cond (b := _) rfl (fun h50 => ?_) (fun h50 => ?_)
    · skip   -- 50 T
      have h50' : ys = [] := by
        have := of_decide_eq_true h50
        exact List.eq_nil_of_length_eq_zero (by omega)
      refine swp_seq ?_
      refine swp_region ?_
      first | refine s_rd (rd_loadW rfl rfl) ?_ | refine s_rd (rd_loadX rfl rfl rfl) ?_
      refine s_ef0 (ef_storeA rfl rfl (encV_one htop) rfl) ?_
      refine s_pu (pu_assign rfl) ?_
      refine swl_sub _ (.cons (t := 2) rfl (.cons (t := 3) rfl .nil)) ?_
      refine swl_nil ?_
      refine then_n ?_
      refine swp_ret ?_
      refine then_r ?_
      refine block_r ?_
      refine then_r ?_
      refine block_r ?_
      subst h50'
      refine done_retE [wkV w W.sv (.slice (some ⟨g, 0, none⟩) ([] : List VV).length.succ cap) steps limit, treeA top, W.A s, ro μ1] (.cell rfl (ld_whole rfl) (.tmp rfl .nil)) ⟨s, μ1, hle, fun c => Nat.le_trans (hs c) (by omega), .inr ⟨top, _, steps, ?_, hsl, htop, rfl, rfl⟩⟩ ?_
      · rw [← hR]
        show vst (VS W) (VT W) VM [] [top.f] (limit - steps) = _
        rw [hte]
        exact vst_end _ _ _ _ _ _ _
      · refine (Split.ent' (K := [vvsA ([] ++ [top]), wkV w W.sv (.slice (some ⟨g, 0, none⟩) (([] : List VV).length + 1) cap) steps limit, W.A s, ro μ1]) (by repeat (first | exact Split.nil | (apply Split.cons; (repeat (first | with_reducible exact Take.here | apply Take.there)))))).trans (vvs_open.trans (Split.ent' (by repeat (first | exact Split.nil | (apply Split.cons; (repeat (first | with_reducible exact Take.here | apply Take.there)))))))
    · skip   -- 50 F
      obtain ⟨zs, up, rfl⟩ : ∃ zs up, ys = zs ++ [up] := by
        rcases List.eq_nil_or_concat ys with rfl | ⟨zs, up, e⟩
        · exact absurd rfl (of_decide_eq_false h50)
        · exact ⟨zs, up, by rw [e]; simp⟩
      have hzl : (zs ++ [up]).length = zs.length + 1 := by rw [List.length_append]; rfl
      have hup := hok up (by simp)
      obtain ⟨c, rs, hrest⟩ : ∃ c rs, up.f.rest = c :: rs := by
        cases hq : up.f.rest with
        | nil => exact absurd hq (hrs (zs ++ [up]) top rfl up (by simp))
        | cons c rs => exact ⟨c, rs, rfl⟩
      have hcin := hup.ins c (by rw [hrest]; simp)
      obtain ⟨k, rfl⟩ : ∃ k : Nat, c = (k : Int) := ⟨c.toNat, by omega⟩
      have hkn : k < W.n := by omega
      obtain ⟨rb, ro_, rc, hrv, _, _, hra⟩ := hup.rest.pos (by rw [hrest]; exact Nat.succ_pos _)
      have hcell := (hra.elem (f := icsk .i64) (n := 1) (fun _ => rfl) (show up.f.rest[0]? = some (k : Int) by rw [hrest]; rfl)).cell
      have hrl : up.f.rest.length = rs.length + 1 := by rw [hrest]; rfl
      have hupl := hup.len
      rw [hzl]
      refine swp_skip ?_
      refine then_n ?_
      refine swp_seq ?_
      refine swp_draw [4, 8] _ [] (by simp only [List.append_nil]; exact Ent.refl _) (by kernel_rfl) ?_
      refine d_pu 0 rfl (pu_move rfl) (by kernel_rfl) (by kernel_rfl) (by kernel_rfl) ?_
      refine d_pu 1 rfl (pu_move rfl) (by kernel_rfl) (by kernel_rfl) (by kernel_rfl) ?_
      first | refine d_pu 2 rfl (pu_nilCheck rfl) (by kernel_rfl) (by kernel_rfl) (by kernel_rfl) ?_ | refine d_pu 2 rfl (pu_nilCheck_fn rfl) (by kernel_rfl) (by kernel_rfl) (by kernel_rfl) ?_ | refine d_pu 2 rfl (pu_nilCheck_if rfl) (by kernel_rfl) (by kernel_rfl) (by kernel_rfl) ?_
      first | refine d_pu 3 rfl (pu_fieldAddr0 rfl) (by kernel_rfl) (by kernel_rfl) (by kernel_rfl) ?_ | refine d_pu 3 rfl (pu_fieldAddr rfl) (by kernel_rfl) (by kernel_rfl) (by kernel_rfl) ?_
      refine d_rd 4 rfl (rd_load rfl rfl) rfl (by kernel_rfl) (by kernel_rfl) (by kernel_rfl) ?_
      refine d_pu 5 rfl (pu_move rfl) (by kernel_rfl) (by kernel_rfl) (by kernel_rfl) ?_
      first | refine d_pu 6 rfl (pu_nilCheck rfl) (by kernel_rfl) (by kernel_rfl) (by kernel_rfl) ?_ | refine d_pu 6 rfl (pu_nilCheck_fn rfl) (by kernel_rfl) (by kernel_rfl) (by kernel_rfl) ?_ | refine d_pu 6 rfl (pu_nilCheck_if rfl) (by kernel_rfl) (by kernel_rfl) (by kernel_rfl) ?_
      first | refine d_pu 7 rfl (pu_fieldAddr0 rfl) (by kernel_rfl) (by kernel_rfl) (by kernel_rfl) ?_ | refine d_pu 7 rfl (pu_fieldAddr rfl) (by kernel_rfl) (by kernel_rfl) (by kernel_rfl) ?_
      refine d_rd 8 rfl (rd_load rfl rfl) rfl (by kernel_rfl) (by kernel_rfl) (by kernel_rfl) ?_
      refine d_pu 9 rfl (pu_len rfl) (by kernel_rfl) (by kernel_rfl) (by kernel_rfl) ?_
      refine d_pu 10 rfl (pu_sub_as ((zs.length + 1 : Nat) : Int) rfl rfl (by omega) (by omega) (by omega)) (by kernel_rfl) (by kernel_rfl) (by kernel_rfl) ?_
      refine d_pu 11 rfl (pu_slice_hi (zs.length + 1) rfl rfl rfl (by omega)) (by kernel_rfl) (by kernel_rfl) (by kernel_rfl) ?_
      first | refine d_pu 12 rfl (pu_nilCheck rfl) (by kernel_rfl) (by kernel_rfl) (by kernel_rfl) ?_ | refine d_pu 12 rfl (pu_nilCheck_fn rfl) (by kernel_rfl) (by kernel_rfl) (by kernel_rfl) ?_ | refine d_pu 12 rfl (pu_nilCheck_if rfl) (by kernel_rfl) (by kernel_rfl) (by kernel_rfl) ?_
      first | refine d_pu 13 rfl (pu_fieldAddr0 rfl) (by kernel_rfl) (by kernel_rfl) (by kernel_rfl) ?_ | refine d_pu 13 rfl (pu_fieldAddr rfl) (by kernel_rfl) (by kernel_rfl) (by kernel_rfl) ?_
      first | refine d_fin0t 14 rfl (by kernel_rfl) (by kernel_rfl) (ef_store rfl rfl rfl) ?_ | refine d_fin0f 14 rfl (by kernel_rfl) (by kernel_rfl) (ef_store rfl rfl rfl) ?_
      refine d_sub _ (.cons (t := 0) rfl (.cons (t := 2) rfl (.cons (t := 6) rfl .nil))) ?_
      first | refine d_nilt (by kernel_rfl) ?_ | refine d_nilf (by kernel_rfl) ?_
      refine then_n ?_
      refine swp_seq ?_
      refine swp_ent ((Split.ent' (K := [stB (some ⟨g, 0, none⟩) cap (zs ++ [up]) top, vvsA (zs ++ [up] ++ [top]), wkV w W.sv (.slice (some ⟨g, 0, none⟩) (zs.length + 1) cap) steps limit, blk b6 85 (encV top), blk b2 85 [.slice none 0 0, .slice none 0 0, .slice none 0 0], W.A s, ro μ1]) (by repeat (first | exact Split.nil | (apply Split.cons; (repeat (first | with_reducible exact Take.here | apply Take.there)))))).trans (own_less (zs_len _))) ?_
      rw [show own 85 3 (.slice (some ⟨g, 0, none⟩) (zs ++ [up]).length cap) (zs ++ [up]).length ((zs ++ [up]).flatMap encV) = stB (some ⟨g, 0, none⟩) cap zs up from stA_B _ _ _ _]
      refine swp_ent ((Split.ent' (K := [vvsA (zs ++ [up] ++ [top]), stB (some ⟨g, 0, none⟩) cap zs up, wkV w W.sv (.slice (some ⟨g, 0, none⟩) (zs.length + 1) cap) steps limit, blk b6 85 (encV top), blk b2 85 [.slice none 0 0, .slice none 0 0, .slice none 0 0], W.A s, ro μ1]) (by repeat (first | exact Split.nil | (apply Split.cons; (repeat (first | with_reducible exact Take.here | apply Take.there)))))).trans vvs_open) ?_
      refine swp_ent ((Split.ent' (K := [vvsA (zs ++ [up]), treeA top, stB (some ⟨g, 0, none⟩) cap zs up, wkV w W.sv (.slice (some ⟨g, 0, none⟩) (zs.length + 1) cap) steps limit, blk b6 85 (encV top), blk b2 85 [.slice none 0 0, .slice none 0 0, .slice none 0 0], W.A s, ro μ1]) (by repeat (first | exact Split.nil | (apply Split.cons; (repeat (first | with_reducible exact Take.here | apply Take.there)))))).trans vvs_open) ?_
      refine swp_share_own (e := 52) (n := 2) (v := top.tree) (μ := μ1) (by repeat (first | exact Split.nil | (apply Split.cons; (repeat (first | with_reducible exact Take.here | apply Take.there))))) fun μ3 h3 rtop => ?_
      refine swp_share_own (e := 52) (n := 2) (v := up.tree) (μ := μ3) (by repeat (first | exact Split.nil | (apply Split.cons; (repeat (first | with_reducible exact Take.here | apply Take.there))))) fun μ4 h4 rup => ?_
      have hW4 := hW1.le (h3.trans h4)
      rw [naB_eq up]
      refine swp_draw [3, 7] _ [] (by simp only [List.append_nil]; exact Ent.refl _) (by kernel_rfl) ?_
      refine d_pu 0 rfl (pu_move rfl) (by kernel_rfl) (by kernel_rfl) (by kernel_rfl) ?_
      first | refine d_pu 1 rfl (pu_nilCheck rfl) (by kernel_rfl) (by kernel_rfl) (by kernel_rfl) ?_ | refine d_pu 1 rfl (pu_nilCheck_fn rfl) (by kernel_rfl) (by kernel_rfl) (by kernel_rfl) ?_ | refine d_pu 1 rfl (pu_nilCheck_if rfl) (by kernel_rfl) (by kernel_rfl) (by kernel_rfl) ?_
      first | refine d_pu 2 rfl (pu_fieldAddr0 rfl) (by kernel_rfl) (by kernel_rfl) (by kernel_rfl) ?_ | refine d_pu 2 rfl (pu_fieldAddr rfl) (by kernel_rfl) (by kernel_rfl) (by kernel_rfl) ?_
      refine d_rd 3 rfl (rd_load rfl rfl) rfl (by kernel_rfl) (by kernel_rfl) (by kernel_rfl) ?_
      refine d_pu 4 rfl (pu_move rfl) (by kernel_rfl) (by kernel_rfl) (by kernel_rfl) ?_
      first | refine d_pu 5 rfl (pu_nilCheck rfl) (by kernel_rfl) (by kernel_rfl) (by kernel_rfl) ?_ | refine d_pu 5 rfl (pu_nilCheck_fn rfl) (by kernel_rfl) (by kernel_rfl) (by kernel_rfl) ?_ | refine d_pu 5 rfl (pu_nilCheck_if rfl) (by kernel_rfl) (by kernel_rfl) (by kernel_rfl) ?_
      first | refine d_pu 6 rfl (pu_fieldAddr0 rfl) (by kernel_rfl) (by kernel_rfl) (by kernel_rfl) ?_ | refine d_pu 6 rfl (pu_fieldAddr rfl) (by kernel_rfl) (by kernel_rfl) (by kernel_rfl) ?_
      refine d_rd 7 rfl (rd_load rfl rfl) rfl (by kernel_rfl) (by kernel_rfl) (by kernel_rfl) ?_
      refine d_pu 8 rfl (pu_len rfl) (by kernel_rfl) (by kernel_rfl) (by kernel_rfl) ?_
      refine d_pu 9 rfl (pu_sub_as ((zs.length : Nat) : Int) rfl rfl (by omega) (by omega) (by omega)) (by kernel_rfl) (by kernel_rfl) (by kernel_rfl) ?_
      refine d_pu 10 rfl (pu_indexAddr (0 + zs.length * 3) rfl rfl (by omega) (by omega) (by rw [Int.toNat_natCast])) (by kernel_rfl) (by kernel_rfl) (by kernel_rfl) ?_
      refine d_pu 11 rfl (pu_assign rfl) (by kernel_rfl) (by kernel_rfl) (by kernel_rfl) ?_
      refine d_sub _ (.cons (t := 0) rfl (.cons (t := 2) rfl (.cons (t := 6) rfl (.cons (t := 7) rfl .nil)))) ?_
      first | refine d_nilt (by kernel_rfl) ?_ | refine d_nilf (by kernel_rfl) ?_
      refine then_n ?_
      refine swp_seq ?_
      refine swp_region ?_
      refine s_pu (pu_move rfl) ?_
      first | refine s_pu (pu_nilCheck rfl) ?_ | refine s_pu (pu_nilCheck_fn rfl) ?_ | refine s_pu (pu_nilCheck_if rfl) ?_
      first | refine s_pu (pu_fieldAddr0 rfl) ?_ | refine s_pu (pu_fieldAddr rfl) ?_
      refine s_rd (rd_own rfl (by repeat (first | with_reducible exact Take.here | apply Take.there)) (stB_get (j := 0) rfl)) ?_
      refine s_pu (pu_indexAddr (ro_ + 0 * 1) (congrArg some hrv) rfl (by omega) (by omega) rfl) ?_
      refine s_rd (rd_ro rfl (hcell.le (h3.trans h4))) ?_
      refine s_pu (pu_assign rfl) ?_
      refine swl_sub _ (.cons (t := 0) rfl (.cons (t := 2) rfl (.cons (t := 6) rfl (.cons (t := 7) rfl (.cons (t := 8) rfl .nil))))) ?_
      refine swl_nil ?_
      refine then_n ?_
      refine swp_seq ?_
      refine swp_ent (Split.ent' (K := [wkV w W.sv (.slice (some ⟨g, 0, none⟩) (zs.length + 1) cap) steps limit, blk b6 85 (encV top), stB (some ⟨g, 0, none⟩) cap zs up, W.A s, ro μ4, naB up.node up.f.node up.own, vvsA zs, blk b2 85 [.slice none 0 0, .slice none 0 0, .slice none 0 0]]) (by repeat (first | exact Split.nil | (apply Split.cons; (repeat (first | with_reducible exact Take.here | apply Take.there)))))) ?_
      refine swp_draw [2, 6, 10] ([wkV w W.sv (.slice (some ⟨g, 0, none⟩) (zs.length + 1) cap) steps limit, blk b6 85 (encV top), stB (some ⟨g, 0, none⟩) cap zs up]) ([W.A s, ro μ4, naB up.node up.f.node up.own, vvsA zs, blk b2 85 [.slice none 0 0, .slice none 0 0, .slice none 0 0]]) (Split.ent (by repeat (first | exact Split.nil | (apply Split.cons; (repeat (first | with_reducible exact Take.here | apply Take.there)))))) (by kernel_rfl) ?_
      refine d_pu 0 rfl (pu_move rfl) (by kernel_rfl) (by kernel_rfl) (by kernel_rfl) ?_
      first | refine d_pu 1 rfl (pu_fieldAddr0 rfl) (by kernel_rfl) (by kernel_rfl) (by kernel_rfl) ?_ | refine d_pu 1 rfl (pu_fieldAddr rfl) (by kernel_rfl) (by kernel_rfl) (by kernel_rfl) ?_
      refine d_rd 2 rfl (rd_load rfl rfl) rfl (by kernel_rfl) (by kernel_rfl) (by kernel_rfl) ?_
      refine d_pu 3 rfl (pu_move rfl) (by kernel_rfl) (by kernel_rfl) (by kernel_rfl) ?_
      first | refine d_pu 4 rfl (pu_nilCheck rfl) (by kernel_rfl) (by kernel_rfl) (by kernel_rfl) ?_ | refine d_pu 4 rfl (pu_nilCheck_fn rfl) (by kernel_rfl) (by kernel_rfl) (by kernel_rfl) ?_ | refine d_pu 4 rfl (pu_nilCheck_if rfl) (by kernel_rfl) (by kernel_rfl) (by kernel_rfl) ?_
      first | refine d_pu 5 rfl (pu_fieldAddr0 rfl) (by kernel_rfl) (by kernel_rfl) (by kernel_rfl) ?_ | refine d_pu 5 rfl (pu_fieldAddr rfl) (by kernel_rfl) (by kernel_rfl) (by kernel_rfl) ?_
      refine d_rd 6 rfl (rd_own rfl (by repeat (first | with_reducible exact Take.here | apply Take.there)) (stB_get (j := 2) rfl)) rfl (by kernel_rfl) (by kernel_rfl) (by kernel_rfl) ?_
      refine d_pu 7 rfl (pu_move rfl) (by kernel_rfl) (by kernel_rfl) (by kernel_rfl) ?_
      first | refine d_pu 8 rfl (pu_nilCheck rfl) (by kernel_rfl) (by kernel_rfl) (by kernel_rfl) ?_ | refine d_pu 8 rfl (pu_nilCheck_fn rfl) (by kernel_rfl) (by kernel_rfl) (by kernel_rfl) ?_ | refine d_pu 8 rfl (pu_nilCheck_if rfl) (by kernel_rfl) (by kernel_rfl) (by kernel_rfl) ?_
      first | refine d_pu 9 rfl (pu_fieldAddr0 rfl) (by kernel_rfl) (by kernel_rfl) (by kernel_rfl) ?_ | refine d_pu 9 rfl (pu_fieldAddr rfl) (by kernel_rfl) (by kernel_rfl) (by kernel_rfl) ?_
      refine d_rd 10 rfl (rd_load rfl rfl) rfl (by kernel_rfl) (by kernel_rfl) (by kernel_rfl) ?_
      refine d_pu 11 rfl (pu_move rfl) (by kernel_rfl) (by kernel_rfl) (by kernel_rfl) ?_
      refine d_eft 12 rfl (by kernel_rfl) (ef_invS rfl (Nat.zero_le _) (hcontentR W μ4 hW4 s k hkn) rfl (by repeat (first | exact Split.nil | (apply Split.cons; (repeat (first | with_reducible exact Take.here | apply Take.there)))))) ?_
      rintro v96 L1 ⟨μ6, h6, rowC, rfl⟩
      refine ⟨_, ent_appC (Split.ent (by repeat (first | exact Split.nil | (apply Split.cons; (repeat (first | with_reducible exact Take.here | apply Take.there)))))), ?_⟩
      first | refine d_fint 13 rfl (by kernel_rfl) (by kernel_rfl) (ef_fn (three_form μ6 top.tree up.tree v96 top.f.tree up.f.tree (treeOf W.T k) (rtop.le (h4.trans h6)) (rup.le h6) rowC ⟨by have := htop.tree.len; omega, by have := hup.tree.len; omega, by have := (vt_ok hW4 hkn).len; omega⟩ ⟨htop.tree.u32, hup.tree.u32, (vt_ok hW4 hkn).u32⟩) rfl rfl (by repeat (first | exact Split.nil | (apply Split.cons; (repeat (first | with_reducible exact Take.here | apply Take.there)))))) ?_ | refine d_finf 13 rfl (by kernel_rfl) (by kernel_rfl) (ef_fn (three_form μ6 top.tree up.tree v96 top.f.tree up.f.tree (treeOf W.T k) (rtop.le (h4.trans h6)) (rup.le h6) rowC ⟨by have := htop.tree.len; omega, by have := hup.tree.len; omega, by have := (vt_ok hW4 hkn).len; omega⟩ ⟨htop.tree.u32, hup.tree.u32, (vt_ok hW4 hkn).u32⟩) rfl rfl (by repeat (first | exact Split.nil | (apply Split.cons; (repeat (first | with_reducible exact Take.here | apply Take.there)))))) ?_
      rintro v97 L1 ⟨A8, k8, v9, μ7, h7, rfl, rfl⟩
      refine swd_app ?_
      refine d_pu 14 rfl (pu_move rfl) (by kernel_rfl) (by kernel_rfl) (by kernel_rfl) ?_
      first | refine d_pu 15 rfl (pu_extractL rfl) (by kernel_rfl) (by kernel_rfl) (by kernel_rfl) ?_ | refine d_pu 15 rfl (pu_extract rfl rfl) (by kernel_rfl) (by kernel_rfl) (by kernel_rfl) ?_
      first | refine d_pu 16 rfl (pu_extractL rfl) (by kernel_rfl) (by kernel_rfl) (by kernel_rfl) ?_ | refine d_pu 16 rfl (pu_extract rfl rfl) (by kernel_rfl) (by kernel_rfl) (by kernel_rfl) ?_
      first | refine d_pu 17 rfl (pu_nilCheck rfl) (by kernel_rfl) (by kernel_rfl) (by kernel_rfl) ?_ | refine d_pu 17 rfl (pu_nilCheck_fn rfl) (by kernel_rfl) (by kernel_rfl) (by kernel_rfl) ?_ | refine d_pu 17 rfl (pu_nilCheck_if rfl) (by kernel_rfl) (by kernel_rfl) (by kernel_rfl) ?_
      first | refine d_pu 18 rfl (pu_fieldAddr0 rfl) (by kernel_rfl) (by kernel_rfl) (by kernel_rfl) ?_ | refine d_pu 18 rfl (pu_fieldAddr rfl) (by kernel_rfl) (by kernel_rfl) (by kernel_rfl) ?_
      first | refine d_fin0t 19 rfl (by kernel_rfl) (by kernel_rfl) (ef_store_own rfl rfl (by repeat (first | exact Split.nil | (apply Split.cons; (repeat (first | with_reducible exact Take.here | apply Take.there))))) (by rw [tl_len rfl]; omega) rfl) ?_ | refine d_fin0f 19 rfl (by kernel_rfl) (by kernel_rfl) (ef_store_own rfl rfl (by repeat (first | exact Split.nil | (apply Split.cons; (repeat (first | with_reducible exact Take.here | apply Take.there))))) (by rw [tl_len rfl]; omega) rfl) ?_
      refine d_sub _ (.cons (t := 0) rfl (.cons (t := 2) rfl (.cons (t := 7) rfl (.cons (t := 8) rfl .nil)))) ?_
      first | refine d_nilt (by kernel_rfl) ?_ | refine d_nilf (by kernel_rfl) ?_
      refine then_n ?_
      refine swp_seq ?_
      rw [tl_set]
      refine swp_region ?_
      refine s_pu (pu_move rfl) ?_
      refine s_pu (pu_move rfl) ?_
      first | refine s_pu (pu_nilCheck rfl) ?_ | refine s_pu (pu_nilCheck_fn rfl) ?_ | refine s_pu (pu_nilCheck_if rfl) ?_
      first | refine s_pu (pu_fieldAddr0 rfl) ?_ | refine s_pu (pu_fieldAddr rfl) ?_
      refine s_rd (rd_own rfl (by repeat (first | with_reducible exact Take.here | apply Take.there)) (tl_get (j := 1) rfl)) ?_
      refine s_pu (pu_move rfl) ?_
      refine s_ef (ef_bldS (qs := [(0, _)]) rfl rfl rfl) ?_
      intro b108
      refine swl_share (b := b108) (μ := μ7) (by repeat (first | exact Split.nil | (apply Split.cons; (repeat (first | with_reducible exact Take.here | apply Take.there))))) fun μ8 h8 k108 => ?_
      have rn : Row μ8 (.slice (some ⟨b108, 0, none⟩) 1 1) 1 1 [.int .i64 (k : Nat)] := row_of_blk (n := 1) (l := 1) (cs := [.int .i64 (k : Nat)]) k108 (by rfl) (by decide)
      have h18 : Le μ1 μ8 := h3.trans (h4.trans (h6.trans (h7.trans h8)))
      refine s_ef (ef_append_na (o := up.own) (v := up.node) (l := up.f.node) rfl rfl rn (by repeat (first | exact Split.nil | (apply Split.cons; (repeat (first | with_reducible exact Take.here | apply Take.there))))) (fun e => ⟨(hup.node e).1.le h18, (hup.node e).2⟩) (by omega)) ?_
      rintro A9 c9 o9 ho9
      skip
      first | refine s_pu (pu_nilCheck rfl) ?_ | refine s_pu (pu_nilCheck_fn rfl) ?_ | refine s_pu (pu_nilCheck_if rfl) ?_
      first | refine s_pu (pu_fieldAddr0 rfl) ?_ | refine s_pu (pu_fieldAddr rfl) ?_
      refine s_ef0 (ef_store_own rfl rfl (by repeat (first | exact Split.nil | (apply Split.cons; (repeat (first | with_reducible exact Take.here | apply Take.there))))) (by rw [tl_len rfl]; omega) rfl) ?_
      refine swl_sub _ (.cons (t := 0) rfl (.cons (t := 2) rfl (.cons (t := 7) rfl .nil))) ?_
      refine swl_nil ?_
      refine then_n ?_
      rw [tl_set]
      obtain ⟨v', hr', hlo⟩ := Row.lo (P := Tryd.prog) (t := 43) (hup.rest.le h18) 1 (by omega)
      obtain ⟨AR, cR, hv'⟩ : ∃ A c, v' = .slice A (up.f.rest.length - 1) c := by obtain ⟨_, A, c, e, _⟩ := hr'; exact ⟨A, c, e⟩
      refine swp_region ?_
      refine s_pu (pu_move rfl) ?_
      refine s_pu (pu_move rfl) ?_
      first | refine s_pu (pu_nilCheck rfl) ?_ | refine s_pu (pu_nilCheck_fn rfl) ?_ | refine s_pu (pu_nilCheck_if rfl) ?_
      first | refine s_pu (pu_fieldAddr0 rfl) ?_ | refine s_pu (pu_fieldAddr rfl) ?_
      refine s_rd (rd_own rfl (by repeat (first | with_reducible exact Take.here | apply Take.there)) (tl_get (j := 0) rfl)) ?_
      refine s_pu (hlo _ _ _ .i64 1 rfl rfl rfl) ?_
      first | refine s_pu (pu_nilCheck rfl) ?_ | refine s_pu (pu_nilCheck_fn rfl) ?_ | refine s_pu (pu_nilCheck_if rfl) ?_
      first | refine s_pu (pu_fieldAddr0 rfl) ?_ | refine s_pu (pu_fieldAddr rfl) ?_
      refine s_ef0 (ef_store_own rfl rfl (by repeat (first | exact Split.nil | (apply Split.cons; (repeat (first | with_reducible exact Take.here | apply Take.there))))) (by rw [tl_len rfl]; omega) (by rw [hv']; rfl)) ?_
      refine swl_sub _ (.cons (t := 0) rfl (.cons (t := 2) rfl .nil)) ?_
      refine swl_nil ?_
      refine block_n ?_
      rw [tl_set]
      have hvok : VV.Ok W.n W.U μ8 (⟨v', .slice A9 (up.f.node ++ [(k : Int)]).length c9, .slice A8 (VM top.f.tree up.f.tree (treeOf W.T k)).length k8, ⟨rs, up.f.node ++ [(k : Int)], VM top.f.tree up.f.tree (treeOf W.T k)⟩, o9⟩ : VV) := by
        refine ⟨?_, ho9, ⟨⟨_, _, rfl⟩, _, _, rfl⟩, fun c hc => ?_, ?_, ?_⟩
        · have e : (ivs up.f.rest).drop (1 * 1) = ivs rs := by rw [hrest]; rfl
          rw [e, hrl, Nat.add_sub_cancel] at hr'
          exact hr'
        · refine hup.ins c ?_
          rw [hrest]
          simpa using hc
        · show (up.f.node ++ [(k : Int)]).length + rs.length ≤ W.n
          rw [List.length_append, List.length_singleton]; omega
        · exact htop.tree.merge hup.tree (vt_ok hW4 hkn)
      have hul : (zs ++ [(⟨v', .slice A9 (up.f.node ++ [(k : Int)]).length c9, .slice A8 (VM top.f.tree up.f.tree (treeOf W.T k)).length k8, ⟨rs, up.f.node ++ [(k : Int)], VM top.f.tree up.f.tree (treeOf W.T k)⟩, o9⟩ : VV)]).length = zs.length + 1 := by rw [List.length_append]; rfl
      refine then_n ⟨(steps, zs.length + 1), ⟨zs ++ [(⟨v', .slice A9 (up.f.node ++ [(k : Int)]).length c9, .slice A8 (VM top.f.tree up.f.tree (treeOf W.T k)).length k8, ⟨rs, up.f.node ++ [(k : Int)], VM top.f.tree up.f.tree (treeOf W.T k)⟩, o9⟩ : VV)], (some ⟨g, 0, none⟩), cap, lookS s k, μ8, ⟨rfl, rfl, trivial⟩, hul, Nat.succ_pos _, by omega, hsl, ?_, hle.trans h18, hs, ?_, ?_, ?_⟩, by dsimp only; omega⟩
      · dsimp only
        rw [stA_B, hul]
        refine (Split.ent' (K := [own 52 2 (.slice A8 (VM top.f.tree up.f.tree (treeOf W.T k)).length k8) (VM top.f.tree up.f.tree (treeOf W.T k)).length (ens (VM top.f.tree up.f.tree (treeOf W.T k))), naB (.slice A9 (up.f.node ++ [(k : Int)]).length c9) (up.f.node ++ [(k : Int)]) o9, vvsA zs, wkV w W.sv (.slice (some ⟨g, 0, none⟩) (zs.length + 1) cap) steps limit, own 85 3 (.slice (some ⟨g, 0, none⟩) (zs.length + 1) cap) (zs.length + 1) (zs.flatMap encV ++ (((encV up).set 2 (.slice A8 (VM top.f.tree up.f.tree (treeOf W.T k)).length k8)).set 1 (.slice A9 (up.f.node ++ [(k : Int)]).length c9)).set 0 v'), blk b2 85 [.slice none 0 0, .slice none 0 0, .slice none 0 0], W.A (lookS s k), ro μ8]) (by repeat (first | exact Split.nil | (apply Split.cons; (repeat (first | with_reducible exact Take.here | apply Take.there)))))).trans ?_
        refine Ent.trans (show Ent _ (treeA (⟨v', .slice A9 (up.f.node ++ [(k : Int)]).length c9, .slice A8 (VM top.f.tree up.f.tree (treeOf W.T k)).length k8, ⟨rs, up.f.node ++ [(k : Int)], VM top.f.tree up.f.tree (treeOf W.T k)⟩, o9⟩ : VV) :: naA (⟨v', .slice A9 (up.f.node ++ [(k : Int)]).length c9, .slice A8 (VM top.f.tree up.f.tree (treeOf W.T k)).length k8, ⟨rs, up.f.node ++ [(k : Int)], VM top.f.tree up.f.tree (treeOf W.T k)⟩, o9⟩ : VV) :: vvsA zs :: wkV w W.sv (.slice (some ⟨g, 0, none⟩) (zs.length + 1) cap) steps limit :: stB (some ⟨g, 0, none⟩) cap zs (⟨v', .slice A9 (up.f.node ++ [(k : Int)]).length c9, .slice A8 (VM top.f.tree up.f.tree (treeOf W.T k)).length k8, ⟨rs, up.f.node ++ [(k : Int)], VM top.f.tree up.f.tree (treeOf W.T k)⟩, o9⟩ : VV) :: blk b2 85 [.slice none 0 0, .slice none 0 0, .slice none 0 0] :: W.A (lookS s k) :: ro μ8 :: []) from Ent.refl _) ?_
        refine vvs_close.trans ?_
        exact Split.ent' (by repeat (first | exact Split.nil | (apply Split.cons; (repeat (first | with_reducible exact Take.here | apply Take.there)))))
      · intro x hx
        rcases List.mem_append.1 hx with hx | hx
        · exact (hok x (by simp [hx])).le h18
        · rw [List.mem_singleton.1 hx]; exact hvok
      · intro ys' y' he x hx
        obtain ⟨e1, _⟩ := List.append_inj' he rfl
        rw [← e1] at hx
        exact hrs (zs ++ [up]) top rfl x (by simp [hx])
      · have hpop := vst_pop (VS W) (VT W) VM [] top.f.node top.f.tree up.f (zs.reverse.map (·.f)) (limit - steps)
        rw [← hte] at hpop
        rw [← hR, List.reverse_append, List.reverse_append, List.reverse_append, List.map_append, List.map_append, List.map_append]
        show vst (VS W) (VT W) VM [] (⟨rs, up.f.node ++ [(k : Int)], VM top.f.tree up.f.tree (treeOf W.T k)⟩ :: zs.reverse.map (·.f)) (limit - steps) = vst (VS W) (VT W) VM [] (top.f :: up.f :: zs.reverse.map (·.f)) (limit - steps)
        rw [hpop]
        unfold vup
        rw [hrest]; rfl
end SX
namespace SX
open Go Go.Proofs
theorem run_e (W : HW) (μ0 : PH) (hW : W.Ok μ0) (hn : W.n ≤ 10000) (μ : PH) (h0 : Le μ0 μ) (hT : RowAt μ 1 0 tabV) (w : Nat) (s : HSt) (m : Nat) (limit : Nat) (hlim : limit ≤ 4096) (hm : m + 4097 ≤ 4611686018427387904) (A : Option Addr) (cap : Nat) (nv0 : VV) (steps : Nat) (hs : AskB (m + steps) s) (h1 : 1 ≤ steps) (hsl : steps ≤ limit)
    (hok : nv0.Ok W.n W.U μ) (R : Option (List En × Bool) × Nat) (hR : vst (VS W) (VT W) VM [] [nv0.f] (limit - steps) = R) :
    Spec Tryd.prog 25 [.pointer (some ⟨w, 0, none⟩)] [wkV w W.sv (.slice A 1 cap) steps limit, stA A cap [nv0], treeA nv0, naA nv0, W.A s, ro μ] (fun r L => ∃ (A0 A1 A2 : Option Addr) (l0 l1 l2 c0 c1 c2 : Nat) (e : Int), r = .tuple #[.agg #[.slice A0 l0 c0, .slice A1 l1 c1, .slice A2 l2 c2], .int .i64 e] ∧ ∃ (s' : HSt) (μ' : PH), Le μ μ' ∧ AskB (m + limit) s' ∧
      ((R.1 = none ∧ e = 12 ∧ L = [W.A s', ro μ']) ∨
       (e = 0 ∧ ∃ (t : List En) (st : Value) (steps : Nat), R = (some (t, decide (0 < l1)), limit - steps) ∧ steps ≤ limit ∧ TOk W.U t ∧ l2 = t.length ∧ L = [wkV w W.sv st steps limit, own 52 2 (.slice A2 l2 c2) l2 (ens t), W.A s', ro μ']))) :=
  (run_spec W μ0 hW hn μ h0 hT w s m limit hlim hm A cap nv0 steps hs h1 hsl hok R hR).mono fun r L ⟨s', μ', k1, k2, k3⟩ => by
    rcases k3 with ⟨h1, h2, h3⟩ | ⟨nv, st, steps, h1, h2, h3, h4, h5⟩
    · exact ⟨none, none, none, 0, 0, 0, 0, 0, 0, 12, h2, s', μ', k1, k2, .inl ⟨h1, rfl, h3⟩⟩
    · obtain ⟨_, A0, c0, e0, _⟩ := h3.rest
      obtain ⟨⟨A1, c1, e1⟩, A2, c2, e2⟩ := h3.one
      refine ⟨A0, A1, A2, nv.f.rest.length, nv.f.node.length, nv.f.tree.length, c0, c1, c2, 0, ?_, s', μ', k1, k2, .inr ⟨rfl, nv.f.tree, st, steps, ?_, h2, h3.tree, rfl, ?_⟩⟩
      · rw [h4]
        show Value.tuple #[.agg #[nv.rest, nv.node, nv.tree], _] = _
        rw [e0, e1, e2]
      · rw [h1]
        cases nv.f.node <;> rfl
      · rw [h5, ← e2]
def askedV (n : Nat) (a b : Int) : Int := if min a b < 0 ∨ min (n : Int) 65536 ≤ max a b then 9 else 0
instance : TIface Tryd.prog 77 := ⟨⟨_, Tryd.underlying77⟩⟩
theorem vasked_spec (W : HW) (μ0 : PH) (hW : W.Ok μ0) (s : HSt) (μ : PH) (a b : Int) : Spec Tryd.prog 23 [W.sv, .int .i64 a, .int .i64 b] [W.A s, ro μ] (fun r L => r = .int .i64 (askedV W.n a b) ∧ L = [W.A s, ro μ]) := by
  have hn : W.n ≤ 65536 := hW.hn
  have hc : InvS Tryd.prog 0 31 (.pointer (some ⟨W.p, 0, none⟩)) "Commits" [] [W.A s] (fun r L => r = .int .i64 (W.n : Nat) ∧ L = [W.A s]) := by
    have h := (W.bsrc μ0 hW).commits s μ
    rw [show (W.bsrc μ0 hW).g.length = W.n from List.length_map _] at h
    exact h
  refine Spec.of 24 Tryd.func23 rfl rfl rfl ?_
  refine swp_seq ?_
  refine swp_region ?_
  refine s_pu (pu_assign rfl) ?_
  refine swl_sub _ (.cons (t := 0) rfl (.cons (t := 1) rfl (.cons (t := 2) rfl .nil))) ?_
  refine swl_nil ?_
  refine then_n ?_
  refine swp_seq ?_
  refine swp_seq ?_
  refine swp_region ?_
  refine s_pu (pu_move rfl) ?_
  refine s_pu (pu_if_eq_nil rfl rfl) ?_
  refine swl_sub _ (.cons (t := 0) rfl (.cons (t := 1) rfl (.cons (t := 2) rfl (.cons (t := 9) rfl .nil)))) ?_
  refine swl_nil ?_
  refine then_n ?_
  refine swp_cond (b := _) rfl (fun h9 => by cases h9) (fun h9 => ?_)
  refine swp_skip ?_
  refine then_n ?_
  refine swp_seq ?_
  refine swp_region ?_
  refine s_pu (pu_move rfl) ?_
  refine s_ef (ef_invS rfl (Nat.zero_le _) hc rfl (by repeat (first | exact Split.nil | (apply Split.cons; (repeat (first | with_reducible exact Take.here | apply Take.there)))))) ?_
  rintro v11 L1 ⟨rfl, rfl⟩
  refine swl_app ?_
  refine s_pu (pu_min2 rfl rfl) ?_
  refine s_pu (pu_assign rfl) ?_
  refine swl_sub _ (.cons (t := 1) rfl (.cons (t := 2) rfl (.cons (t := 7) rfl .nil))) ?_
  refine swl_nil ?_
  refine then_n ?_
  refine swp_seq ?_
  refine swp_seq ?_
  refine swp_region ?_
  refine s_pu (pu_move rfl) ?_
  refine s_pu (pu_move rfl) ?_
  refine s_pu (pu_min2 rfl rfl) ?_
  refine s_pu (pu_lss rfl rfl) ?_
  refine s_pu (pu_move rfl) ?_
  refine s_split 17 rfl (fun h17 => ?_) (fun h17 => ?_)
  · skip   -- 17 T
    refine s_off rfl rfl rfl ?_
    refine s_off rfl rfl rfl ?_
    refine s_off rfl rfl rfl ?_
    refine s_off rfl rfl rfl ?_
    refine s_off rfl rfl rfl ?_
    first | refine s_pu (pu_pick_t rfl rfl) ?_ | refine s_pu (pu_pick_f rfl rfl) ?_
    refine swl_sub _ (.cons (t := 23) rfl .nil) ?_
    refine swl_nil ?_
    refine then_n ?_
    refine swp_cond (b := _) rfl (fun h23 => ?_) (fun h23 => by cases h23)
    refine swp_seq ?_
    refine swp_region ?_
    refine s_pu (pu_assign rfl) ?_
    refine swl_sub _ (.cons (t := 6) rfl .nil) ?_
    refine swl_nil ?_
    refine then_n ?_
    refine swp_ret ?_
    refine then_r ?_
    have h17' := of_decide_eq_true h17
    exact done_ret [W.A s, ro μ] (.tmp rfl .nil) ⟨by show Value.int .i64 _ = _; unfold askedV; rw [if_pos (.inl h17')], rfl⟩ (by repeat (first | exact Split.nil | (apply Split.cons; (repeat (first | with_reducible exact Take.here | apply Take.there)))))
  · skip   -- 17 F
    refine s_on rfl rfl ?_
    refine s_pu (pu_move rfl) ?_
    refine s_on rfl rfl ?_
    refine s_pu (pu_move rfl) ?_
    refine s_on rfl rfl ?_
    refine s_pu (pu_max2 rfl rfl) ?_
    refine s_on rfl rfl ?_
    refine s_pu (pu_move rfl) ?_
    refine s_on rfl rfl ?_
    refine s_pu (pu_geq rfl rfl) ?_
    first | refine s_pu (pu_pick_t rfl rfl) ?_ | refine s_pu (pu_pick_f rfl rfl) ?_
    refine swl_sub _ (.cons (t := 23) rfl .nil) ?_
    refine swl_nil ?_
    refine then_n ?_
    refine swp_cond (b := _) rfl (fun h23 => ?_) (fun h23 => ?_)
    · skip   -- 23 T
      refine swp_seq ?_
      refine swp_region ?_
      refine s_pu (pu_assign rfl) ?_
      refine swl_sub _ (.cons (t := 6) rfl .nil) ?_
      refine swl_nil ?_
      refine then_n ?_
      refine swp_ret ?_
      refine then_r ?_
      have h23' := of_decide_eq_true h23
      exact done_ret [W.A s, ro μ] (.tmp rfl .nil) ⟨by show Value.int .i64 _ = _; unfold askedV; rw [if_pos (.inr h23')], rfl⟩ (by repeat (first | exact Split.nil | (apply Split.cons; (repeat (first | with_reducible exact Take.here | apply Take.there)))))
    · skip   -- 23 F
      refine swp_skip ?_
      refine then_n ?_
      refine swp_seq ?_
      refine swp_region ?_
      refine s_pu (pu_assign rfl) ?_
      refine swl_sub _ (.cons (t := 6) rfl .nil) ?_
      refine swl_nil ?_
      refine then_n ?_
      refine swp_ret ?_
      have h17' := of_decide_eq_false h17
      have h23' := of_decide_eq_false h23
      exact done_ret [W.A s, ro μ] (.tmp rfl .nil) ⟨by show Value.int .i64 _ = _; unfold askedV; rw [if_neg (fun h => h.elim h17' h23')], rfl⟩ (by repeat (first | exact Split.nil | (apply Split.cons; (repeat (first | with_reducible exact Take.here | apply Take.there)))))
end SX
namespace SX
open Go Go.Proofs
theorem pu_min2_as {P : Program} {env : Env} {k : IntKind} {ts : Array TypeId} {x y : Operand} {a b : Int} (z : Int) (hx : evalE env x = some (.int k a)) (hy : evalE env y = some (.int k b)) (h : min a b = z) : Pu P env (.call { callee := .builtin .min, args := #[x, y], argTypes := ts }) (.int k z) := by
  have := pu_min2 (P := P) (ts := ts) hx hy
  rwa [h] at this
/-- the virtual ancestor: tree, node, steps, error -/
def virtV (W : HW) (a b limit : Int) : List En × Bool × Int × Int :=
  if askedV W.n a b ≠ 0 then ([], false, 0, askedV W.n a b) else
  match vall (VS W) (VT W) VM [] (min (max limit 0) 4096).toNat [a] b with
  | (none, _) => ([], false, 0, 12)
  | (some (t, ok), left) => (t, ok, (((min (max limit 0) 4096).toNat - left : Nat) : Int), 0)
theorem push0 (W : HW) (μ0 : PH) (hW : W.Ok μ0) (hn : W.n ≤ 10000) (μ : PH) (h0 : Le μ0 μ) (hT : RowAt μ 1 0 tabV) (w : Nat) (s : HSt) (m : Nat) (hs : AskB m s) (hm : m + 1 ≤ 4611686018427387904) (limit : Nat) (hlim : limit ≤ 4096) (v : Value) (a b : Int) (hv : Row μ v 1 1 (ivs [a])) :
    Spec Tryd.prog 24 [.pointer (some ⟨w, 0, none⟩), v, .int .i64 b] [blk w 82 [W.sv, .slice none 0 0, .int .i64 0, .int .i64 (limit : Nat)], W.A s, ro μ] (fun r L => ∃ e, r = .int .i64 e ∧ ∃ (s2 : HSt) (μ2 : PH), Le μ μ2 ∧ AskB (m + 1) s2 ∧
      ((limit = 0 ∧ e = 12 ∧ L = [wkV w W.sv (.slice none 0 0) 0 limit, W.A s2, ro μ2]) ∨
       (0 < limit ∧ e = 0 ∧ ∃ (nv : VV) (A2 : Option Addr) (cap2 : Nat), nv.f = vfr (VT W) [] (VS W [a] b) ∧ nv.Ok W.n W.U μ2 ∧ L = [wkV w W.sv (.slice A2 1 cap2) 1 limit, stA A2 cap2 [nv], treeA nv, naA nv, W.A s2, ro μ2]))) := by
  intro E w' hw
  have hpre : Ent [blk w 82 [W.sv, .slice none 0 0, .int .i64 0, .int .i64 (limit : Nat)], W.A s, ro μ] [naA (⟨.slice none 0 0, v, .slice none 0 0, ⟨[], [a], []⟩, false⟩ : VV), wkV w W.sv (.slice none 0 0) 0 limit, stA none 0 [], W.A s, ro μ] :=
    (own_nil_ent (e := 85) (n := 3)).trans ((naA_no (x := (⟨.slice none 0 0, v, .slice none 0 0, ⟨[], [a], []⟩, false⟩ : VV)) rfl).trans (show Ent (naA (⟨.slice none 0 0, v, .slice none 0 0, ⟨[], [a], []⟩, false⟩ : VV) :: stA none 0 [] :: wkV w W.sv (.slice none 0 0) 0 limit :: W.A s :: ro μ :: []) _ from Split.ent' (by repeat (first | exact Split.nil | (apply Split.cons; (repeat (first | with_reducible exact Take.here | apply Take.there)))))))
  refine (push_e W μ0 hW hn μ h0 hT w s m hs hm none 0 [] 0 limit (Nat.le_refl _) hlim ⟨.slice none 0 0, v, .slice none 0 0, ⟨[], [a], []⟩, false⟩ b (fun _ => hv) E w' (hw.ent hpre)).mono fun e w'' ⟨r, L', he, ⟨e2, hr, hp⟩, hh⟩ => ?_
  rcases hp with ⟨k1, k2, k3⟩ | ⟨k1, k2, nv, A2, cap2, s2, μ2, k3, k4, k5, k6, k7, k8⟩
  · subst k3
    refine ⟨r, _, he, ⟨e2, hr, s, μ, Le.refl _, fun c => Nat.le_trans (hs c) (by omega), .inl ⟨by omega, k2, rfl⟩⟩, (hh.ent Ent.drop).ent ?_⟩
    exact show Ent (wkV w W.sv (.slice none 0 0) 0 limit :: stA none 0 [] :: W.A s :: ro μ :: []) [wkV w W.sv (.slice none 0 0) 0 limit, W.A s, ro μ] from Split.ent' (by repeat (first | exact Split.nil | (apply Split.cons; (repeat (first | with_reducible exact Take.here | apply Take.there)))))
  · subst k8
    refine ⟨r, _, he, ⟨e2, hr, s2, μ2, k7, k6, .inr ⟨k1, k2, nv, A2, cap2, k4, k5, rfl⟩⟩, (hh.ent Ent.drop).ent ?_⟩
    exact (naA_no k3).trans (show Ent (naA nv :: wkV w W.sv (.slice A2 1 cap2) 1 limit :: stA A2 cap2 [nv] :: treeA nv :: W.A s2 :: ro μ2 :: []) _ from Split.ent' (by repeat (first | exact Split.nil | (apply Split.cons; (repeat (first | with_reducible exact Take.here | apply Take.there))))))
set_option maxHeartbeats 4000000 in
theorem virtual_spec (W : HW) (μ0 : PH) (hW : W.Ok μ0) (hn : W.n ≤ 10000) (μ : PH) (h0 : Le μ0 μ) (hT : RowAt μ 1 0 tabV) (s : HSt) (m : Nat) (hs : AskB m s) (hm : m + 4098 ≤ 4611686018427387904) (a b limit : Int) :
    Spec Tryd.prog 10 [W.sv, .int .i64 a, .int .i64 b, .int .i64 limit] [W.A s, ro μ] (fun r L => ∃ (tv : Value) (s' : HSt) (μ' : PH), Le μ μ' ∧ AskB (m + 4097) s' ∧ TOk W.U (virtV W a b limit).1 ∧ r = .tuple #[tv, .bool (virtV W a b limit).2.1, .int .i64 (virtV W a b limit).2.2.1, .int .i64 (virtV W a b limit).2.2.2] ∧
      L = [own 52 2 tv (virtV W a b limit).1.length (ens (virtV W a b limit).1), W.A s', ro μ']) := by
  obtain ⟨lim, hlim⟩ : ∃ k : Nat, min (max limit 0) 4096 = (k : Int) := ⟨(min (max limit 0) 4096).toNat, by omega⟩
  have hl4 : lim ≤ 4096 := by omega
  have hlt : (min (max limit 0) 4096).toNat = lim := by omega
  refine Spec.of 55 Tryd.func10 rfl rfl rfl ?_
  refine swp_seq ?_
  refine swp_region ?_
  refine s_pu (pu_assign rfl) ?_
  refine s_pu (pu_assign rfl) ?_
  refine s_pu (pu_assign rfl) ?_
  refine s_pu (pu_assign rfl) ?_
  refine swl_sub _ (.cons (t := 0) rfl (.cons (t := 1) rfl (.cons (t := 2) rfl (.cons (t := 3) rfl .nil)))) ?_
  refine swl_nil ?_
  refine then_n ?_
  refine swp_seq ?_
  refine swp_seq ?_
  refine swp_region ?_
  refine s_pu (pu_move rfl) ?_
  refine s_pu (pu_move rfl) ?_
  refine s_pu (pu_move rfl) ?_
  refine s_ef (ef_fn (vasked_spec W μ0 hW s μ a b) rfl rfl (by repeat (first | exact Split.nil | (apply Split.cons; (repeat (first | with_reducible exact Take.here | apply Take.there)))))) ?_
  rintro v19 L1 ⟨rfl, rfl⟩
  refine swl_app ?_
  refine s_pu (pu_assign rfl) ?_
  refine swl_sub _ (.cons (t := 0) rfl (.cons (t := 1) rfl (.cons (t := 2) rfl (.cons (t := 3) rfl (.cons (t := 12) rfl .nil))))) ?_
  refine swl_nil ?_
  refine then_n ?_
  refine swp_seq ?_
  refine swp_region ?_
  refine s_pu (pu_move rfl) ?_
  refine s_pu (pu_neq rfl rfl) ?_
  refine swl_sub _ (.cons (t := 0) rfl (.cons (t := 1) rfl (.cons (t := 2) rfl (.cons (t := 3) rfl (.cons (t := 12) rfl (.cons (t := 21) rfl .nil)))))) ?_
  refine swl_nil ?_
  refine then_n ?_
  refine swp_cond (b := _) rfl (fun h21 => ?_) (fun h21 => ?_)
  · skip   -- 21 T
    refine swp_seq ?_
    refine swp_region ?_
    refine s_pu (pu_move rfl) ?_
    refine s_pu (pu_assign rfl) ?_
    refine s_pu (pu_assign rfl) ?_
    refine s_pu (pu_assign rfl) ?_
    refine s_pu (pu_assign rfl) ?_
    refine swl_sub _ (.cons (t := 8) rfl (.cons (t := 9) rfl (.cons (t := 10) rfl (.cons (t := 11) rfl .nil)))) ?_
    refine swl_nil ?_
    refine then_n ?_
    refine swp_ret ?_
    refine then_r ?_
    have h21' : askedV W.n a b ≠ 0 := fun e => by rw [e] at h21; exact absurd h21 (by decide)
    have e : virtV W a b limit = ([], false, 0, askedV W.n a b) := by unfold virtV; rw [if_pos h21']
    rw [e]
    exact done_retE [own 52 2 (.slice none 0 0) 0 [], W.A s, ro μ] (.tmp rfl (.tmp rfl (.tmp rfl (.tmp rfl .nil)))) ⟨_, s, μ, Le.refl _, fun c => Nat.le_trans (hs c) (by omega), TOk.nil _, rfl, rfl⟩ own_nil_ent
  · skip   -- 21 F
    have h21' : askedV W.n a b = 0 := by
      by_cases e : askedV W.n a b = 0
      · exact e
      · rw [decide_eq_false e] at h21; cases h21
    have hR := vst_start (VS W) (VT W) VM [] [a] b lim
    have hV : virtV W a b limit = match vall (VS W) (VT W) VM [] lim [a] b with | (none, _) => ([], false, 0, 12) | (some (t, ok), left) => (t, ok, ((lim - left : Nat) : Int), 0) := by unfold virtV; rw [if_neg (not_not_intro h21'), hlt]
    refine swp_skip ?_
    refine then_n ?_
    refine swp_seq ?_
    refine swp_region ?_
    refine s_pu (pu_move rfl) ?_
    refine s_pu (pu_move rfl) ?_
    refine s_pu (pu_max2 rfl rfl) ?_
    refine s_pu (pu_min2_as (lim : Int) rfl rfl hlim) ?_
    refine s_pu (pu_bld (qs := [(0, _), (3, _)]) rfl) ?_
    refine s_ef (ef_box rfl rfl) ?_
    intro b28
    refine s_pu (pu_assign rfl) ?_
    refine swl_sub _ (.cons (t := 1) rfl (.cons (t := 2) rfl (.cons (t := 13) rfl .nil))) ?_
    refine swl_nil ?_
    refine then_n ?_
    refine swp_seq ?_
    refine swp_region ?_
    refine s_pu (pu_move rfl) ?_
    refine s_pu (pu_move rfl) ?_
    refine s_ef (ef_bldS (qs := [(0, _)]) rfl rfl rfl) ?_
    intro b31
    refine s_pu (pu_move rfl) ?_
    refine swl_share (b := b31) (μ := μ) (by repeat (first | exact Split.nil | (apply Split.cons; (repeat (first | with_reducible exact Take.here | apply Take.there))))) fun μ1 h1 k1 => ?_
    have r2 : Row μ1 (.slice (some ⟨b31, 0, none⟩) 1 1) 1 1 (ivs [a]) := row_of_blk (n := 1) (l := 1) (cs := [a].flatMap (icsk .i64)) k1 (by rfl) (by decide)
    refine s_ef (ef_fn (push0 W μ0 hW hn μ1 (h0.trans h1) (hT.le h1) b28 s m hs (by omega) lim hl4 _ a b r2) rfl rfl (by repeat (first | exact Split.nil | (apply Split.cons; (repeat (first | with_reducible exact Take.here | apply Take.there)))))) ?_
    rintro v33 L1 ⟨e, rfl, s2, μ2, h2, hs2, hp⟩
    skip
    refine s_pu (pu_assign rfl) ?_
    refine swl_sub _ (.cons (t := 13) rfl (.cons (t := 14) rfl .nil)) ?_
    refine swl_nil ?_
    refine then_n ?_
    refine swp_seq ?_
    refine swp_seq ?_
    refine swp_region ?_
    refine s_pu (pu_move rfl) ?_
    refine s_pu (pu_neq rfl rfl) ?_
    refine swl_sub _ (.cons (t := 13) rfl (.cons (t := 14) rfl (.cons (t := 35) rfl .nil))) ?_
    refine swl_nil ?_
    refine then_n ?_
    refine swp_cond (b := _) rfl (fun h35 => ?_) (fun h35 => ?_)
    · skip   -- 35 T
      refine swp_seq ?_
      refine swp_region ?_
      refine s_pu (pu_move rfl) ?_
      refine s_pu (pu_assign rfl) ?_
      refine s_pu (pu_assign rfl) ?_
      refine s_pu (pu_assign rfl) ?_
      refine s_pu (pu_assign rfl) ?_
      refine swl_sub _ (.cons (t := 8) rfl (.cons (t := 9) rfl (.cons (t := 10) rfl (.cons (t := 11) rfl .nil)))) ?_
      refine swl_nil ?_
      refine then_n ?_
      refine swp_ret ?_
      refine then_r ?_
      have h35' : e ≠ 0 := fun e1 => by rw [e1] at h35; exact absurd h35 (by decide)
      rcases hp with ⟨k1, rfl, rfl⟩ | ⟨_, k2, _⟩
      · have e1 : virtV W a b limit = ([], false, 0, 12) := by rw [hV, k1]; rfl
        rw [e1]
        simp only [List.cons_append, List.nil_append]
        exact done_retE [own 52 2 (.slice none 0 0) 0 [], W.A s2, ro μ2] (.tmp rfl (.tmp rfl (.tmp rfl (.tmp rfl .nil)))) ⟨_, s2, μ2, h1.trans h2, fun c => Nat.le_trans (hs2 c) (by omega), TOk.nil _, rfl, rfl⟩ (own_nil_ent.trans (Split.ent' (K := [own 52 2 (.slice none 0 0) 0 [], W.A s2, ro μ2]) (by repeat (first | exact Split.nil | (apply Split.cons; (repeat (first | with_reducible exact Take.here | apply Take.there)))))))
      · exact absurd k2 h35'
    · skip   -- 35 F
      have h35' : e = 0 := by
        by_cases e1 : e = 0
        · exact e1
        · rw [decide_eq_false e1] at h35; cases h35
      obtain ⟨k1, nv, A2, cap2, k3, k4, rfl⟩ : 0 < lim ∧ ∃ (nv : VV) (A2 : Option Addr) (cap2 : Nat), nv.f = vfr (VT W) [] (VS W [a] b) ∧ nv.Ok W.n W.U μ2 ∧ L1 = [wkV b28 W.sv (.slice A2 1 cap2) 1 lim, stA A2 cap2 [nv], treeA nv, naA nv, W.A s2, ro μ2] := by
        rcases hp with ⟨_, k2, _⟩ | ⟨k1, _, k3⟩
        · rw [k2] at h35'; cases h35'
        · exact ⟨k1, k3⟩
      clear hp
      have hR2 := hR (by omega)
      rw [← k3] at hR2
      simp only [List.cons_append, List.nil_append]
      refine swp_skip ?_
      refine then_n ?_
      refine swp_seq ?_
      refine swp_region ?_
      refine s_pu (pu_move rfl) ?_
      refine s_ef (ef_fn (run_e W μ0 hW hn μ2 (h0.trans (h1.trans h2)) (hT.le (h1.trans h2)) b28 s2 m lim hl4 (by omega) A2 cap2 nv 1 hs2 (Nat.le_refl _) (by omega) k4 _ hR2.symm) rfl rfl (by repeat (first | exact Split.nil | (apply Split.cons; (repeat (first | with_reducible exact Take.here | apply Take.there)))))) ?_
      rintro v39 L2 ⟨A0, A1, A3, l0, l1, l2, c0, c1, c2, e3, rfl, s3, μ3, h3, hs3, hp⟩
      skip
      refine s_pu (pu_move rfl) ?_
      first | refine s_pu (pu_extractL rfl) ?_ | refine s_pu (pu_extract rfl rfl) ?_
      first | refine s_pu (pu_extractL rfl) ?_ | refine s_pu (pu_extract rfl rfl) ?_
      refine s_ef (ef_alloc) ?_
      intro b15
      refine s_ef0 (ef_storeA rfl rfl rfl rfl) ?_
      refine s_pu (pu_assign rfl) ?_
      refine swl_sub _ (.cons (t := 13) rfl (.cons (t := 14) rfl (.cons (t := 15) rfl .nil))) ?_
      refine swl_nil ?_
      refine then_n ?_
      refine swp_seq ?_
      refine swp_seq ?_
      refine swp_region ?_
      refine s_pu (pu_move rfl) ?_
      refine s_pu (pu_neq rfl rfl) ?_
      refine swl_sub _ (.cons (t := 13) rfl (.cons (t := 14) rfl (.cons (t := 15) rfl (.cons (t := 43) rfl .nil)))) ?_
      refine swl_nil ?_
      refine then_n ?_
      refine swp_cond (b := _) rfl (fun h43 => ?_) (fun h43 => ?_)
      · skip   -- 43 T
        refine swp_seq ?_
        refine swp_region ?_
        refine s_pu (pu_move rfl) ?_
        refine s_pu (pu_assign rfl) ?_
        refine s_pu (pu_assign rfl) ?_
        refine s_pu (pu_assign rfl) ?_
        refine s_pu (pu_assign rfl) ?_
        refine swl_sub _ (.cons (t := 8) rfl (.cons (t := 9) rfl (.cons (t := 10) rfl (.cons (t := 11) rfl .nil)))) ?_
        refine swl_nil ?_
        refine then_n ?_
        refine swp_ret ?_
        refine then_r ?_
        have h43' : e3 ≠ 0 := fun e1 => by rw [e1] at h43; exact absurd h43 (by decide)
        rcases hp with ⟨k1, rfl, rfl⟩ | ⟨k2, _⟩
        · have e1 : virtV W a b limit = ([], false, 0, 12) := by
            rw [hV]
            generalize vall (VS W) (VT W) VM [] lim [a] b = q at k1
            obtain ⟨q1, q2⟩ := q
            dsimp only at k1
            subst k1; rfl
          rw [e1]
          simp only [List.cons_append, List.nil_append]
          exact done_retE [own 52 2 (.slice none 0 0) 0 [], W.A s3, ro μ3] (.tmp rfl (.tmp rfl (.tmp rfl (.tmp rfl .nil)))) ⟨_, s3, μ3, h1.trans (h2.trans h3), fun c => Nat.le_trans (hs3 c) (by omega), TOk.nil _, rfl, rfl⟩ (own_nil_ent.trans (Split.ent' (K := [own 52 2 (.slice none 0 0) 0 [], W.A s3, ro μ3]) (by repeat (first | exact Split.nil | (apply Split.cons; (repeat (first | with_reducible exact Take.here | apply Take.there)))))))
        · exact absurd k2 h43'
      · skip   -- 43 F
        have h43' : e3 = 0 := by
          by_cases e1 : e3 = 0
          · exact e1
          · rw [decide_eq_false e1] at h43; cases h43
        obtain ⟨t, st, steps, q1, q2, q3, rfl, rfl⟩ : ∃ (t : List En) (st : Value) (steps : Nat), vall (VS W) (VT W) VM [] lim [a] b = (some (t, decide (0 < l1)), lim - steps) ∧ steps ≤ lim ∧ TOk W.U t ∧ l2 = t.length ∧ L2 = [wkV b28 W.sv st steps lim, own 52 2 (.slice A3 l2 c2) l2 (ens t), W.A s3, ro μ3] := by
          rcases hp with ⟨_, k2, _⟩ | ⟨_, k3⟩
          · rw [k2] at h43'; cases h43'
          · exact k3
        clear hp
        have e1 : virtV W a b limit = (t, decide (0 < l1), ((steps : Nat) : Int), 0) := by
          rw [hV, q1]
          show (t, decide (0 < l1), ((lim - (lim - steps) : Nat) : Int), 0) = _
          rw [show lim - (lim - steps) = steps by omega]
        rw [e1]
        simp only [List.cons_append, List.nil_append]
        refine swp_skip ?_
        refine then_n ?_
        refine swp_seq ?_
        refine swp_draw [1, 3, 9] _ [] (by simp only [List.append_nil]; exact Ent.refl _) (by kernel_rfl) ?_
        first | refine d_pu 0 rfl (pu_fieldAddr0 rfl) (by kernel_rfl) (by kernel_rfl) (by kernel_rfl) ?_ | refine d_pu 0 rfl (pu_fieldAddr rfl) (by kernel_rfl) (by kernel_rfl) (by kernel_rfl) ?_
        refine d_rd 1 rfl (rd_load rfl rfl) rfl (by kernel_rfl) (by kernel_rfl) (by kernel_rfl) ?_
        first | refine d_pu 2 rfl (pu_fieldAddr0 rfl) (by kernel_rfl) (by kernel_rfl) (by kernel_rfl) ?_ | refine d_pu 2 rfl (pu_fieldAddr rfl) (by kernel_rfl) (by kernel_rfl) (by kernel_rfl) ?_
        refine d_rd 3 rfl (rd_load rfl rfl) rfl (by kernel_rfl) (by kernel_rfl) (by kernel_rfl) ?_
        refine d_pu 4 rfl (pu_len rfl) (by kernel_rfl) (by kernel_rfl) (by kernel_rfl) ?_
        refine d_pu 5 rfl (pu_gtr rfl rfl) (by kernel_rfl) (by kernel_rfl) (by kernel_rfl) ?_
        refine d_pu 6 rfl (pu_move rfl) (by kernel_rfl) (by kernel_rfl) (by kernel_rfl) ?_
        first | refine d_pu 7 rfl (pu_nilCheck rfl) (by kernel_rfl) (by kernel_rfl) (by kernel_rfl) ?_ | refine d_pu 7 rfl (pu_nilCheck_fn rfl) (by kernel_rfl) (by kernel_rfl) (by kernel_rfl) ?_ | refine d_pu 7 rfl (pu_nilCheck_if rfl) (by kernel_rfl) (by kernel_rfl) (by kernel_rfl) ?_
        first | refine d_pu 8 rfl (pu_fieldAddr0 rfl) (by kernel_rfl) (by kernel_rfl) (by kernel_rfl) ?_ | refine d_pu 8 rfl (pu_fieldAddr rfl) (by kernel_rfl) (by kernel_rfl) (by kernel_rfl) ?_
        refine d_rd 9 rfl (rd_load rfl rfl) rfl (by kernel_rfl) (by kernel_rfl) (by kernel_rfl) ?_
        refine d_pu 10 rfl (pu_assign rfl) (by kernel_rfl) (by kernel_rfl) (by kernel_rfl) ?_
        refine d_pu 11 rfl (pu_assign rfl) (by kernel_rfl) (by kernel_rfl) (by kernel_rfl) ?_
        refine d_pu 12 rfl (pu_assign rfl) (by kernel_rfl) (by kernel_rfl) (by kernel_rfl) ?_
        refine d_pu 13 rfl (pu_assign rfl) (by kernel_rfl) (by kernel_rfl) (by kernel_rfl) ?_
        refine d_sub _ (.cons (t := 8) rfl (.cons (t := 9) rfl (.cons (t := 10) rfl (.cons (t := 11) rfl .nil)))) ?_
        first | refine d_nilt (by kernel_rfl) ?_ | refine d_nilf (by kernel_rfl) ?_
        refine then_n ?_
        refine swp_ret ?_
        refine done_retE [own 52 2 (.slice A3 t.length c2) t.length (ens t), W.A s3, ro μ3] (.tmp rfl (.tmp rfl (.tmp rfl (.tmp rfl .nil)))) ⟨_, s3, μ3, h1.trans (h2.trans h3), fun c => Nat.le_trans (hs3 c) (by omega), q3, ?_, rfl⟩ (Split.ent' (by repeat (first | exact Split.nil | (apply Split.cons; (repeat (first | with_reducible exact Take.here | apply Take.there))))))
        show Value.tuple #[_, .bool _, _, _] = _
        simp
end SX
namespace SX
open Go Go.Proofs
theorem virtV_in {W : HW} {a b limit : Int} (h : (virtV W a b limit).2.2.2 = 0) (hn : W.n ≤ 10000) : ∃ i j : Nat, a = (i : Int) ∧ b = (j : Int) ∧ i < W.n ∧ j < W.n := by
  have h1 : askedV W.n a b = 0 := by
    by_cases e : askedV W.n a b = 0
    · exact e
    · unfold virtV at h; rw [if_pos e] at h; exact absurd h e
  unfold askedV at h1
  have h2 : ¬ (min a b < 0 ∨ min (W.n : Int) 65536 ≤ max a b) := fun hc => by rw [if_pos hc] at h1; cases h1
  exact ⟨a.toNat, b.toNat, by omega, by omega, by omega, by omega⟩
/-- the merge over it: tree, conflicts, steps, error -/
def mergeV (W : HW) (a b limit : Int) : List En × List Cf × Int × Int :=
  if (virtV W a b limit).2.2.2 ≠ 0 then ([], [], 0, (virtV W a b limit).2.2.2) else
  (VM (virtV W a b limit).1 (VT W a) (VT W b), cfR (rowsB (virtV W a b limit).1 (VT W a) (VT W b)), (virtV W a b limit).2.2.1, 0)
set_option maxHeartbeats 4000000 in
theorem vmerge_spec (W : HW) (μ0 : PH) (hW : W.Ok μ0) (hn : W.n ≤ 10000) (μ : PH) (h0 : Le μ0 μ) (hT : RowAt μ 1 0 tabV) (s : HSt) (m : Nat) (hs : AskB m s) (hm : m + 4098 ≤ 4611686018427387904) (a b limit : Int) :
    Spec Tryd.prog 12 [W.sv, .int .i64 a, .int .i64 b, .int .i64 limit] [W.A s, ro μ] (fun r L => ∃ (tv cv : Value) (s' : HSt) (μ' : PH), Le μ μ' ∧ AskB (m + 4097) s' ∧ TOk W.U (mergeV W a b limit).1 ∧ r = .tuple #[tv, cv, .int .i64 (mergeV W a b limit).2.2.1, .int .i64 (mergeV W a b limit).2.2.2] ∧
      L = [own 52 2 tv (mergeV W a b limit).1.length (ens (mergeV W a b limit).1), own 96 4 cv (mergeV W a b limit).2.1.length (cfs (mergeV W a b limit).2.1), W.A s', ro μ']) := by
  have hUl := HW.U_len hW hn
  refine Spec.of 45 Tryd.func12 rfl rfl rfl ?_
  refine swp_seq ?_
  refine swp_region ?_
  refine s_pu (pu_assign rfl) ?_
  refine s_pu (pu_assign rfl) ?_
  refine s_pu (pu_assign rfl) ?_
  refine s_pu (pu_assign rfl) ?_
  refine swl_sub _ (.cons (t := 0) rfl (.cons (t := 1) rfl (.cons (t := 2) rfl (.cons (t := 3) rfl .nil)))) ?_
  refine swl_nil ?_
  refine then_n ?_
  refine swp_seq ?_
  refine swp_region ?_
  refine s_pu (pu_move rfl) ?_
  refine s_pu (pu_move rfl) ?_
  refine s_pu (pu_move rfl) ?_
  refine s_pu (pu_move rfl) ?_
  refine s_ef (ef_fn (virtual_spec W μ0 hW hn μ h0 hT s m hs hm a b limit) rfl rfl (by repeat (first | exact Split.nil | (apply Split.cons; (repeat (first | with_reducible exact Take.here | apply Take.there)))))) ?_
  rintro v23 L1 ⟨tv, s1, μ1, h1, hs1, ht, rfl, rfl⟩
  refine swl_app ?_
  refine s_pu (pu_move rfl) ?_
  first | refine s_pu (pu_extractL rfl) ?_ | refine s_pu (pu_extract rfl rfl) ?_
  first | refine s_pu (pu_extractL rfl) ?_ | refine s_pu (pu_extract rfl rfl) ?_
  first | refine s_pu (pu_extractL rfl) ?_ | refine s_pu (pu_extract rfl rfl) ?_
  first | refine s_pu (pu_extractL rfl) ?_ | refine s_pu (pu_extract rfl rfl) ?_
  refine s_pu (pu_assign rfl) ?_
  refine s_pu (pu_assign rfl) ?_
  refine s_pu (pu_assign rfl) ?_
  refine s_pu (pu_assign rfl) ?_
  refine swl_sub _ (.cons (t := 0) rfl (.cons (t := 1) rfl (.cons (t := 2) rfl (.cons (t := 12) rfl (.cons (t := 14) rfl (.cons (t := 15) rfl .nil)))))) ?_
  refine swl_nil ?_
  refine then_n ?_
  refine swp_seq ?_
  refine swp_seq ?_
  refine swp_region ?_
  refine s_pu (pu_move rfl) ?_
  refine s_pu (pu_neq rfl rfl) ?_
  refine swl_sub _ (.cons (t := 0) rfl (.cons (t := 1) rfl (.cons (t := 2) rfl (.cons (t := 12) rfl (.cons (t := 14) rfl (.cons (t := 15) rfl (.cons (t := 29) rfl .nil))))))) ?_
  refine swl_nil ?_
  refine then_n ?_
  refine swp_cond (b := _) rfl (fun h29 => ?_) (fun h29 => ?_)
  · skip   -- 29 T
    refine swp_seq ?_
    refine swp_region ?_
    refine s_pu (pu_move rfl) ?_
    refine s_pu (pu_assign rfl) ?_
    refine s_pu (pu_assign rfl) ?_
    refine s_pu (pu_assign rfl) ?_
    refine s_pu (pu_assign rfl) ?_
    refine swl_sub _ (.cons (t := 8) rfl (.cons (t := 9) rfl (.cons (t := 10) rfl (.cons (t := 11) rfl .nil)))) ?_
    refine swl_nil ?_
    refine then_n ?_
    refine swp_ret ?_
    refine then_r ?_
    have h29' : (virtV W a b limit).2.2.2 ≠ 0 := fun e => by rw [e] at h29; exact absurd h29 (by decide)
    have e : mergeV W a b limit = ([], [], 0, (virtV W a b limit).2.2.2) := by unfold mergeV; rw [if_pos h29']
    rw [e]
    exact done_retE [own 52 2 (.slice none 0 0) 0 [], own 96 4 (.slice none 0 0) 0 [], W.A s1, ro μ1] (.tmp rfl (.tmp rfl (.tmp rfl (.tmp rfl .nil)))) ⟨_, _, s1, μ1, h1, hs1, TOk.nil _, rfl, rfl⟩ (own_nil_ent.trans (own_nil_ent.trans (Split.ent' (K := [own 52 2 (.slice none 0 0) 0 [], own 96 4 (.slice none 0 0) 0 [], W.A s1, ro μ1]) (by repeat (first | exact Split.nil | (apply Split.cons; (repeat (first | with_reducible exact Take.here | apply Take.there))))))))
  · skip   -- 29 F
    have h29' : (virtV W a b limit).2.2.2 = 0 := by
      by_cases e : (virtV W a b limit).2.2.2 = 0
      · exact e
      · rw [decide_eq_false e] at h29; cases h29
    obtain ⟨i, j, ha, hb, hi, hj⟩ := virtV_in h29' hn
    have e : mergeV W a b limit = (VM (virtV W a b limit).1 (VT W a) (VT W b), cfR (rowsB (virtV W a b limit).1 (VT W a) (VT W b)), (virtV W a b limit).2.2.1, 0) := by unfold mergeV; rw [if_neg (not_not_intro h29')]
    rw [e]
    have eT : ∀ k : Nat, VT W (k : Int) = treeOf W.T k := fun k => rfl
    generalize virtV W a b limit = V at *
    subst ha hb
    rw [eT, eT]
    refine swp_share_own (e := 52) (n := 2) (v := tv) (μ := μ1) (by repeat (first | exact Split.nil | (apply Split.cons; (repeat (first | with_reducible exact Take.here | apply Take.there))))) fun μ2 h2 rT => ?_
    have hW2 := hW.le (h0.trans (h1.trans h2))
    refine swp_skip ?_
    refine then_n ?_
    refine swp_seq ?_
    refine swp_region ?_
    refine s_pu (pu_move rfl) ?_
    refine s_pu (pu_move rfl) ?_
    refine s_pu (pu_move rfl) ?_
    refine s_ef (ef_invS rfl (Nat.zero_le _) (hcontentR W μ2 hW2 s1 i hi) rfl (by repeat (first | exact Split.nil | (apply Split.cons; (repeat (first | with_reducible exact Take.here | apply Take.there)))))) ?_
    rintro v35 L1 ⟨μ3, h3, rA, rfl⟩
    refine swl_app ?_
    refine s_pu (pu_move rfl) ?_
    refine s_pu (pu_move rfl) ?_
    refine s_ef (ef_invS rfl (Nat.zero_le _) (hcontentR W μ3 (hW2.le h3) (lookS s1 i) j hj) rfl (by repeat (first | exact Split.nil | (apply Split.cons; (repeat (first | with_reducible exact Take.here | apply Take.there)))))) ?_
    rintro v38 L1 ⟨μ4, h4, rB, rfl⟩
    refine swl_app ?_
    refine s_ef (ef_fn (three_form μ4 tv v35 v38 V.1 (treeOf W.T i) (treeOf W.T j) (rT.le (h3.trans h4)) (rA.le h4) rB ⟨by have := ht.len; omega, by have := (vt_ok hW2 hi).len; omega, by have := (vt_ok hW2 hj).len; omega⟩ ⟨ht.u32, (vt_ok hW2 hi).u32, (vt_ok hW2 hj).u32⟩) rfl rfl (by repeat (first | exact Split.nil | (apply Split.cons; (repeat (first | with_reducible exact Take.here | apply Take.there)))))) ?_
    rintro v39 L1 ⟨A8, k8, v9, μ5, h5, rfl, rfl⟩
    refine swl_app ?_
    refine s_pu (pu_move rfl) ?_
    first | refine s_pu (pu_extractL rfl) ?_ | refine s_pu (pu_extract rfl rfl) ?_
    first | refine s_pu (pu_extractL rfl) ?_ | refine s_pu (pu_extract rfl rfl) ?_
    refine s_pu (pu_assign rfl) ?_
    refine s_pu (pu_assign rfl) ?_
    refine swl_sub _ (.cons (t := 14) rfl (.cons (t := 16) rfl (.cons (t := 17) rfl .nil))) ?_
    refine swl_nil ?_
    refine then_n ?_
    refine swp_seq ?_
    refine swp_region ?_
    refine s_pu (pu_move rfl) ?_
    refine s_pu (pu_move rfl) ?_
    refine s_pu (pu_move rfl) ?_
    refine s_pu (pu_assign rfl) ?_
    refine s_pu (pu_assign rfl) ?_
    refine s_pu (pu_assign rfl) ?_
    refine s_pu (pu_assign rfl) ?_
    refine swl_sub _ (.cons (t := 8) rfl (.cons (t := 9) rfl (.cons (t := 10) rfl (.cons (t := 11) rfl .nil)))) ?_
    refine swl_nil ?_
    refine then_n ?_
    refine swp_ret ?_
    exact done_retE [own 52 2 (.slice A8 (VM V.1 (treeOf W.T i) (treeOf W.T j)).length k8) (VM V.1 (treeOf W.T i) (treeOf W.T j)).length (ens (VM V.1 (treeOf W.T i) (treeOf W.T j))), own 96 4 v9 (cfR (rowsB V.1 (treeOf W.T i) (treeOf W.T j))).length (cfs (cfR (rowsB V.1 (treeOf W.T i) (treeOf W.T j)))), W.A (lookS (lookS s1 i) j), ro μ5] (.tmp rfl (.tmp rfl (.tmp rfl (.tmp rfl .nil)))) ⟨_, _, lookS (lookS s1 i) j, μ5, h1.trans (h2.trans (h3.trans (h4.trans h5))), fun c => hs1 c, ht.merge (vt_ok hW2 hi) (vt_ok hW2 hj), rfl, rfl⟩ (Split.ent' (by repeat (first | exact Split.nil | (apply Split.cons; (repeat (first | with_reducible exact Take.here | apply Take.there))))))
end SX
namespace SX
open Go Go.Proofs
theorem trow {μ : PH} {vT : Value} {T : List (Value × List En)} (hT : Row μ vT 1 T.length (T.flatMap gT)) {c : Nat} (hc : c < T.length) : ∃ b off cap, vT = .slice (some ⟨b, off, none⟩) T.length cap ∧ CellAt μ b (off + c * 1) (T[c]).1 := by
  obtain ⟨b, off, cap, hv, _, _, hr⟩ := hT.pos (by omega)
  exact ⟨b, off, cap, hv, (hr.elem (f := gT) (n := 1) (fun _ => rfl) (List.getElem?_eq_getElem hc)).cell⟩
theorem was_spec (μ : PH) (vG vT : Value) (G : List (Value × List Int)) (T : List (Value × List En)) (n : Nat) (hG : Graph μ vG G) (hT : Row μ vT 1 T.length (T.flatMap gT)) (hTr : ∀ t ∈ T, Row μ t.1 2 t.2.length (ens t.2) ∧ t.2.length ≤ 100 ∧ GoodT t.2 ∧ U32s t.2) (hTn : T.length = G.length) (hg : Good (nums G)) (hn : n < G.length) :
    Spec Tryd.prog 22 [vG, vT, .int .i64 (n : Nat)] [ro μ] (fun r L => ∃ t, Row μ r 2 t.length (ens t) ∧ t.length ≤ 100 ∧ GoodT t ∧ L = [ro μ]) := by
  obtain ⟨gb, off, cap, x, hv, hx, hxc, hxr, hnx⟩ := row_at hG hn
  refine Spec.of 22 Tryd.func22 rfl rfl rfl ?_
  refine swp_seq ?_
  refine swp_region ?_
  refine s_pu (pu_assign rfl) ?_
  refine swl_sub _ (.cons (t := 0) rfl (.cons (t := 1) rfl (.cons (t := 2) rfl .nil))) ?_
  refine swl_nil ?_
  refine then_n ?_
  refine swp_seq ?_
  refine swp_seq ?_
  refine swp_region ?_
  refine s_pu (pu_move rfl) ?_
  refine s_pu (pu_move rfl) ?_
  refine s_pu (pu_indexAddr (off + n * 1) (congrArg some hv) rfl (by omega) (by omega) (by rw [Int.toNat_natCast])) ?_
  refine s_rd (rd_ro rfl hxc) ?_
  refine s_pu (pu_len_row hxr rfl) ?_
  refine s_pu (pu_eql rfl rfl) ?_
  refine swl_sub _ (.cons (t := 0) rfl (.cons (t := 1) rfl (.cons (t := 2) rfl (.cons (t := 12) rfl .nil)))) ?_
  refine swl_nil ?_
  refine then_n ?_
  refine swp_cond (b := _) rfl (fun h12 => ?_) (fun h12 => ?_)
  · skip   -- 12 T
    refine swp_seq ?_
    refine swp_region ?_
    refine s_pu (pu_assign rfl) ?_
    refine swl_sub _ (.cons (t := 6) rfl .nil) ?_
    refine swl_nil ?_
    refine then_n ?_
    refine swp_ret ?_
    refine then_r ?_
    exact done_ret [ro μ] (.tmp rfl .nil) ⟨[], Row.nil _ _, Nat.zero_le _, good_nil, rfl⟩ (by repeat (first | exact Split.nil | (apply Split.cons; (repeat (first | with_reducible exact Take.here | apply Take.there)))))
  · skip   -- 12 F
    have h12' : ¬ x.2.length = 0 := by have := of_decide_eq_false h12; omega
    obtain ⟨c, rs, hrest⟩ : ∃ c rs, x.2 = c :: rs := by
      cases hq : x.2 with
      | nil => rw [hq] at h12'; exact absurd rfl h12'
      | cons c rs => exact ⟨c, rs, rfl⟩
    have hcin := hg n x.2 hnx c (by rw [hrest]; exact List.mem_cons_self ..)
    obtain ⟨k, rfl⟩ : ∃ k : Nat, c = (k : Int) := ⟨c.toNat, by omega⟩
    have hkn : k < T.length := by omega
    obtain ⟨pb, po, pc, hpv, hpc⟩ := hxr.at_ (show x.2[0]? = some (k : Int) by rw [hrest]; rfl)
    obtain ⟨tb, to, tc, htv, htc⟩ := trow hT hkn
    have ht := hTr _ (List.getElem_mem hkn)
    refine swp_skip ?_
    refine then_n ?_
    refine swp_seq ?_
    refine swp_region ?_
    refine s_pu (pu_move rfl) ?_
    refine s_pu (pu_move rfl) ?_
    refine s_pu (pu_move rfl) ?_
    refine s_pu (pu_indexAddr (off + n * 1) (congrArg some hv) rfl (by omega) (by omega) (by rw [Int.toNat_natCast])) ?_
    refine s_rd (rd_ro rfl hxc) ?_
    refine s_pu (pu_indexAddr (po + 0 * 1) (congrArg some hpv) rfl (by omega) (by omega) rfl) ?_
    refine s_rd (rd_ro rfl hpc) ?_
    refine s_pu (pu_indexAddr (to + k * 1) (congrArg some htv) rfl (by omega) (by omega) (by rw [Int.toNat_natCast])) ?_
    refine s_rd (rd_ro rfl htc) ?_
    refine s_pu (pu_assign rfl) ?_
    refine swl_sub _ (.cons (t := 6) rfl .nil) ?_
    refine swl_nil ?_
    refine then_n ?_
    refine swp_ret ?_
    exact done_ret [ro μ] (.tmp rfl .nil) ⟨_, ht.1, ht.2.1, ht.2.2.1, rfl⟩ (by repeat (first | exact Split.nil | (apply Split.cons; (repeat (first | with_reducible exact Take.here | apply Take.there)))))
end SX
