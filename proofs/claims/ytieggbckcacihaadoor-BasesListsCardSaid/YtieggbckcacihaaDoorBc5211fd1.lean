/- A part of the proof: walks of the program's functions, and the rules by which they go. -/
import Derived.Test.YtieggbckcacihaaDoorB6da4a892
import Derived.Test.YtieggbckcacihaaDoorBa11b1fb9
namespace SX.Bq
open Go Go.Proofs SX

theorem aW_trans (a b c : WI × Nat) (h1 : aW a b = true) (h2 : aW b c = true) : aW a c = true := Hp.ahd_trans ltW_ord a b c h1 h2

/-- a queue, by what comes out -/
def wa (q : Nat) (S : List (WI × Nat)) (nxt : Nat) : Assn := exA (fun es : {es : List (WI × Nat) // Hp.Rep aW es S ∧ ∀ y ∈ S, y.2 < nxt} => [wraw q es.1 nxt])
theorem wa_close {q nxt : Nat} {es S : List (WI × Nat)} {L : List Assn} (h : Hp.Rep aW es S) (h2 : ∀ y ∈ S, y.2 < nxt) : Ent (wraw q es nxt :: L) (wa q S nxt :: L) :=
  ent_ex (F := fun es : {es : List (WI × Nat) // Hp.Rep aW es S ∧ ∀ y ∈ S, y.2 < nxt} => [wraw q es.1 nxt]) ⟨es, h, h2⟩ (by repeat (first | exact Split.nil | (apply Split.cons; (repeat (first | with_reducible exact Take.here | apply Take.there)))))
theorem push_a (q : Nat) (S : List (WI × Nat)) (nxt : Nat) (x : WI) (hb1 : S.length ≤ 1099511627776) (hb2 : nxt ≤ 18446744073709551614) :
    Spec Tryd.prog 86 [.pointer (some ⟨q, 0, none⟩), wiV x] [wa q S nxt] (fun v L => v = .tuple #[] ∧ L = [wa q (Hp.ins aW (x, nxt) S) (nxt + 1)]) := by
  refine Spec.exA' fun ⟨es, hr, hn⟩ => ?_
  refine Spec.ent2 (push_w q es nxt x (by rw [hr.length]; exact hb1) hb2) (wa_close ?_ ?_)
  · refine hr.push (Hp.ahd_ord ltW_ord) aW_trans fun y hy h => Hp.ahd_total (by have := hn y hy; simp only; omega) h
  · intro y hy
    rcases Hp.mem_ins.1 hy with rfl | hy
    · simp
    · have := hn y hy; omega
theorem pop_a0 (q nxt : Nat) : Spec Tryd.prog 87 [.pointer (some ⟨q, 0, none⟩)] [wa q [] nxt] (fun v L => v = .tuple #[wiV wiZ, .bool false] ∧ L = [wa q [] nxt]) := by
  refine Spec.exA' fun ⟨es, hr, hn⟩ => ?_
  have he : es = [] := List.eq_nil_of_length_eq_zero (by rw [hr.length]; rfl)
  subst he
  exact Spec.ent2 (pop_w0 q nxt) (wa_close hr hn)
theorem pop_a (q nxt : Nat) (s : WI × Nat) (S : List (WI × Nat)) (hb : (s :: S).length ≤ 1099511627776) : Spec Tryd.prog 87 [.pointer (some ⟨q, 0, none⟩)] [wa q (s :: S) nxt] (fun v L => v = .tuple #[wiV s.1, .bool true] ∧ L = [wa q S nxt]) := by
  refine Spec.exA' fun ⟨es, hr, hn⟩ => ?_
  cases es with
  | nil => have := hr.length; simp at this
  | cons e es =>
    have hz : e = s := hr.head (Hp.ahd_ord ltW_ord) rfl
    subst hz
    exact Spec.ent2 (pop_w q nxt e es (by rw [hr.length]; exact hb)) (wa_close (hr.pop (Hp.ahd_ord ltW_ord)) fun y hy => hn y (List.mem_cons_of_mem _ hy))
theorem new_w : Spec Tryd.prog 69 [.slice none 0 0] [] (fun v L => ∃ q, v = .pointer (some ⟨q, 0, none⟩) ∧ L = [wa q [] 0]) := by
  refine Spec.of 19 Tryd.func69 rfl rfl rfl ?_
  refine swp_seq ?_
  refine swp_region ?_
  refine s_pu (pu_assign rfl) ?_
  refine swl_sub _ (.cons (t := 0) rfl .nil) ?_
  refine swl_nil ?_
  refine then_n ?_
  refine swp_seq ?_
  refine swp_region ?_
  refine s_pu (pu_bld (qs := []) rfl) ?_
  refine s_ef (ef_box rfl rfl) ?_
  intro b7
  refine s_pu (pu_assign rfl) ?_
  refine swl_sub _ (.cons (t := 0) rfl (.cons (t := 3) rfl .nil)) ?_
  refine swl_nil ?_
  refine then_n ?_
  refine swp_seq ?_
  refine swp_seq ?_
  refine swp_ent (wraw_nil (nxt := 0)) ?_
  refine swp_ent (wa_close Hp.Rep.nil (by simp)) ?_
  refine swp_region ?_
  refine s_pu (pu_move rfl) ?_
  refine s_pu (pu_len rfl) ?_
  refine s_pu (pu_move rfl) ?_
  refine swl_sub _ (.cons (t := 3) rfl (.cons (t := 8) rfl (.cons (t := 9) rfl (.cons (t := 10) rfl .nil)))) ?_
  refine swl_nil ?_
  refine then_n ?_
  refine swp_block ?_
  refine swp_loop (ι := Unit) (fun _ env L => env = [(3, _), (8, _), (9, .int .i64 0), (10, .int .i64 0)] ∧ L = [wa _ [] 0]) (fun _ => 0) () ⟨rfl, rfl⟩ ?_
  rintro _ env L ⟨rfl, rfl⟩
  refine swp_seq ?_
  refine swp_region ?_
  refine s_pu (pu_lss rfl rfl) ?_
  refine swl_sub _ (.cons (t := 3) rfl (.cons (t := 8) rfl (.cons (t := 9) rfl (.cons (t := 10) rfl (.cons (t := 11) rfl .nil))))) ?_
  refine swl_nil ?_
  refine then_n ?_
  refine swp_seq ?_
  refine swp_cond (b := _) rfl (fun h11 => by cases h11) (fun h11 => ?_)
  refine swp_exit ?_
  refine then_x ?_
  refine then_x ?_
  refine block_hit rfl ?_
  refine then_n ?_
  refine swp_seq ?_
  refine swp_region ?_
  refine s_pu (pu_move rfl) ?_
  refine s_pu (pu_assign rfl) ?_
  refine swl_sub _ (.cons (t := 2) rfl .nil) ?_
  refine swl_nil ?_
  refine then_n ?_
  refine swp_ret ?_
  exact done_ret _ (.tmp rfl .nil) ⟨_, rfl, rfl⟩ (by repeat (first | exact Split.nil | (apply Split.cons; (repeat (first | with_reducible exact Take.here | apply Take.there)))))
end SX.Bq
namespace SX.Bq
open Go Go.Proofs SX

theorem ins_fst {x nx : Nat} : ∀ {S : List (WI × Nat)} {Q : List Nat}, S.map (·.1) = Q.map (fun k : Nat => (k : Int)) → x ∉ Q → (Hp.ins aW ((x : Int), nx) S).map (·.1) = (insD x Q).map (fun k : Nat => (k : Int))
  | [], [], _, _ => rfl
  | [], _ :: _, h, _ => by simp at h
  | _ :: _, [], h, _ => by simp at h
  | s :: S, q :: Q, h, hx => by
    rw [List.map_cons, List.map_cons, List.cons.injEq] at h
    obtain ⟨h1, h2⟩ := h
    have hne : x ≠ q := fun e => hx (by rw [e]; exact List.mem_cons_self ..)
    have hA : aW ((x : Int), nx) s = decide (q < x) := by
      unfold aW Hp.ahd ltW
      rw [h1, Bool.eq_iff_iff]
      simp only [Bool.or_eq_true, Bool.and_eq_true, Bool.not_eq_true', decide_eq_true_eq, decide_eq_false_iff_not]
      show (@LT.lt Int _ q x ∨ _) ↔ _
      have e1 : (@LT.lt Int _ q x) ↔ q < x := by omega
      have e2 : (@LT.lt Int _ x q) ↔ x < q := by omega
      constructor
      · rintro (h | ⟨h, _⟩)
        · exact e1.1 h
        · have h' : ¬ @LT.lt Int _ (x : Int) (q : Int) := h
          omega
      · exact fun h => .inl (e1.2 h)
    unfold Hp.ins insD
    rw [hA]
    by_cases hq : q < x
    · rw [if_pos (decide_eq_true hq), if_pos hq, List.map_cons, List.map_cons, h1, h2]; rfl
    · rw [if_neg (by rw [decide_eq_false hq]; simp), if_neg hq, List.map_cons, List.map_cons, h1, ins_fst h2 (fun hm => hx (List.mem_cons_of_mem _ hm))]
/-- a queue of commits, by what comes out -/
def cq (q : Nat) (Q : List Nat) (nx : Nat) : Assn := exA (fun S : {S : List (WI × Nat) // S.map (·.1) = Q.map (fun k : Nat => (k : Int))} => [wa q S.1 nx])
theorem cq_close {q nx : Nat} {S : List (WI × Nat)} {Q : List Nat} {L : List Assn} (h : S.map (·.1) = Q.map (fun k : Nat => (k : Int))) : Ent (wa q S nx :: L) (cq q Q nx :: L) :=
  ent_ex (F := fun S : {S : List (WI × Nat) // S.map (·.1) = Q.map (fun k : Nat => (k : Int))} => [wa q S.1 nx]) ⟨S, h⟩ (by repeat (first | exact Split.nil | (apply Split.cons; (repeat (first | with_reducible exact Take.here | apply Take.there)))))
theorem len_fst {S : List (WI × Nat)} {Q : List Nat} (h : S.map (·.1) = Q.map (fun k : Nat => (k : Int))) : S.length = Q.length := by have := congrArg List.length h; rwa [List.length_map, List.length_map] at this
theorem push_q (q : Nat) (Q : List Nat) (nx x : Nat) (hx : x ∉ Q) (hb1 : Q.length ≤ 1099511627776) (hb2 : nx ≤ 18446744073709551614) :
    Spec Tryd.prog 86 [.pointer (some ⟨q, 0, none⟩), .int .i64 (x : Nat)] [cq q Q nx] (fun v L => v = .tuple #[] ∧ L = [cq q (insD x Q) (nx + 1)]) := by
  refine Spec.exA' fun ⟨S, hS⟩ => ?_
  exact Spec.ent2 (push_a q S nx (x : Int) (by rw [len_fst hS]; exact hb1) hb2) (cq_close (ins_fst hS hx))
theorem pop_q0 (q nx : Nat) : Spec Tryd.prog 87 [.pointer (some ⟨q, 0, none⟩)] [cq q [] nx] (fun v L => v = .tuple #[.int .i64 0, .bool false] ∧ L = [cq q [] nx]) := by
  refine Spec.exA' fun ⟨S, hS⟩ => ?_
  have he : S = [] := List.eq_nil_of_length_eq_zero (by rw [len_fst hS]; rfl)
  subst he
  exact Spec.ent2 (pop_a0 q nx) (cq_close rfl)
theorem pop_q (q nx c : Nat) (Q : List Nat) (hb : (c :: Q).length ≤ 1099511627776) : Spec Tryd.prog 87 [.pointer (some ⟨q, 0, none⟩)] [cq q (c :: Q) nx] (fun v L => v = .tuple #[.int .i64 (c : Nat), .bool true] ∧ L = [cq q Q nx]) := by
  refine Spec.exA' fun ⟨S, hS⟩ => ?_
  cases S with
  | nil => simp at hS
  | cons s S =>
    rw [List.map_cons, List.map_cons, List.cons.injEq] at hS
    have h := pop_a q nx s S (by have := len_fst hS.2; simp only [List.length_cons] at hb ⊢; omega)
    rw [hS.1] at h
    exact Spec.ent2 h (cq_close hS.2)
theorem new_q : Spec Tryd.prog 69 [.slice none 0 0] [] (fun v L => ∃ q, v = .pointer (some ⟨q, 0, none⟩) ∧ L = [cq q [] 0]) :=
  Spec.ent3 new_w fun v L ⟨q, hv, hL⟩ => ⟨_, by rw [hL]; exact cq_close rfl, q, hv, rfl⟩
end SX.Bq
namespace SX
open Go Go.Proofs

/-! bits of paints -/
theorem pu_or_nat {P : Program} {env : Env} {t u : TypeId} {x y : Operand} (a b : Nat) (hx : evalE env x = some (.int .i64 (a : Nat))) (hy : evalE env y = some (.int .i64 (b : Nat))) (ha : a < 4611686018427387904) (hb : b < 4611686018427387904) : Pu P env (.binOp .or t x y u) (.int .i64 ((a ||| b : Nat) : Int)) := fun ρ hρ _ _ _ _ _ w => by
  have hg : ∀ X Y, eqGuard .or t X Y (.int .i64 (a : Nat)) (.int .i64 (b : Nat)) = pure () := fun _ _ => by simp [eqGuard]
  have hle : a ||| b < 4611686018427387904 := Nat.or_lt_two_pow (n := 62) ha hb
  have hb' : (binOp .or t (.int .i64 (a : Nat)) (.int .i64 (b : Nat)) : Sem Value) = pure (.int .i64 ((a ||| b : Nat) : Int)) := by
    have e : (binOp .or t (.int .i64 (a : Nat)) (.int .i64 (b : Nat)) : Sem Value) = Op.intBits .or .i64 a b := by simp [binOp]
    rw [e]
    show (let a' : BitVec 64 := BitVec.ofInt 64 a; let b' : BitVec 64 := BitVec.ofInt 64 b; pure (.int .i64 (IntKind.i64.wrap (a' ||| b').toNat)) : Sem Value) = _
    have e1 : (BitVec.ofInt 64 (a : Int)).toNat = a := by rw [BitVec.ofInt_natCast, BitVec.toNat_ofNat]; exact Nat.mod_eq_of_lt (by omega)
    have e2 : (BitVec.ofInt 64 (b : Int)).toNat = b := by rw [BitVec.ofInt_natCast, BitVec.toNat_ofNat]; exact Nat.mod_eq_of_lt (by omega)
    simp only [BitVec.toNat_or, e1, e2]
    rw [wrap_i64 (by omega) (by omega)]
  simp only [execOp, hρ x _ hx, hρ y _ hy, Sem.run_bind, hg, hb', Sem.run_pure, Result.andThen_ok]
theorem pu_or_v {P : Program} {env : Env} {t u : TypeId} {x y : Operand} {a b : Nat} (ha : isV a) (hb : b < 8) (hx : evalE env x = some (.int .i64 (a : Nat))) (hy : evalE env y = some (.int .i64 (b : Nat))) : Pu P env (.binOp .or t x y u) (.int .i64 ((a ||| b : Nat) : Int)) :=
  pu_or_nat a b hx hy (by have := ha.lt; omega) (by omega)
theorem pu_and_v {P : Program} {env : Env} {t u : TypeId} {x y : Operand} {a : Nat} (b : Nat) (ha : isV a) (hb : b < 8) (hx : evalE env x = some (.int .i64 (a : Nat))) (hy : evalE env y = some (.int .i64 (b : Nat))) : Pu P env (.binOp .and t x y u) (.int .i64 ((a &&& b : Nat) : Int)) :=
  pu_and_nat a b hx hy (by have := ha.lt; omega) (by omega)
theorem four_v {a : Nat} (ha : isV a) : decide (((a &&& 4 : Nat) : Int) = 0) = decide (a < 4) := by rcases ha with rfl | rfl | rfl | rfl | rfl <;> decide
theorem three_v {a : Nat} (ha : isV a) (h : a < 4) : decide (((a &&& 3 : Nat) : Int) = 3) = decide (a = 3) := by rcases ha with rfl | rfl | rfl | rfl | rfl <;> first | decide | omega
theorem pu_four {P : Program} {env : Env} {t u : TypeId} {x y : Operand} {a : Nat} (ha : isV a) (hx : evalE env x = some (.int .i64 ((a &&& 4 : Nat) : Int))) (hy : evalE env y = some (.int .i64 0)) : Pu P env (.binOp .eql t x y u) (.bool (decide (a < 4))) := by
  rw [← four_v ha]; exact pu_eql hx hy
theorem pu_three {P : Program} {env : Env} {t u : TypeId} {x y : Operand} {a : Nat} (ha : isV a) (h : a < 4) (hx : evalE env x = some (.int .i64 ((a &&& 3 : Nat) : Int))) (hy : evalE env y = some (.int .i64 3)) : Pu P env (.binOp .eql t x y u) (.bool (decide (a = 3))) := by
  rw [← three_v ha h]; exact pu_eql hx hy

/-! the map of paints -/
def pmapOk (P : Nat → Nat) (l : Ents Int) : Prop := ∀ c : Nat, mlook l (c : Int) = if P c = 0 then none else some (.int .i64 (P c : Nat))
def mpP (b : Nat) (P : Nat → Nat) : Assn := exA fun k : {k : Ents Int × Nat // pmapOk P k.1} => [mpe b ikv k.1.1 k.1.2]
theorem mpP_close {b : Nat} {P : Nat → Nat} {l : Ents Int} {c : Nat} {L : List Assn} (h : pmapOk P l) : Ent (mpe b ikv l c :: L) (mpP b P :: L) :=
  ent_ex (F := fun k : {k : Ents Int × Nat // pmapOk P k.1} => [mpe b ikv k.1.1 k.1.2]) ⟨(l, c), h⟩ (by repeat (first | exact Split.nil | (apply Split.cons; (repeat (first | with_reducible exact Take.here | apply Take.there)))))
theorem pmap_get {P : Nat → Nat} {l : Ents Int} (h : pmapOk P l) (c : Nat) : (mlook l (c : Int)).getD (Value.int .i64 0) = Value.int .i64 (P c : Nat) ∧ (mlook l (c : Int)).isSome = decide (P c ≠ 0) := by
  rw [h]
  by_cases e : P c = 0
  · rw [if_pos e, e]; exact ⟨rfl, rfl⟩
  · rw [if_neg e]; exact ⟨rfl, (decide_eq_true e).symm⟩
theorem pmap_upd {s : PS} {l : Ents Int} (h : pmapOk s.1 l) (c k : Nat) {v : Nat} (hne : s.1 c ||| v ≠ 0) : pmapOk (addP s c v).1 (upd l k (c : Int) (.int .i64 ((s.1 c ||| v : Nat) : Int))) := fun j => by
  rw [mlook_upd, h]
  show _ = if (if j = c then s.1 j ||| v else s.1 j) = 0 then none else some (Value.int .i64 ((if j = c then s.1 j ||| v else s.1 j : Nat) : Int))
  by_cases e : j = c
  · subst e
    rw [if_pos rfl, if_pos rfl, if_neg hne]
  · rw [if_neg (fun h => e (by omega)), if_neg e]
theorem pmap_nil : pmapOk (fun _ => 0) [] := fun _ => rfl
theorem rd_pmap2 {env : Env} {L : List Assn} {b k : Nat} {P : Nat → Nat} {l : Ents Int} {m x : Operand} [InM b L ikv l k] (h : pmapOk P l) (c : Nat) (hx : evalE env m = some (.map (some b))) (hy : evalE env x = some (.int .i64 (c : Nat))) : Rd Tryd.prog env L (.lookup 94 m x true) (.tuple #[.int .i64 (P c : Nat), .bool (decide (P c ≠ 0))]) := by
  have := rd_mlook2 (P := Tryd.prog) (t := 94) (kv := ikv) (L := L) (l := l) (c := k) (b := b) (c : Int) hx hy
  rwa [(pmap_get h c).1, (pmap_get h c).2] at this
theorem rd_pmap {env : Env} {L : List Assn} {b k : Nat} {P : Nat → Nat} {l : Ents Int} {m x : Operand} [InM b L ikv l k] (h : pmapOk P l) (c : Nat) (hx : evalE env m = some (.map (some b))) (hy : evalE env x = some (.int .i64 (c : Nat))) : Rd Tryd.prog env L (.lookup 94 m x false) (.int .i64 (P c : Nat)) := by
  have := rd_mlook (P := Tryd.prog) (t := 94) (kv := ikv) (L := L) (l := l) (c := k) (b := b) (c : Int) hx hy
  rwa [(pmap_get h c).1] at this
abbrev ptB (p : Nat) (sv : Value) (n mb q F : Nat) : Assn := blk p 99 [sv, .int .i64 (n : Nat), .map (some mb), .pointer (some ⟨q, 0, none⟩), .int .i64 (F : Nat)]
/-- how many were painted -/
def seenP (n : Nat) (P : Nat → Nat) : Nat := seenN n fun k => decide (P k ≠ 0)
theorem seenP_add {n : Nat} {s : PS} {c v : Nat} (hc : c < n) (hne : s.1 c ||| v ≠ 0) : seenP n (addP s c v).1 = if s.1 c = 0 then seenP n s.1 + 1 else seenP n s.1 := by
  have e : (fun k => decide ((addP s c v).1 k ≠ 0)) = fun j => decide (s.1 j ≠ 0) || decide (j = c) := funext fun j => by
    show decide ((if j = c then s.1 j ||| v else s.1 j) ≠ 0) = _
    by_cases e : j = c
    · subst e; rw [if_pos rfl, decide_eq_true hne]; simp
    · rw [if_neg e, decide_eq_false e, Bool.or_false]
  unfold seenP
  rw [e]
  by_cases h0 : s.1 c = 0
  · rw [if_pos h0, seenN_put (by simpa using h0) hc]
  · rw [if_neg h0]
    congr 1
    funext j
    by_cases e : j = c
    · subst e; rw [decide_eq_true h0]; simp
    · rw [decide_eq_false e, Bool.or_false]
theorem addP_new {s : PS} {c v : Nat} (h : s.1 c = 0) : (addP s c v).2 = insD c s.2 := if_pos h
theorem addP_old {s : PS} {c v : Nat} (h : s.1 c ≠ 0) : (addP s c v).2 = s.2 := if_neg h
theorem or_ne {a v : Nat} (h : v ≠ 0) : a ||| v ≠ 0 := by
  have : v ≤ a ||| v := Nat.right_le_or
  omega
set_option maxHeartbeats 2000000 in
theorem padd_spec (p n m mb q : Nat) (sv : Value) (s : PS) (c v : Nat) (hn : n ≤ 65536) (hI : PI n m s) (hm : m ≤ n) (hc : c < m) (hv : isV v) (h0 : v ≠ 0) :
    Spec Tryd.prog 70 [.pointer (some ⟨p, 0, none⟩), .int .i64 (c : Nat), .int .i64 (v : Nat)] [ptB p sv n mb q (frP s), mpP mb s.1, Bq.cq q s.2 (seenP n s.1)]
      (fun r L => r = .tuple #[] ∧ L = [ptB p sv n mb q (frP (addP s c v)), mpP mb (addP s c v).1, Bq.cq q (addP s c v).2 (seenP n (addP s c v).1)]) := by
  have hne := or_ne (a := s.1 c) h0
  have hql := falls_len hI.falls hI.lt
  have hsl := seenN_le n fun k => decide (s.1 k ≠ 0)
  have hse := seenP_add (v := v) (show c < n by omega) hne
  obtain ⟨f1, f2, f3⟩ := frP_add hI hc hv
  have hfl := frP_le hI
  have hva := hI.val c
  have hvo := hva.or hv
  have hww : pWas s c = (decide (s.1 c ≠ 0) && decide (s.1 c < 4)) := rfl
  have hii : pIs s c v = decide (s.1 c ||| v < 4) := rfl
  refine Spec.pre ?_ Ent.swap
  refine Spec.exA' fun ⟨⟨l, k⟩, hl⟩ => ?_
  simp only [List.cons_append, List.nil_append]
  dsimp only at hl ⊢
  refine Spec.ent3 (post := fun r L => ∃ k', r = .tuple #[] ∧ L = [mpe mb ikv (upd l k (c : Int) (.int .i64 ((s.1 c ||| v : Nat) : Int))) k', ptB p sv n mb q (frP (addP s c v)), Bq.cq q (addP s c v).2 (seenP n (addP s c v).1)]) ?_
    (fun r L ⟨k', h1, h2⟩ => ⟨_, by rw [h2]; exact (mpP_close (pmap_upd hl c k hne)).trans Ent.swap, h1, rfl⟩)
  refine Spec.of 80 Tryd.func70 rfl rfl rfl ?_
  refine swp_seq ?_
  refine swp_seq ?_
  refine swp_region ?_
  refine s_pu (pu_move rfl) ?_
  refine s_pu (pu_lss rfl rfl) ?_
  refine s_pu (pu_move rfl) ?_
  refine s_split 12 rfl (fun h12 => by exfalso; have := of_decide_eq_true h12; omega) (fun h12 => ?_)
  refine s_on rfl rfl ?_
  refine s_pu (pu_move rfl) ?_
  refine s_on rfl rfl ?_
  refine s_pu (pu_move rfl) ?_
  refine s_on rfl rfl ?_
  first | refine s_pu (pu_nilCheck rfl) ?_ | refine s_pu (pu_nilCheck_fn rfl) ?_ | refine s_pu (pu_nilCheck_if rfl) ?_
  refine s_on rfl rfl ?_
  first | refine s_pu (pu_fieldAddr0 rfl) ?_ | refine s_pu (pu_fieldAddr rfl) ?_
  refine s_on rfl rfl ?_
  refine s_rd (rd_load rfl rfl) ?_
  refine s_on rfl rfl ?_
  refine s_pu (pu_geq rfl rfl) ?_
  first | refine s_pu (pu_pick_t rfl rfl) ?_ | refine s_pu (pu_pick_f rfl rfl) ?_
  refine swl_sub _ (.cons (t := 0) rfl (.cons (t := 1) rfl (.cons (t := 2) rfl (.cons (t := 19) rfl .nil)))) ?_
  refine swl_nil ?_
  refine then_n ?_
  refine swp_cond (b := _) rfl (fun h19 => by exfalso; have := of_decide_eq_true h19; omega) (fun h19 => ?_)
  refine swp_skip ?_
  refine then_n ?_
  refine swp_seq ?_
  refine swp_region ?_
  refine s_pu (pu_move rfl) ?_
  first | refine s_pu (pu_nilCheck rfl) ?_ | refine s_pu (pu_nilCheck_fn rfl) ?_ | refine s_pu (pu_nilCheck_if rfl) ?_
  first | refine s_pu (pu_fieldAddr0 rfl) ?_ | refine s_pu (pu_fieldAddr rfl) ?_
  refine s_rd (rd_load rfl rfl) ?_
  refine s_pu (pu_move rfl) ?_
  refine s_rd (rd_pmap2 hl c rfl rfl) ?_
  refine s_pu (pu_move rfl) ?_
  first | refine s_pu (pu_extractL rfl) ?_ | refine s_pu (pu_extract rfl rfl) ?_
  first | refine s_pu (pu_extractL rfl) ?_ | refine s_pu (pu_extract rfl rfl) ?_
  refine s_pu (pu_assign rfl) ?_
  refine s_pu (pu_assign rfl) ?_
  refine swl_sub _ (.cons (t := 0) rfl (.cons (t := 1) rfl (.cons (t := 2) rfl (.cons (t := 6) rfl (.cons (t := 7) rfl .nil))))) ?_
  refine swl_nil ?_
  refine then_n ?_
  refine swp_seq ?_
  refine swp_region ?_
  refine s_pu (pu_move rfl) ?_
  first | refine s_pu (pu_nilCheck rfl) ?_ | refine s_pu (pu_nilCheck_fn rfl) ?_ | refine s_pu (pu_nilCheck_if rfl) ?_
  first | refine s_pu (pu_fieldAddr0 rfl) ?_ | refine s_pu (pu_fieldAddr rfl) ?_
  refine s_rd (rd_load rfl rfl) ?_
  refine s_pu (pu_move rfl) ?_
  refine s_pu (pu_move rfl) ?_
  refine s_pu (pu_move rfl) ?_
  refine s_pu (pu_or_v hva hv.lt rfl rfl) ?_
  refine s_ef0 (ef_upd (kv := ikv) _ rfl rfl rfl (by repeat (first | exact Split.nil | (apply Split.cons; (repeat (first | with_reducible exact Take.here | apply Take.there)))))) ?_
  refine swl_sub _ (.cons (t := 0) rfl (.cons (t := 1) rfl (.cons (t := 2) rfl (.cons (t := 6) rfl (.cons (t := 7) rfl .nil))))) ?_
  refine swl_nil ?_
  refine then_n ?_
  refine swp_seq ?_
  refine swp_seq ?_
  refine swp_region ?_
  refine s_pu (pu_move rfl) ?_
  refine s_pu (pu_not rfl) ?_
  refine swl_sub _ (.cons (t := 0) rfl (.cons (t := 1) rfl (.cons (t := 2) rfl (.cons (t := 6) rfl (.cons (t := 7) rfl (.cons (t := 38) rfl .nil)))))) ?_
  refine swl_nil ?_
  refine then_n ?_
  refine swp_cond (b := _) rfl (fun h38 => ?_) (fun h38 => ?_)
  · skip   -- 38 T
    have hz : s.1 c = 0 := by simpa using h38
    have hqn : c ∉ s.2 := fun hq => (hI.seen c hc).2 hq hz
    have hw : pWas s c = false := by rw [hww, hz]; rfl
    rw [if_pos hz] at hse
    refine swp_region ?_
    refine s_pu (pu_move rfl) ?_
    first | refine s_pu (pu_nilCheck rfl) ?_ | refine s_pu (pu_nilCheck_fn rfl) ?_ | refine s_pu (pu_nilCheck_if rfl) ?_
    first | refine s_pu (pu_fieldAddr0 rfl) ?_ | refine s_pu (pu_fieldAddr rfl) ?_
    refine s_rd (rd_load rfl rfl) ?_
    refine s_pu (pu_move rfl) ?_
    refine s_ef (ef_fn (Bq.push_q q s.2 (seenP n s.1) c hqn (by omega) (by unfold seenP; omega)) rfl rfl (by repeat (first | exact Split.nil | (apply Split.cons; (repeat (first | with_reducible exact Take.here | apply Take.there)))))) ?_
    rintro v44 L1 ⟨rfl, rfl⟩
    refine swl_app ?_
    rw [← addP_new (v := v) hz, ← hse]
    refine swl_sub _ (.cons (t := 0) rfl (.cons (t := 2) rfl (.cons (t := 6) rfl (.cons (t := 7) rfl .nil)))) ?_
    refine swl_nil ?_
    refine then_n ?_
    refine swp_seq ?_
    refine swp_region ?_
    refine s_pu (pu_move rfl) ?_
    refine s_pu (pu_move rfl) ?_
    refine s_split 46 rfl (fun h46 => by exfalso; have := of_decide_eq_true h46; exact this hz) (fun h46 => ?_)
    refine s_off rfl rfl rfl ?_
    refine s_off rfl rfl rfl ?_
    refine s_off rfl rfl rfl ?_
    first | refine s_pu (pu_pick_t rfl rfl) ?_ | refine s_pu (pu_pick_f rfl rfl) ?_
    refine s_pu (pu_move rfl) ?_
    refine s_pu (pu_move rfl) ?_
    refine s_pu (pu_or_v hva hv.lt rfl rfl) ?_
    refine s_pu (pu_and_v 4 hvo (by decide) rfl rfl) ?_
    refine s_pu (pu_four hvo rfl rfl) ?_
    refine s_pu (pu_assign rfl) ?_
    refine s_pu (pu_assign rfl) ?_
    refine swl_sub _ (.cons (t := 0) rfl (.cons (t := 8) rfl (.cons (t := 9) rfl .nil))) ?_
    refine swl_nil ?_
    refine then_n ?_
    refine swp_seq ?_
    refine swp_region ?_
    refine s_pu (pu_move rfl) ?_
    refine s_pu (pu_move rfl) ?_
    refine s_split 57 rfl (fun h57 => ?_) (fun h57 => ?_)
    · skip   -- 57 T
      refine s_on rfl rfl ?_
      refine s_pu (pu_move rfl) ?_
      refine s_on rfl rfl ?_
      refine s_pu (pu_not rfl) ?_
      first | refine s_pu (pu_pick_t rfl rfl) ?_ | refine s_pu (pu_pick_f rfl rfl) ?_
      refine swl_sub _ (.cons (t := 0) rfl (.cons (t := 8) rfl (.cons (t := 9) rfl (.cons (t := 60) rfl .nil)))) ?_
      refine swl_nil ?_
      refine then_n ?_
      refine swp_cond (b := _) rfl (fun h60 => ?_) (fun h60 => by cases h60)
      have e7 := f1 h57 hw
      refine swp_region ?_
      refine s_pu (pu_move rfl) ?_
      first | refine s_pu (pu_nilCheck rfl) ?_ | refine s_pu (pu_nilCheck_fn rfl) ?_ | refine s_pu (pu_nilCheck_if rfl) ?_
      first | refine s_pu (pu_fieldAddr0 rfl) ?_ | refine s_pu (pu_fieldAddr rfl) ?_
      refine s_rd (rd_load rfl rfl) ?_
      refine s_pu (pu_add_as ((frP (addP s c v) : Nat) : Int) rfl rfl (by omega) (by omega) (by omega)) ?_
      first | refine s_pu (pu_nilCheck rfl) ?_ | refine s_pu (pu_nilCheck_fn rfl) ?_ | refine s_pu (pu_nilCheck_if rfl) ?_
      first | refine s_pu (pu_fieldAddr0 rfl) ?_ | refine s_pu (pu_fieldAddr rfl) ?_
      refine s_ef0 (ef_store rfl rfl rfl) ?_
      refine swl_sub _ .nil ?_
      refine swl_nil ?_
      exact done_end [mpe mb ikv (upd l k (c : Int) (.int .i64 ((s.1 c ||| v : Nat) : Int))) _, ptB p sv n mb q (frP (addP s c v)), Bq.cq q (addP s c v).2 (seenP n (addP s c v).1)] .nil ⟨_, rfl, rfl⟩ (by repeat (first | exact Split.nil | (apply Split.cons; (repeat (first | with_reducible exact Take.here | apply Take.there)))))
    · skip   -- 57 F
      refine s_off rfl rfl rfl ?_
      refine s_off rfl rfl rfl ?_
      first | refine s_pu (pu_pick_t rfl rfl) ?_ | refine s_pu (pu_pick_f rfl rfl) ?_
      refine swl_sub _ (.cons (t := 0) rfl (.cons (t := 8) rfl (.cons (t := 9) rfl (.cons (t := 60) rfl .nil)))) ?_
      refine swl_nil ?_
      refine then_n ?_
      refine swp_cond (b := _) rfl (fun h60 => by cases h60) (fun h60 => ?_)
      refine swp_seq ?_
      refine swp_region ?_
      refine s_pu (pu_move rfl) ?_
      refine s_pu (pu_move rfl) ?_
      refine s_split 69 rfl (fun h69 => by cases h69) (fun h69 => ?_)
      refine s_off rfl rfl rfl ?_
      refine s_off rfl rfl rfl ?_
      first | refine s_pu (pu_pick_t rfl rfl) ?_ | refine s_pu (pu_pick_f rfl rfl) ?_
      refine swl_sub _ (.cons (t := 0) rfl (.cons (t := 72) rfl .nil)) ?_
      refine swl_nil ?_
      refine then_n ?_
      refine swp_cond (b := _) rfl (fun h72 => by cases h72) (fun h72 => ?_)
      refine swp_skip ?_
      rw [← f3 (h57.trans hw.symm)]
      exact done_end [mpe mb ikv (upd l k (c : Int) (.int .i64 ((s.1 c ||| v : Nat) : Int))) _, ptB p sv n mb q (frP (addP s c v)), Bq.cq q (addP s c v).2 (seenP n (addP s c v).1)] .nil ⟨_, rfl, rfl⟩ (by repeat (first | exact Split.nil | (apply Split.cons; (repeat (first | with_reducible exact Take.here | apply Take.there)))))
  · skip   -- 38 F
    have hz : s.1 c ≠ 0 := by simpa using h38
    have hw : pWas s c = decide (s.1 c < 4) := by rw [hww, decide_eq_true hz, Bool.true_and]
    rw [if_neg hz] at hse
    rw [← addP_old (v := v) hz, ← hse]
    refine swp_skip ?_
    refine then_n ?_
    refine swp_seq ?_
    refine swp_region ?_
    refine s_pu (pu_move rfl) ?_
    refine s_pu (pu_move rfl) ?_
    refine s_split 46 rfl (fun h46 => ?_) (fun h46 => by exfalso; have := of_decide_eq_false h46; exact this hz)
    refine s_on rfl rfl ?_
    refine s_pu (pu_move rfl) ?_
    refine s_on rfl rfl ?_
    refine s_pu (pu_and_v 4 hva (by decide) rfl rfl) ?_
    refine s_on rfl rfl ?_
    refine s_pu (pu_four hva rfl rfl) ?_
    first | refine s_pu (pu_pick_t rfl rfl) ?_ | refine s_pu (pu_pick_f rfl rfl) ?_
    refine s_pu (pu_move rfl) ?_
    refine s_pu (pu_move rfl) ?_
    refine s_pu (pu_or_v hva hv.lt rfl rfl) ?_
    refine s_pu (pu_and_v 4 hvo (by decide) rfl rfl) ?_
    refine s_pu (pu_four hvo rfl rfl) ?_
    refine s_pu (pu_assign rfl) ?_
    refine s_pu (pu_assign rfl) ?_
    refine swl_sub _ (.cons (t := 0) rfl (.cons (t := 8) rfl (.cons (t := 9) rfl .nil))) ?_
    refine swl_nil ?_
    refine then_n ?_
    refine swp_seq ?_
    refine swp_region ?_
    refine s_pu (pu_move rfl) ?_
    refine s_pu (pu_move rfl) ?_
    refine s_split 57 rfl (fun h57 => ?_) (fun h57 => ?_)
    · skip   -- 57 T
      refine s_on rfl rfl ?_
      refine s_pu (pu_move rfl) ?_
      refine s_on rfl rfl ?_
      refine s_pu (pu_not rfl) ?_
      first | refine s_pu (pu_pick_t rfl rfl) ?_ | refine s_pu (pu_pick_f rfl rfl) ?_
      refine swl_sub _ (.cons (t := 0) rfl (.cons (t := 8) rfl (.cons (t := 9) rfl (.cons (t := 60) rfl .nil)))) ?_
      refine swl_nil ?_
      refine then_n ?_
      refine swp_cond (b := _) rfl (fun h60 => ?_) (fun h60 => ?_)
      · skip   -- 60 T
        have e7 := f1 h57 (by rw [hw]; simpa using h60)
        refine swp_region ?_
        refine s_pu (pu_move rfl) ?_
        first | refine s_pu (pu_nilCheck rfl) ?_ | refine s_pu (pu_nilCheck_fn rfl) ?_ | refine s_pu (pu_nilCheck_if rfl) ?_
        first | refine s_pu (pu_fieldAddr0 rfl) ?_ | refine s_pu (pu_fieldAddr rfl) ?_
        refine s_rd (rd_load rfl rfl) ?_
        refine s_pu (pu_add_as ((frP (addP s c v) : Nat) : Int) rfl rfl (by omega) (by omega) (by omega)) ?_
        first | refine s_pu (pu_nilCheck rfl) ?_ | refine s_pu (pu_nilCheck_fn rfl) ?_ | refine s_pu (pu_nilCheck_if rfl) ?_
        first | refine s_pu (pu_fieldAddr0 rfl) ?_ | refine s_pu (pu_fieldAddr rfl) ?_
        refine s_ef0 (ef_store rfl rfl rfl) ?_
        refine swl_sub _ .nil ?_
        refine swl_nil ?_
        exact done_end [mpe mb ikv (upd l k (c : Int) (.int .i64 ((s.1 c ||| v : Nat) : Int))) _, ptB p sv n mb q (frP (addP s c v)), Bq.cq q (addP s c v).2 (seenP n (addP s c v).1)] .nil ⟨_, rfl, rfl⟩ (by repeat (first | exact Split.nil | (apply Split.cons; (repeat (first | with_reducible exact Take.here | apply Take.there)))))
      · skip   -- 60 F
        refine swp_seq ?_
        refine swp_region ?_
        refine s_pu (pu_move rfl) ?_
        refine s_pu (pu_move rfl) ?_
        refine s_split 69 rfl (fun h69 => ?_) (fun h69 => by rw [h69] at h60; cases h60)
        refine s_on rfl rfl ?_
        refine s_pu (pu_move rfl) ?_
        refine s_on rfl rfl ?_
        refine s_pu (pu_not rfl) ?_
        first | refine s_pu (pu_pick_t rfl rfl) ?_ | refine s_pu (pu_pick_f rfl rfl) ?_
        refine swl_sub _ (.cons (t := 0) rfl (.cons (t := 72) rfl .nil)) ?_
        refine swl_nil ?_
        refine then_n ?_
        refine swp_cond (b := _) rfl (fun h72 => by rw [h57] at h72; cases h72) (fun h72 => ?_)
        refine swp_skip ?_
        rw [← f3 (h57.trans (hw.trans h69).symm)]
        exact done_end [mpe mb ikv (upd l k (c : Int) (.int .i64 ((s.1 c ||| v : Nat) : Int))) _, ptB p sv n mb q (frP (addP s c v)), Bq.cq q (addP s c v).2 (seenP n (addP s c v).1)] .nil ⟨_, rfl, rfl⟩ (by repeat (first | exact Split.nil | (apply Split.cons; (repeat (first | with_reducible exact Take.here | apply Take.there)))))
    · skip   -- 57 F
      refine s_off rfl rfl rfl ?_
      refine s_off rfl rfl rfl ?_
      first | refine s_pu (pu_pick_t rfl rfl) ?_ | refine s_pu (pu_pick_f rfl rfl) ?_
      refine swl_sub _ (.cons (t := 0) rfl (.cons (t := 8) rfl (.cons (t := 9) rfl (.cons (t := 60) rfl .nil)))) ?_
      refine swl_nil ?_
      refine then_n ?_
      refine swp_cond (b := _) rfl (fun h60 => by cases h60) (fun h60 => ?_)
      refine swp_seq ?_
      refine swp_region ?_
      refine s_pu (pu_move rfl) ?_
      refine s_pu (pu_move rfl) ?_
      refine s_split 69 rfl (fun h69 => ?_) (fun h69 => ?_)
      · skip   -- 69 T
        refine s_on rfl rfl ?_
        refine s_pu (pu_move rfl) ?_
        refine s_on rfl rfl ?_
        refine s_pu (pu_not rfl) ?_
        first | refine s_pu (pu_pick_t rfl rfl) ?_ | refine s_pu (pu_pick_f rfl rfl) ?_
        refine swl_sub _ (.cons (t := 0) rfl (.cons (t := 72) rfl .nil)) ?_
        refine swl_nil ?_
        refine then_n ?_
        refine swp_cond (b := _) rfl (fun h72 => ?_) (fun h72 => by rw [h57] at h72; cases h72)
        have e9 := f2 h57 (hw.trans h69)
        refine swp_region ?_
        refine s_pu (pu_move rfl) ?_
        first | refine s_pu (pu_nilCheck rfl) ?_ | refine s_pu (pu_nilCheck_fn rfl) ?_ | refine s_pu (pu_nilCheck_if rfl) ?_
        first | refine s_pu (pu_fieldAddr0 rfl) ?_ | refine s_pu (pu_fieldAddr rfl) ?_
        refine s_rd (rd_load rfl rfl) ?_
        refine s_pu (pu_sub_as ((frP (addP s c v) : Nat) : Int) rfl rfl (by omega) (by omega) (by omega)) ?_
        first | refine s_pu (pu_nilCheck rfl) ?_ | refine s_pu (pu_nilCheck_fn rfl) ?_ | refine s_pu (pu_nilCheck_if rfl) ?_
        first | refine s_pu (pu_fieldAddr0 rfl) ?_ | refine s_pu (pu_fieldAddr rfl) ?_
        refine s_ef0 (ef_store rfl rfl rfl) ?_
        refine swl_sub _ .nil ?_
        refine swl_nil ?_
        exact done_end [mpe mb ikv (upd l k (c : Int) (.int .i64 ((s.1 c ||| v : Nat) : Int))) _, ptB p sv n mb q (frP (addP s c v)), Bq.cq q (addP s c v).2 (seenP n (addP s c v).1)] .nil ⟨_, rfl, rfl⟩ (by repeat (first | exact Split.nil | (apply Split.cons; (repeat (first | with_reducible exact Take.here | apply Take.there)))))
      · skip   -- 69 F
        refine s_off rfl rfl rfl ?_
        refine s_off rfl rfl rfl ?_
        first | refine s_pu (pu_pick_t rfl rfl) ?_ | refine s_pu (pu_pick_f rfl rfl) ?_
        refine swl_sub _ (.cons (t := 0) rfl (.cons (t := 72) rfl .nil)) ?_
        refine swl_nil ?_
        refine then_n ?_
        refine swp_cond (b := _) rfl (fun h72 => by cases h72) (fun h72 => ?_)
        refine swp_skip ?_
        rw [← f3 (h57.trans (hw.trans h69).symm)]
        exact done_end [mpe mb ikv (upd l k (c : Int) (.int .i64 ((s.1 c ||| v : Nat) : Int))) _, ptB p sv n mb q (frP (addP s c v)), Bq.cq q (addP s c v).2 (seenP n (addP s c v).1)] .nil ⟨_, rfl, rfl⟩ (by repeat (first | exact Split.nil | (apply Split.cons; (repeat (first | with_reducible exact Take.here | apply Take.there)))))
end SX
namespace SX
open Go Go.Proofs

/-- the bases of two sides -/
def sidesB (g : List (List Int)) (l r : List Int) : List Int := elsTo g.length (bestT g (bothS g l r) g.length)
abbrev stS (l r : List Int) : PS := addRow 2 (addRow 1 (fun _ => 0, []) l) r
theorem putS_f {n c : Nat} (hc : c < n) (D : Nat → Bool) : putS n D (c : Int) = fun j => D j || decide (j = c) := by
  funext j
  unfold putS
  rw [Int.toNat_natCast, decide_eq_true (show (0 : Int) ≤ (c : Int) ∧ (c : Int) < n by omega), Bool.true_and]
set_option maxHeartbeats 4000000 in
theorem pbest_spec (X : Src) (s0 : X.σ) (μ : PH) (p mb q : Nat) (l r : List Int) (hT : RowAt μ 0 0 tabV) (h0 : Le X.μ0 μ) (hf : X.fine s0) (hl : ∀ p ∈ l, 0 ≤ p ∧ p < X.g.length) (hr : ∀ p ∈ r, 0 ≤ p ∧ p < X.g.length) :
    Spec Tryd.prog 71 [.pointer (some ⟨p, 0, none⟩)] [ptB p X.sv X.n mb q (frP (stS l r)), mpP mb (stS l r).1, Bq.cq q (stS l r).2 (seenP X.n (stS l r).1), X.A s0 μ, ro μ]
      (fun v L => ∃ zs μ', askedIn X.n zs ∧ Le μ μ' ∧ L = [own 3 1 v (sidesB X.g l r).length ((sidesB X.g l r).flatMap (icsk .i64)), X.A (zs.foldl X.step s0) μ', ro μ']) := by
  have hn := X.hn
  have hXn : X.n = X.g.length := rfl
  have hw0 : PW X.g l r X.g.length (stS l r) (fun _ => false) := PW.start hl hr
  generalize stS l r = st0 at *
  refine Spec.of 85 Tryd.func71 rfl rfl rfl ?_
  refine swp_seq ?_
  refine swp_region ?_
  refine s_pu (pu_assign rfl) ?_
  refine swl_sub _ (.cons (t := 0) rfl .nil) ?_
  refine swl_nil ?_
  refine then_n ?_
  refine swp_seq ?_
  refine swp_region ?_
  refine s_pu (pu_move rfl) ?_
  first | refine s_pu (pu_nilCheck rfl) ?_ | refine s_pu (pu_nilCheck_fn rfl) ?_ | refine s_pu (pu_nilCheck_if rfl) ?_
  first | refine s_pu (pu_fieldAddr0 rfl) ?_ | refine s_pu (pu_fieldAddr rfl) ?_
  refine s_rd (rd_load rfl rfl) ?_
  refine s_ef (ef_fn (new_m (X.n : Nat)) rfl rfl (by repeat (first | exact Split.nil | (apply Split.cons; (repeat (first | with_reducible exact Take.here | apply Take.there)))))) ?_
  rintro v15 L1 ⟨p3, rfl, rfl⟩
  refine swl_app ?_
  refine s_pu (pu_assign rfl) ?_
  refine swl_sub _ (.cons (t := 0) rfl (.cons (t := 3) rfl .nil)) ?_
  refine swl_nil ?_
  refine then_n ?_
  refine swp_seq ?_
  refine swp_region ?_
  refine s_pu (pu_move rfl) ?_
  first | refine s_pu (pu_nilCheck rfl) ?_ | refine s_pu (pu_nilCheck_fn rfl) ?_ | refine s_pu (pu_nilCheck_if rfl) ?_
  first | refine s_pu (pu_fieldAddr0 rfl) ?_ | refine s_pu (pu_fieldAddr rfl) ?_
  refine s_rd (rd_load rfl rfl) ?_
  refine s_ef (ef_fn (new_m (X.n : Nat)) rfl rfl (by repeat (first | exact Split.nil | (apply Split.cons; (repeat (first | with_reducible exact Take.here | apply Take.there)))))) ?_
  rintro v20 L1 ⟨p4, rfl, rfl⟩
  refine swl_app ?_
  refine s_pu (pu_assign rfl) ?_
  refine swl_sub _ (.cons (t := 0) rfl (.cons (t := 3) rfl (.cons (t := 4) rfl .nil))) ?_
  rw [clampM_id hn]
  refine swl_nil ?_
  refine then_n ?_
  refine swp_seq ?_
  refine swp_block ?_
  refine swp_sub _ (.cons (t := 0) rfl (.cons (t := 3) rfl (.cons (t := 4) rfl .nil))) ?_
  refine swp_ent (Split.ent' (K := [ptB p X.sv X.n mb q (frP st0), mpP mb st0.1, Bq.cq q st0.2 (seenP X.n st0.1), mset p3 X.n (fun _ => false), mset p4 X.n (fun _ => false), X.A s0 μ, ro μ]) (by repeat (first | exact Split.nil | (apply Split.cons; (repeat (first | with_reducible exact Take.here | apply Take.there)))))) ?_
  refine swp_loop (ι := Nat × PS × (Nat → Bool) × (Nat → Bool) × List Nat × PH) (fun k env L => Sub env [(0, .pointer (some ⟨p, 0, none⟩)), (3, .pointer (some ⟨p3, 0, none⟩)), (4, .pointer (some ⟨p4, 0, none⟩))]
    ∧ L = [ptB p X.sv X.n mb q (frP k.2.1), mpP mb k.2.1.1, Bq.cq q k.2.1.2 (seenP X.n k.2.1.1), mset p3 X.n k.2.2.1, mset p4 X.n k.2.2.2.1, X.A (k.2.2.2.2.1.foldl X.step s0) k.2.2.2.2.2, ro k.2.2.2.2.2]
    ∧ PW X.g l r k.1 k.2.1 k.2.2.1 ∧ (∀ j, j < k.1 → k.2.2.2.1 j = false) ∧ askedIn X.n k.2.2.2.2.1 ∧ (∀ y ∈ k.2.2.2.2.1, k.1 ≤ y) ∧ Le μ k.2.2.2.2.2) (fun k => k.1) (X.g.length, st0, fun _ => false, fun _ => false, [], μ) ⟨⟨rfl, rfl, rfl, trivial⟩, rfl, hw0, fun _ _ => rfl, ⟨List.nodup_nil, fun y hy => by cases hy⟩, fun y hy => (by cases hy), Le.refl _⟩ ?_
  rintro ⟨m, ⟨P, Q0⟩, F, D, ys, μ1⟩ env L ⟨hsub0, rfl, hW, hD, hask, hys, hle⟩
  dsimp only at hW hD hask hys hle ⊢
  refine swp_sub _ hsub0 ?_
  refine swp_seq ?_
  refine swp_seq ?_
  refine swp_region ?_
  refine s_pu (pu_move rfl) ?_
  first | refine s_pu (pu_nilCheck rfl) ?_ | refine s_pu (pu_nilCheck_fn rfl) ?_ | refine s_pu (pu_nilCheck_if rfl) ?_
  first | refine s_pu (pu_fieldAddr0 rfl) ?_ | refine s_pu (pu_fieldAddr rfl) ?_
  refine s_rd (rd_load rfl rfl) ?_
  refine s_pu (pu_gtr rfl rfl) ?_
  refine swl_sub _ (.cons (t := 0) rfl (.cons (t := 3) rfl (.cons (t := 4) rfl (.cons (t := 25) rfl .nil)))) ?_
  refine swl_nil ?_
  refine then_n ?_
  refine swp_cond (b := _) rfl (fun h25 => ?_) (fun h25 => ?_)
  · skip   -- 25 T
    have hpos : 0 < frP (P, Q0) := by have := of_decide_eq_true h25; omega
    obtain ⟨c, Q, hQ⟩ := frP_pos hpos
    dsimp only at hQ
    subst hQ
    obtain ⟨hI1, hPc, hcm, hW1⟩ := hW.step X.hg
    have hml := hW.le
    have hcn : c < X.g.length := by omega
    have hV : isV (P c) := hW.pi.val c
    have hql : (c :: Q).length ≤ m := falls_len hW.pi.falls hW.pi.lt
    have hpop := frP_pop (P := P) (c := c) (Q := Q)
    have hfb := frP_le hI1
    have hnw : newW X.n D (c : Int) = true := by
      unfold newW
      rw [Int.toNat_natCast, hD c hcm, decide_eq_true (show (0 : Int) ≤ c by omega), decide_eq_true (show (c : Int) < X.n by omega)]; rfl
    refine swp_skip ?_
    refine then_n ?_
    refine swp_block ?_
    refine swp_seq ?_
    refine swp_region ?_
    refine s_pu (pu_move rfl) ?_
    first | refine s_pu (pu_nilCheck rfl) ?_ | refine s_pu (pu_nilCheck_fn rfl) ?_ | refine s_pu (pu_nilCheck_if rfl) ?_
    first | refine s_pu (pu_fieldAddr0 rfl) ?_ | refine s_pu (pu_fieldAddr rfl) ?_
    refine s_rd (rd_load rfl rfl) ?_
    refine s_ef (ef_fn (Bq.pop_q q (seenP X.n P) c Q (by omega)) rfl rfl (by repeat (first | exact Split.nil | (apply Split.cons; (repeat (first | with_reducible exact Take.here | apply Take.there)))))) ?_
    rintro v31 L1 ⟨rfl, rfl⟩
    refine swl_app ?_
    refine s_pu (pu_move rfl) ?_
    first | refine s_pu (pu_extractL rfl) ?_ | refine s_pu (pu_extract rfl rfl) ?_
    first | refine s_pu (pu_extractL rfl) ?_ | refine s_pu (pu_extract rfl rfl) ?_
    refine s_pu (pu_assign rfl) ?_
    refine s_pu (pu_assign rfl) ?_
    refine swl_sub _ (.cons (t := 0) rfl (.cons (t := 3) rfl (.cons (t := 4) rfl (.cons (t := 5) rfl .nil)))) ?_
    refine swl_nil ?_
    refine then_n ?_
    refine swp_seq ?_
    refine swp_region ?_
    refine s_pu (pu_move rfl) ?_
    refine s_pu (pu_assign rfl) ?_
    refine swl_sub _ (.cons (t := 0) rfl (.cons (t := 3) rfl (.cons (t := 4) rfl (.cons (t := 7) rfl .nil)))) ?_
    refine swl_nil ?_
    refine then_n ?_
    refine swp_seq ?_
    refine swp_ent (Split.ent' (K := [mpP mb P, ptB p X.sv X.n mb q (frP (P, c :: Q)), Bq.cq q Q (seenP X.n P), mset p3 X.n F, mset p4 X.n D, X.A (ys.foldl X.step s0) μ1, ro μ1]) (by repeat (first | exact Split.nil | (apply Split.cons; (repeat (first | with_reducible exact Take.here | apply Take.there)))))) ?_
    refine swp_ex fun ⟨⟨ents, clk⟩, hents⟩ => ?_
    simp only [List.cons_append, List.nil_append]
    dsimp only at hents ⊢
    refine swp_region ?_
    refine s_pu (pu_move rfl) ?_
    first | refine s_pu (pu_nilCheck rfl) ?_ | refine s_pu (pu_nilCheck_fn rfl) ?_ | refine s_pu (pu_nilCheck_if rfl) ?_
    first | refine s_pu (pu_fieldAddr0 rfl) ?_ | refine s_pu (pu_fieldAddr rfl) ?_
    refine s_rd (rd_load rfl rfl) ?_
    refine s_pu (pu_move rfl) ?_
    refine s_rd (rd_pmap hents c rfl rfl) ?_
    refine s_pu (pu_assign rfl) ?_
    refine swl_sub _ (.cons (t := 0) rfl (.cons (t := 3) rfl (.cons (t := 4) rfl (.cons (t := 7) rfl (.cons (t := 8) rfl .nil))))) ?_
    refine swl_ent (mpP_close hents) ?_
    refine swl_nil ?_
    refine then_n ?_
    refine swp_seq ?_
    refine swp_seq ?_
    refine swp_region ?_
    refine s_pu (pu_move rfl) ?_
    refine s_pu (pu_move rfl) ?_
    refine s_ef (ef_fn (put_w p4 X.n D (c : Nat)) rfl rfl (by repeat (first | exact Split.nil | (apply Split.cons; (repeat (first | with_reducible exact Take.here | apply Take.there)))))) ?_
    rintro v43 L1 ⟨rfl, rfl⟩
    refine swl_app ?_
    rw [hnw, putS_f (show c < X.n from hcn)]
    refine s_pu (pu_not rfl) ?_
    refine swl_sub _ (.cons (t := 0) rfl (.cons (t := 3) rfl (.cons (t := 4) rfl (.cons (t := 7) rfl (.cons (t := 8) rfl (.cons (t := 44) rfl .nil)))))) ?_
    refine swl_nil ?_
    refine then_n ?_
    refine swp_cond (b := _) rfl (fun h44 => by cases h44) (fun h44 => ?_)
    refine swp_skip ?_
    refine then_n ?_
    refine swp_cut (fun env L => Sub env [(0, .pointer (some ⟨p, 0, none⟩)), (3, .pointer (some ⟨p3, 0, none⟩)), (4, .pointer (some ⟨p4, 0, none⟩)), (7, .int .i64 (c : Nat)), (8, .int .i64 (pOut (P c) : Nat))] ∧ Ent L [ptB p X.sv X.n mb q (frP (P, Q)), mpP mb P, Bq.cq q Q (seenP X.n P), mset p3 X.n (fun k => F k || (decide (P c = 3) && decide (k = c))), mset p4 X.n (fun j => D j || decide (j = c)), X.A (ys.foldl X.step s0) μ1, ro μ1]) ?_ ?_
    · skip
      refine swp_seq ?_
      refine swp_region ?_
      refine s_pu (pu_move rfl) ?_
      refine s_pu (pu_and_v 4 hV (by decide) rfl rfl) ?_
      refine s_pu (pu_four hV rfl rfl) ?_
      refine swl_sub _ (.cons (t := 0) rfl (.cons (t := 3) rfl (.cons (t := 4) rfl (.cons (t := 7) rfl (.cons (t := 8) rfl (.cons (t := 47) rfl .nil)))))) ?_
      refine swl_nil ?_
      refine then_n ?_
      refine swp_cond (b := _) rfl (fun h47 => ?_) (fun h47 => ?_)
      · skip   -- 47 T
        have h47' : P c < 4 := of_decide_eq_true h47
        rw [if_pos h47'] at hpop
        refine swp_seq ?_
        refine swp_region ?_
        refine s_pu (pu_move rfl) ?_
        first | refine s_pu (pu_nilCheck rfl) ?_ | refine s_pu (pu_nilCheck_fn rfl) ?_ | refine s_pu (pu_nilCheck_if rfl) ?_
        first | refine s_pu (pu_fieldAddr0 rfl) ?_ | refine s_pu (pu_fieldAddr rfl) ?_
        refine s_rd (rd_load rfl rfl) ?_
        refine s_pu (pu_sub_as ((frP (P, Q) : Nat) : Int) rfl rfl (by omega) (by omega) (by omega)) ?_
        first | refine s_pu (pu_nilCheck rfl) ?_ | refine s_pu (pu_nilCheck_fn rfl) ?_ | refine s_pu (pu_nilCheck_if rfl) ?_
        first | refine s_pu (pu_fieldAddr0 rfl) ?_ | refine s_pu (pu_fieldAddr rfl) ?_
        refine s_ef0 (ef_store rfl rfl rfl) ?_
        refine swl_sub _ (.cons (t := 0) rfl (.cons (t := 3) rfl (.cons (t := 4) rfl (.cons (t := 7) rfl (.cons (t := 8) rfl .nil))))) ?_
        refine swl_nil ?_
        refine then_n ?_
        refine swp_seq ?_
        refine swp_region ?_
        refine s_pu (pu_move rfl) ?_
        refine s_pu (pu_and_v 3 hV (by decide) rfl rfl) ?_
        refine s_pu (pu_three hV h47' rfl rfl) ?_
        refine swl_sub _ (.cons (t := 0) rfl (.cons (t := 3) rfl (.cons (t := 4) rfl (.cons (t := 7) rfl (.cons (t := 8) rfl (.cons (t := 57) rfl .nil)))))) ?_
        refine swl_nil ?_
        refine then_n ?_
        refine swp_cond (b := _) rfl (fun h57 => ?_) (fun h57 => ?_)
        · skip   -- 57 T
          have h57' : P c = 3 := of_decide_eq_true h57
          refine swp_seq ?_
          refine swp_region ?_
          refine s_pu (pu_move rfl) ?_
          refine s_pu (pu_move rfl) ?_
          refine s_ef (ef_fn (put_w p3 X.n F (c : Nat)) rfl rfl (by repeat (first | exact Split.nil | (apply Split.cons; (repeat (first | with_reducible exact Take.here | apply Take.there)))))) ?_
          rintro v60 L1 ⟨rfl, rfl⟩
          refine swl_app ?_
          refine swl_sub _ (.cons (t := 0) rfl (.cons (t := 3) rfl (.cons (t := 4) rfl (.cons (t := 7) rfl (.cons (t := 8) rfl .nil))))) ?_
          refine swl_nil ?_
          refine then_n ?_
          refine swp_region ?_
          refine s_pu (pu_move rfl) ?_
          refine s_pu (pu_or_v hV (by decide) rfl rfl) ?_
          refine s_pu (pu_assign rfl) ?_
          refine swl_sub _ (.cons (t := 0) rfl (.cons (t := 3) rfl (.cons (t := 4) rfl (.cons (t := 7) rfl (.cons (t := 8) rfl .nil))))) ?_
          refine swl_nil ?_
          refine then_n ⟨⟨rfl, rfl, rfl, rfl, by rw [h57']; rfl, trivial⟩, ?_⟩
          rw [putS_f (show c < X.n from hcn), show (fun k => F k || (decide (P c = 3) && decide (k = c))) = fun k => F k || decide (k = c) by rw [h57']; rfl]
          exact Split.ent' (by repeat (first | exact Split.nil | (apply Split.cons; (repeat (first | with_reducible exact Take.here | apply Take.there)))))
        · skip   -- 57 F
          have h57' : ¬ P c = 3 := of_decide_eq_false h57
          refine swp_skip ?_
          refine then_n ⟨⟨rfl, rfl, rfl, rfl, by unfold pOut; rw [if_neg h57']; rfl, trivial⟩, ?_⟩
          rw [show (fun k => F k || (decide (P c = 3) && decide (k = c))) = F by funext k; rw [decide_eq_false h57']; simp]
          exact Split.ent' (by repeat (first | exact Split.nil | (apply Split.cons; (repeat (first | with_reducible exact Take.here | apply Take.there)))))
      · skip   -- 47 F
        have h47' : ¬ P c < 4 := of_decide_eq_false h47
        rw [if_neg h47', Nat.add_zero] at hpop
        have h57' : ¬ P c = 3 := by omega
        refine swp_skip ?_
        refine then_n ⟨⟨rfl, rfl, rfl, rfl, by unfold pOut; rw [if_neg h57']; rfl, trivial⟩, ?_⟩
        rw [hpop, show (fun k => F k || (decide (P c = 3) && decide (k = c))) = F by funext k; rw [decide_eq_false h57']; simp]
        exact Split.ent' (by repeat (first | exact Split.nil | (apply Split.cons; (repeat (first | with_reducible exact Take.here | apply Take.there)))))
    rintro env L ⟨hsub, hL8⟩
    refine swp_sub _ hsub ?_
    refine swp_ent hL8 ?_
    have hcy : c ∉ ys := fun h => by have := hys c h; omega
    have hvo : isV (pOut (P c)) := hV.out
    have hvn := pOut_ne hPc
    generalize hv : pOut (P c) = v at *
    generalize hF' : (fun k => F k || (decide (P c = 3) && decide (k = c))) = F' at *
    have hD' : ∀ j, j < c → (fun j => D j || decide (j = c)) j = false := fun j hj => by
      show (D j || decide (j = c)) = false
      rw [hD j (by omega), decide_eq_false (by omega)]; rfl
    generalize (fun j => D j || decide (j = c)) = D' at *
    refine swp_seq ?_
    refine swp_region ?_
    refine s_pu (pu_move rfl) ?_
    first | refine s_pu (pu_nilCheck rfl) ?_ | refine s_pu (pu_nilCheck_fn rfl) ?_ | refine s_pu (pu_nilCheck_if rfl) ?_
    first | refine s_pu (pu_fieldAddr0 rfl) ?_ | refine s_pu (pu_fieldAddr rfl) ?_
    refine s_rd (rd_load rfl rfl) ?_
    refine s_pu (pu_move rfl) ?_
    refine s_ef (ef_invS rfl X.hd (X.parents (ys.foldl X.step s0) μ1 c (h0.trans hle) hcn (hf ys c hask.1 hcy (fun y hy => hask.2 y hy) hcn)) rfl (by repeat (first | exact Split.nil | (apply Split.cons; (repeat (first | with_reducible exact Take.here | apply Take.there)))))) ?_
    rintro v68 L1 ⟨μ3, hμ3, hrw, rfl⟩
    refine swl_app ?_
    refine s_pu (pu_len_row hrw rfl) ?_
    refine s_pu (pu_move rfl) ?_
    refine swl_sub _ (.cons (t := 0) rfl (.cons (t := 3) rfl (.cons (t := 4) rfl (.cons (t := 8) rfl (.cons (t := 68) rfl (.cons (t := 69) rfl (.cons (t := 70) rfl .nil))))))) ?_
    refine swl_nil ?_
    refine then_n ?_
    refine swp_block ?_
    refine swp_sub _ (.cons (t := 0) rfl (.cons (t := 3) rfl (.cons (t := 4) rfl (.cons (t := 8) rfl (.cons (t := 68) rfl (.cons (t := 69) rfl (.cons (t := 70) rfl .nil))))))) ?_
    refine swp_ent (Split.ent' (K := [ptB p X.sv X.n mb q (frP (P, Q)), mpP mb P, Bq.cq q Q (seenP X.n P), mset p3 X.n F', mset p4 X.n D', X.A (X.step (ys.foldl X.step s0) c) μ3, ro μ3]) (by repeat (first | exact Split.nil | (apply Split.cons; (repeat (first | with_reducible exact Take.here | apply Take.there)))))) ?_
    refine swp_loop (ι := Nat) (fun i env L => env = [(0, .pointer (some ⟨p, 0, none⟩)), (3, .pointer (some ⟨p3, 0, none⟩)), (4, .pointer (some ⟨p4, 0, none⟩)), (8, .int .i64 (v : Nat)), (68, v68), (69, .int .i64 ((rowOf X.g c).length : Nat)), (70, .int .i64 (i : Nat))]
      ∧ L = [ptB p X.sv X.n mb q (frP (addRow v (P, Q) ((rowOf X.g c).take i))), mpP mb (addRow v (P, Q) ((rowOf X.g c).take i)).1, Bq.cq q (addRow v (P, Q) ((rowOf X.g c).take i)).2 (seenP X.n (addRow v (P, Q) ((rowOf X.g c).take i)).1), mset p3 X.n F', mset p4 X.n D', X.A (X.step (ys.foldl X.step s0) c) μ3, ro μ3] ∧ i ≤ (rowOf X.g c).length) (fun i => (rowOf X.g c).length - i) 0 ⟨rfl, rfl, Nat.zero_le _⟩ ?_
    rintro i env L ⟨rfl, rfl, hi⟩
    refine swp_seq ?_
    have hrs := hrw.small
    have hrg : ∀ u ∈ rowOf X.g c, 0 ≤ u ∧ u < c := fun u hu => ⟨(row_good X.hg hu).1, (row_good X.hg hu).2.1⟩
    refine swp_region ?_
    refine s_pu (pu_lss rfl rfl) ?_
    refine swl_sub _ (.cons (t := 0) rfl (.cons (t := 3) rfl (.cons (t := 4) rfl (.cons (t := 8) rfl (.cons (t := 68) rfl (.cons (t := 69) rfl (.cons (t := 70) rfl (.cons (t := 71) rfl .nil)))))))) ?_
    refine swl_nil ?_
    refine then_n ?_
    refine swp_seq ?_
    refine swp_cond (b := _) rfl (fun h71 => ?_) (fun h71 => ?_)
    · skip   -- 71 T
      have h71' : i < (rowOf X.g c).length := by have := of_decide_eq_true h71; omega
      obtain ⟨u, hu⟩ : ∃ u, (rowOf X.g c)[i]? = some u := ⟨_, List.getElem?_eq_getElem h71'⟩
      obtain ⟨pb, po, pc, hpv, hpc⟩ := hrw.at_ hu
      have hur := hrg u (List.mem_of_getElem? hu)
      obtain ⟨u, rfl⟩ : ∃ k : Nat, u = k := ⟨u.toNat, by omega⟩
      have hsu := addRow_succ (v := v) (s := (P, Q)) hu
      rw [Int.toNat_natCast] at hsu
      obtain ⟨hIi, _⟩ := PI.addRow (v := v) (show c ≤ X.g.length by omega) hvo hvn hI1 (l := (rowOf X.g c).take i) (fun w hw => hrg w (List.mem_of_mem_take hw))
      have hDu := hD' u (by omega)
      generalize addRow v (P, Q) ((rowOf X.g c).take i) = si at *
      refine swp_skip ?_
      refine then_n ?_
      refine swp_seq ?_
      refine swp_block ?_
      refine swp_seq ?_
      refine swp_region ?_
      refine s_pu (pu_indexAddr (po + i * 1) (congrArg some hpv) rfl (by omega) (by omega) (by rw [Int.toNat_natCast])) ?_
      refine s_rd (rd_ro rfl hpc) ?_
      refine s_pu (pu_assign rfl) ?_
      refine swl_sub _ (.cons (t := 0) rfl (.cons (t := 3) rfl (.cons (t := 4) rfl (.cons (t := 8) rfl (.cons (t := 10) rfl (.cons (t := 68) rfl (.cons (t := 69) rfl (.cons (t := 70) rfl .nil)))))))) ?_
      refine swl_nil ?_
      refine then_n ?_
      refine swp_seq ?_
      refine swp_region ?_
      refine s_pu (pu_move rfl) ?_
      refine s_pu (pu_move rfl) ?_
      refine s_ef (ef_fn (has_w p4 X.n D' u) rfl rfl (by repeat (first | exact Split.nil | (apply Split.cons; (repeat (first | with_reducible exact Take.here | apply Take.there)))))) ?_
      rintro v76 L1 ⟨rfl, rfl⟩
      refine swl_app ?_
      rw [hDu]
      refine s_pu (pu_not rfl) ?_
      refine swl_sub _ (.cons (t := 0) rfl (.cons (t := 3) rfl (.cons (t := 4) rfl (.cons (t := 8) rfl (.cons (t := 10) rfl (.cons (t := 68) rfl (.cons (t := 69) rfl (.cons (t := 70) rfl (.cons (t := 77) rfl .nil))))))))) ?_
      refine swl_nil ?_
      refine then_n ?_
      refine swp_cond (b := _) rfl (fun h77 => ?_) (fun h77 => by cases h77)
      refine swp_region ?_
      refine s_pu (pu_move rfl) ?_
      refine s_pu (pu_move rfl) ?_
      refine s_pu (pu_move rfl) ?_
      refine s_ef (ef_fn (padd_spec p X.n c mb q X.sv si u v hn hIi (by omega) (by omega) hvo hvn) rfl rfl (by repeat (first | exact Split.nil | (apply Split.cons; (repeat (first | with_reducible exact Take.here | apply Take.there)))))) ?_
      rintro v81 L1 ⟨rfl, rfl⟩
      refine swl_app ?_
      refine swl_sub _ (.cons (t := 0) rfl (.cons (t := 3) rfl (.cons (t := 4) rfl (.cons (t := 8) rfl (.cons (t := 68) rfl (.cons (t := 69) rfl (.cons (t := 70) rfl .nil))))))) ?_
      refine swl_nil ?_
      refine block_n ?_
      refine then_n ?_
      refine swp_region ?_
      refine s_pu (pu_add_as ((i + 1 : Nat) : Int) rfl rfl (by omega) (by omega) (by omega)) ?_
      refine s_pu (pu_move rfl) ?_
      refine swl_sub _ (.cons (t := 0) rfl (.cons (t := 3) rfl (.cons (t := 4) rfl (.cons (t := 8) rfl (.cons (t := 68) rfl (.cons (t := 69) rfl (.cons (t := 70) rfl .nil))))))) ?_
      refine swl_ent (Split.ent' (K := [ptB p X.sv X.n mb q (frP (addP si u v)), mpP mb (addP si u v).1, Bq.cq q (addP si u v).2 (seenP X.n (addP si u v).1), mset p3 X.n F', mset p4 X.n D', X.A (X.step (ys.foldl X.step s0) c) μ3, ro μ3]) (by repeat (first | exact Split.nil | (apply Split.cons; (repeat (first | with_reducible exact Take.here | apply Take.there)))))) ?_
      refine swl_nil ?_
      exact then_n ⟨i + 1, ⟨rfl, by rw [hsu], h71'⟩, by omega⟩
    · skip   -- 71 F
      have h71' := of_decide_eq_false h71
      obtain rfl : i = (rowOf X.g c).length := by omega
      rw [List.take_length]
      refine swp_exit ?_
      refine then_x ?_
      refine then_x ?_
      refine block_hit rfl ?_
      refine block_n ?_
      refine then_n ⟨(c, addRow v (P, Q) (rowOf X.g c), F', D', ys ++ [c], μ3), ⟨⟨rfl, rfl, rfl, trivial⟩, ?_, hW1, hD', ⟨?_, ?_⟩, ?_, hle.trans hμ3⟩, hcm⟩
      · rw [List.foldl_append]; rfl
      · rw [List.nodup_append]
        exact ⟨hask.1, by simp, fun a ha b hb e => by obtain rfl := List.mem_singleton.1 hb; subst e; exact hcy ha⟩
      · intro y hy
        rcases List.mem_append.1 hy with hy | hy
        · exact hask.2 y hy
        · obtain rfl := List.mem_singleton.1 hy; exact hcn
      · intro y hy
        rcases List.mem_append.1 hy with hy | hy
        · have := hys y hy; show c ≤ y; omega
        · obtain rfl := List.mem_singleton.1 hy; exact Nat.le_refl _
  · skip   -- 25 F
    have hz : frP (P, Q0) = 0 := by have := of_decide_eq_false h25; omega
    have hFe : F = bestT X.g (bothS X.g l r) X.g.length := funext (hW.done X.hg hz)
    subst hFe
    refine swp_exit ?_
    refine then_x ?_
    refine then_x ?_
    refine block_hit rfl ?_
    refine then_n ?_
    refine swp_seq ?_
    refine swp_region ?_
    refine s_pu (pu_move rfl) ?_
    refine s_ef (ef_fn (list_m μ1 p3 X.n (bestT X.g (bothS X.g l r) X.g.length) (hT.le hle)) rfl rfl (by repeat (first | exact Split.nil | (apply Split.cons; (repeat (first | with_reducible exact Take.here | apply Take.there)))))) ?_
    rintro v84 L1 rfl
    refine swl_app ?_
    rw [show elsTo X.n (bestT X.g (bothS X.g l r) X.g.length) = sidesB X.g l r from rfl]
    refine s_pu (pu_assign rfl) ?_
    refine swl_sub _ (.cons (t := 2) rfl .nil) ?_
    refine swl_nil ?_
    refine then_n ?_
    refine swp_ret ?_
    exact done_ret [own 3 1 v84 (sidesB X.g l r).length ((sidesB X.g l r).flatMap (icsk .i64)), X.A (ys.foldl X.step s0) μ1, ro μ1] (.tmp rfl .nil) ⟨ys, μ1, hask, hle, rfl⟩ (by repeat (first | exact Split.nil | (apply Split.cons; (repeat (first | with_reducible exact Take.here | apply Take.there)))))
end SX
namespace SX
open Go Go.Proofs

theorem bcommits_spec (X : Src) (s : X.σ) (μ : PH) : Spec Tryd.prog 68 [X.sv] [X.A s μ] (fun r L => r = .int .i64 (X.n : Nat) ∧ L = [X.A s μ]) := by
  have hn := X.hn
  refine Spec.of 7 Tryd.func68 rfl rfl rfl ?_
  refine swp_seq ?_
  refine swp_region ?_
  refine s_pu (pu_assign rfl) ?_
  refine swl_sub _ (.cons (t := 0) rfl .nil) ?_
  refine swl_nil ?_
  refine then_n ?_
  refine swp_seq ?_
  refine swp_region ?_
  refine s_pu (pu_move rfl) ?_
  refine s_ef (ef_invS rfl X.hd (X.commits s μ) rfl (by repeat (first | exact Split.nil | (apply Split.cons; (repeat (first | with_reducible exact Take.here | apply Take.there)))))) ?_
  rintro v4 L1 ⟨rfl, rfl⟩
  refine swl_app ?_
  refine s_pu (pu_max2 rfl rfl) ?_
  refine s_pu (pu_min2 rfl rfl) ?_
  refine s_pu (pu_assign rfl) ?_
  refine swl_sub _ (.cons (t := 2) rfl .nil) ?_
  refine swl_nil ?_
  refine then_n ?_
  refine swp_ret ?_
  exact done_ret [X.A s μ] (.tmp rfl .nil) ⟨by show Value.int .i64 _ = _; rw [show min (max (X.g.length : Int) 0) 65536 = (X.g.length : Int) by omega], rfl⟩ (by repeat (first | exact Split.nil | (apply Split.cons; (repeat (first | with_reducible exact Take.here | apply Take.there)))))
set_option maxHeartbeats 1000000 in
theorem basked_spec (X : Src) (s : X.σ) (μ : PH) (lv : Value) (G : List (Value × List Int)) (hG : Graph μ lv G) : Spec Tryd.prog 61 [X.sv, lv] [X.A s μ, ro μ] (fun r L => r = .int .i64 (askedE X.n (nums G)) ∧ L = [X.A s μ, ro μ]) := by
  have hsm := hG.1.small
  refine Spec.of 33 Tryd.func61 rfl rfl rfl ?_
  refine swp_seq ?_
  refine swp_region ?_
  refine s_pu (pu_assign rfl) ?_
  refine swl_sub _ (.cons (t := 0) rfl (.cons (t := 1) rfl .nil)) ?_
  refine swl_nil ?_
  refine then_n ?_
  refine swp_seq ?_
  refine swp_seq ?_
  refine swp_region ?_
  refine s_pu (pu_move rfl) ?_
  refine s_pu (pu_if_eq_nil rfl rfl) ?_
  refine swl_sub _ (.cons (t := 0) rfl (.cons (t := 1) rfl (.cons (t := 10) rfl .nil))) ?_
  refine swl_nil ?_
  refine then_n ?_
  refine swp_cond (b := _) rfl (fun h10 => by cases h10) (fun h10 => ?_)
  refine swp_skip ?_
  refine then_n ?_
  refine swp_seq ?_
  refine swp_seq ?_
  refine swp_region ?_
  refine s_pu (pu_move rfl) ?_
  refine s_pu (pu_len_row hG.1 rfl) ?_
  refine s_pu (pu_move rfl) ?_
  refine swl_sub _ (.cons (t := 0) rfl (.cons (t := 11) rfl (.cons (t := 12) rfl (.cons (t := 13) rfl .nil)))) ?_
  refine swl_nil ?_
  refine then_n ?_
  refine swp_block ?_
  refine swp_loop (ι := Nat) (fun i env L => env = [(0, X.sv), (11, lv), (12, .int .i64 (G.length : Nat)), (13, .int .i64 (i : Nat))] ∧ L = [X.A s μ, ro μ] ∧ i ≤ G.length ∧ ((nums G).take i).all (fun l => l.all (inR X.n)) = true) (fun i => G.length - i) 0 ⟨rfl, rfl, Nat.zero_le _, rfl⟩ ?_
  rintro i env L ⟨rfl, rfl, hi, hall⟩
  refine swp_seq ?_
  refine swp_region ?_
  refine s_pu (pu_lss rfl rfl) ?_
  refine swl_sub _ (.cons (t := 0) rfl (.cons (t := 11) rfl (.cons (t := 12) rfl (.cons (t := 13) rfl (.cons (t := 14) rfl .nil))))) ?_
  refine swl_nil ?_
  refine then_n ?_
  refine swp_seq ?_
  refine swp_cond (b := _) rfl (fun h14 => ?_) (fun h14 => ?_)
  · skip   -- 14 T
    have h14' : i < G.length := by have := of_decide_eq_true h14; omega
    obtain ⟨gb, off, cap, x, hv, hx, hxc, hxr, hnx⟩ := row_at hG h14'
    have hsx := hxr.small
    refine swp_skip ?_
    refine then_n ?_
    refine swp_seq ?_
    refine swp_block ?_
    refine swp_seq ?_
    refine swp_region ?_
    refine s_pu (pu_indexAddr (off + i * 1) (congrArg some hv) rfl (by omega) (by omega) (by rw [Int.toNat_natCast])) ?_
    refine s_rd (rd_ro rfl hxc) ?_
    refine s_pu (pu_assign rfl) ?_
    refine swl_sub _ (.cons (t := 0) rfl (.cons (t := 6) rfl (.cons (t := 11) rfl (.cons (t := 12) rfl (.cons (t := 13) rfl .nil))))) ?_
    refine swl_nil ?_
    refine then_n ?_
    refine swp_seq ?_
    refine swp_region ?_
    refine s_pu (pu_move rfl) ?_
    refine s_pu (pu_len_row hxr rfl) ?_
    refine s_pu (pu_move rfl) ?_
    refine swl_sub _ (.cons (t := 0) rfl (.cons (t := 11) rfl (.cons (t := 12) rfl (.cons (t := 13) rfl (.cons (t := 17) rfl (.cons (t := 18) rfl (.cons (t := 19) rfl .nil))))))) ?_
    refine swl_nil ?_
    refine then_n ?_
    refine swp_block ?_
    refine swp_loop (ι := Nat) (fun j env L => env = [(0, X.sv), (11, lv), (12, .int .i64 (G.length : Nat)), (13, .int .i64 (i : Nat)), (17, x.1), (18, .int .i64 (x.2.length : Nat)), (19, .int .i64 (j : Nat))] ∧ L = [X.A s μ, ro μ] ∧ j ≤ x.2.length ∧ (x.2.take j).all (inR X.n) = true) (fun j => x.2.length - j) 0 ⟨rfl, rfl, Nat.zero_le _, rfl⟩ ?_
    rintro j env L ⟨rfl, rfl, hj, hin⟩
    refine swp_seq ?_
    refine swp_region ?_
    refine s_pu (pu_lss rfl rfl) ?_
    refine swl_sub _ (.cons (t := 0) rfl (.cons (t := 11) rfl (.cons (t := 12) rfl (.cons (t := 13) rfl (.cons (t := 17) rfl (.cons (t := 18) rfl (.cons (t := 19) rfl (.cons (t := 20) rfl .nil)))))))) ?_
    refine swl_nil ?_
    refine then_n ?_
    refine swp_seq ?_
    refine swp_cond (b := _) rfl (fun h20 => ?_) (fun h20 => ?_)
    · skip   -- 20 T
      have h20' : j < x.2.length := by have := of_decide_eq_true h20; omega
      obtain ⟨c, hc⟩ : ∃ c, x.2[j]? = some c := ⟨_, List.getElem?_eq_getElem h20'⟩
      obtain ⟨pb, po, pc, hpv, hpc⟩ := hxr.at_ hc
      have hbad : inR X.n c = false → (nums G).all (fun l => l.all (inR X.n)) = false := fun h => by
        rw [List.all_eq_false]
        refine ⟨x.2, List.mem_of_getElem? hnx, ?_⟩
        rw [List.all_eq_true]
        intro h2
        rw [h2 c (List.mem_of_getElem? hc)] at h; cases h
      refine swp_skip ?_
      refine then_n ?_
      refine swp_seq ?_
      refine swp_block ?_
      refine swp_seq ?_
      refine swp_region ?_
      refine s_pu (pu_indexAddr (po + j * 1) (congrArg some hpv) rfl (by omega) (by omega) (by rw [Int.toNat_natCast])) ?_
      refine s_rd (rd_ro rfl hpc) ?_
      refine s_pu (pu_assign rfl) ?_
      refine swl_sub _ (.cons (t := 0) rfl (.cons (t := 8) rfl (.cons (t := 11) rfl (.cons (t := 12) rfl (.cons (t := 13) rfl (.cons (t := 17) rfl (.cons (t := 18) rfl (.cons (t := 19) rfl .nil)))))))) ?_
      refine swl_nil ?_
      refine then_n ?_
      refine swp_seq ?_
      refine swp_region ?_
      refine s_pu (pu_move rfl) ?_
      refine s_pu (pu_lss rfl rfl) ?_
      refine s_pu (pu_move rfl) ?_
      refine s_split 25 rfl (fun h25 => ?_) (fun h25 => ?_)
      · skip   -- 25 T
        refine s_off rfl rfl rfl ?_
        refine s_off rfl rfl rfl ?_
        refine s_off rfl rfl rfl ?_
        refine s_off rfl rfl rfl ?_
        first | refine s_pu (pu_pick_t rfl rfl) ?_ | refine s_pu (pu_pick_f rfl rfl) ?_
        refine swl_sub _ (.cons (t := 0) rfl (.cons (t := 11) rfl (.cons (t := 12) rfl (.cons (t := 13) rfl (.cons (t := 17) rfl (.cons (t := 18) rfl (.cons (t := 19) rfl (.cons (t := 30) rfl .nil)))))))) ?_
        refine swl_nil ?_
        refine then_n ?_
        refine swp_cond (b := _) rfl (fun h30 => ?_) (fun h30 => by cases h30)
        refine swp_seq ?_
        refine swp_region ?_
        refine s_pu (pu_assign rfl) ?_
        refine swl_sub _ (.cons (t := 4) rfl .nil) ?_
        refine swl_nil ?_
        refine then_n ?_
        refine swp_ret ?_
        refine block_r ?_
        refine then_r ?_
        refine then_r ?_
        refine block_r ?_
        refine block_r ?_
        refine then_r ?_
        refine then_r ?_
        refine block_r ?_
        refine then_r ?_
        have h25' := of_decide_eq_true h25
        refine done_ret [X.A s μ, ro μ] (.tmp rfl .nil) ⟨?_, rfl⟩ (by repeat (first | exact Split.nil | (apply Split.cons; (repeat (first | with_reducible exact Take.here | apply Take.there)))))
        unfold askedE
        rw [if_neg (by rw [hbad (by unfold inR; rw [decide_eq_false (by omega)]; rfl)]; exact Bool.false_ne_true)]; rfl
      · skip   -- 25 F
        refine s_on rfl rfl ?_
        refine s_pu (pu_move rfl) ?_
        refine s_on rfl rfl ?_
        refine s_pu (pu_move rfl) ?_
        refine s_on rfl rfl ?_
        refine s_ef (ef_fn (bcommits_spec X s μ) rfl rfl (by repeat (first | exact Split.nil | (apply Split.cons; (repeat (first | with_reducible exact Take.here | apply Take.there)))))) ?_
        rintro v28 L1 ⟨rfl, rfl⟩
        refine swl_app ?_
        refine s_on rfl rfl ?_
        refine s_pu (pu_geq rfl rfl) ?_
        first | refine s_pu (pu_pick_t rfl rfl) ?_ | refine s_pu (pu_pick_f rfl rfl) ?_
        refine swl_sub _ (.cons (t := 0) rfl (.cons (t := 11) rfl (.cons (t := 12) rfl (.cons (t := 13) rfl (.cons (t := 17) rfl (.cons (t := 18) rfl (.cons (t := 19) rfl (.cons (t := 30) rfl .nil)))))))) ?_
        refine swl_nil ?_
        refine then_n ?_
        refine swp_cond (b := _) rfl (fun h30 => ?_) (fun h30 => ?_)
        · skip   -- 30 T
          refine swp_seq ?_
          refine swp_region ?_
          refine s_pu (pu_assign rfl) ?_
          refine swl_sub _ (.cons (t := 4) rfl .nil) ?_
          refine swl_nil ?_
          refine then_n ?_
          refine swp_ret ?_
          refine block_r ?_
          refine then_r ?_
          refine then_r ?_
          refine block_r ?_
          refine block_r ?_
          refine then_r ?_
          refine then_r ?_
          refine block_r ?_
          refine then_r ?_
          have h30' := of_decide_eq_true h30
          refine done_ret [X.A s μ, ro μ] (.tmp rfl .nil) ⟨?_, rfl⟩ (by repeat (first | exact Split.nil | (apply Split.cons; (repeat (first | with_reducible exact Take.here | apply Take.there)))))
          unfold askedE
          rw [if_neg (by rw [hbad (by unfold inR; rw [decide_eq_false (p := c < (X.n : Int)) (by omega), Bool.and_false])]; exact Bool.false_ne_true)]; rfl
        · skip   -- 30 F
          refine swp_skip ?_
          refine block_n ?_
          refine then_n ?_
          refine swp_region ?_
          refine s_pu (pu_add_as ((j + 1 : Nat) : Int) rfl rfl (by omega) (by omega) (by omega)) ?_
          refine s_pu (pu_move rfl) ?_
          refine swl_sub _ (.cons (t := 0) rfl (.cons (t := 11) rfl (.cons (t := 12) rfl (.cons (t := 13) rfl (.cons (t := 17) rfl (.cons (t := 18) rfl (.cons (t := 19) rfl .nil))))))) ?_
          refine swl_nil ?_
          have h25' := of_decide_eq_false h25
          have h30' := of_decide_eq_false h30
          refine then_n ⟨j + 1, ⟨rfl, rfl, h20', ?_⟩, by omega⟩
          rw [List.take_add_one, hc, List.all_append, hin]
          show (true && ([c].all _)) = true
          simp only [List.all_cons, List.all_nil, Bool.and_true, Bool.true_and]
          unfold inR
          rw [decide_eq_true (show 0 ≤ c by omega), decide_eq_true (show c < (X.n : Int) by omega)]; rfl
    · skip   -- 20 F
      have h20' := of_decide_eq_false h20
      obtain rfl : j = x.2.length := by omega
      rw [List.take_length] at hin
      refine swp_exit ?_
      refine then_x ?_
      refine then_x ?_
      refine block_hit rfl ?_
      refine block_n ?_
      refine then_n ?_
      refine swp_region ?_
      refine s_pu (pu_add_as ((i + 1 : Nat) : Int) rfl rfl (by omega) (by omega) (by omega)) ?_
      refine s_pu (pu_move rfl) ?_
      refine swl_sub _ (.cons (t := 0) rfl (.cons (t := 11) rfl (.cons (t := 12) rfl (.cons (t := 13) rfl .nil)))) ?_
      refine swl_nil ?_
      refine then_n ⟨i + 1, ⟨rfl, rfl, h14', ?_⟩, by omega⟩
      rw [List.take_add_one, hnx, List.all_append, hall]
      show (true && ([x.2].all _)) = true
      simp only [List.all_cons, List.all_nil, Bool.and_true, Bool.true_and]
      exact hin
  · skip   -- 14 F
    have h14' := of_decide_eq_false h14
    obtain rfl : i = G.length := by omega
    refine swp_exit ?_
    refine then_x ?_
    refine then_x ?_
    refine block_hit rfl ?_
    refine then_n ?_
    refine swp_seq ?_
    refine swp_region ?_
    refine s_pu (pu_assign rfl) ?_
    refine swl_sub _ (.cons (t := 4) rfl .nil) ?_
    refine swl_nil ?_
    refine then_n ?_
    refine swp_ret ?_
    refine done_ret [X.A s μ, ro μ] (.tmp rfl .nil) ⟨?_, rfl⟩ (by repeat (first | exact Split.nil | (apply Split.cons; (repeat (first | with_reducible exact Take.here | apply Take.there)))))
    rw [List.take_of_length_le (by rw [List.length_map]; exact Nat.le_refl _)] at hall
    unfold askedE
    rw [if_pos hall]; rfl
/-- the bases of two sides, or why not -/
def sidesA (g : List (List Int)) (xs ys : List Int) : List Int := if onlyE g xs ys = 0 then sidesB g xs ys else []
set_option maxHeartbeats 4000000 in
theorem sides_spec (X : Src) (s0 : X.σ) (μ : PH) (v u : Value) (xs ys : List Int) (hT : RowAt μ 0 0 tabV) (hv : Row μ v 1 xs.length (xs.flatMap (icsk .i64))) (hu : Row μ u 1 ys.length (ys.flatMap (icsk .i64))) (h0 : Le X.μ0 μ) (hf : X.fine s0) :
    Spec Tryd.prog 37 [X.sv, v, u] [X.A s0 μ, ro μ] (fun r L => ∃ lv zs μ', askedIn X.n zs ∧ Le μ μ' ∧ r = .tuple #[lv, .int .i64 (onlyE X.g xs ys)] ∧ L = [own 3 1 lv (sidesA X.g xs ys).length ((sidesA X.g xs ys).flatMap (icsk .i64)), X.A (zs.foldl X.step s0) μ', ro μ']) := by
  have hn := X.hn
  have hXn : X.n = X.g.length := rfl
  have hvs := hv.small
  have hus := hu.small
  obtain ⟨A1, c1, rfl⟩ := hv.sl
  obtain ⟨A2, c2, rfl⟩ := hu.sl
  refine Spec.of 51 Tryd.func37 rfl rfl rfl ?_
  refine swp_seq ?_
  refine swp_region ?_
  refine s_pu (pu_assign rfl) ?_
  refine s_pu (pu_assign rfl) ?_
  refine swl_sub _ (.cons (t := 0) rfl (.cons (t := 1) rfl (.cons (t := 2) rfl .nil))) ?_
  refine swl_nil ?_
  refine then_n ?_
  refine swp_seq ?_
  refine swp_seq ?_
  refine swp_region ?_
  refine s_pu (pu_move rfl) ?_
  refine s_pu (pu_move rfl) ?_
  refine s_pu (pu_move rfl) ?_
  refine s_ef (ef_bldS (qs := [(0, _), (1, _)]) rfl rfl rfl) ?_
  intro b17
  refine swl_share (b := b17) (μ := μ) (by repeat (first | exact Split.nil | (apply Split.cons; (repeat (first | with_reducible exact Take.here | apply Take.there))))) fun μ1 h1 k1 => ?_
  refine swl_ent (X.up (s := s0) h1 (by repeat (first | exact Split.nil | (apply Split.cons; (repeat (first | with_reducible exact Take.here | apply Take.there)))))) ?_
  have hG : Graph μ1 (.slice (some ⟨b17, 0, none⟩) 2 2) [(.slice A1 xs.length c1, xs), (.slice A2 ys.length c2, ys)] := ⟨row_of_blk k1 (by rfl) (by decide), fun x hx => by
    rcases List.mem_cons.1 hx with rfl | hx
    · exact hv.le h1
    · obtain rfl := List.mem_singleton.1 hx; exact hu.le h1⟩
  refine s_ef (ef_fn (basked_spec X s0 μ1 _ _ hG) rfl rfl (by repeat (first | exact Split.nil | (apply Split.cons; (repeat (first | with_reducible exact Take.here | apply Take.there)))))) ?_
  rintro v18 L1 ⟨rfl, rfl⟩
  refine swl_app ?_
  rw [show askedE X.n (nums [(Value.slice A1 xs.length c1, xs), (Value.slice A2 ys.length c2, ys)]) = onlyE X.g xs ys from rfl]
  refine s_pu (pu_assign rfl) ?_
  refine swl_sub _ (.cons (t := 0) rfl (.cons (t := 1) rfl (.cons (t := 2) rfl (.cons (t := 8) rfl .nil)))) ?_
  refine swl_nil ?_
  refine then_n ?_
  refine swp_seq ?_
  refine swp_region ?_
  refine s_pu (pu_move rfl) ?_
  refine s_pu (pu_neq rfl rfl) ?_
  refine swl_sub _ (.cons (t := 0) rfl (.cons (t := 1) rfl (.cons (t := 2) rfl (.cons (t := 8) rfl (.cons (t := 20) rfl .nil))))) ?_
  refine swl_nil ?_
  refine then_n ?_
  refine swp_cond (b := _) rfl (fun h20 => ?_) (fun h20 => ?_)
  · skip   -- 20 T
    have he : onlyE X.g xs ys ≠ 0 := by simpa using h20
    refine swp_seq ?_
    refine swp_region ?_
    refine s_pu (pu_move rfl) ?_
    refine s_pu (pu_assign rfl) ?_
    refine s_pu (pu_assign rfl) ?_
    refine swl_sub _ (.cons (t := 6) rfl (.cons (t := 7) rfl .nil)) ?_
    refine swl_nil ?_
    refine then_n ?_
    refine swp_ret ?_
    refine then_r ?_
    refine done_retE [own 3 1 (.slice none 0 0) (sidesA X.g xs ys).length ((sidesA X.g xs ys).flatMap (icsk .i64)), X.A s0 μ1, ro μ1] (.tmp rfl (.tmp rfl .nil)) ⟨_, [], μ1, ⟨List.nodup_nil, fun y hy => by cases hy⟩, h1, rfl, rfl⟩ ?_
    rw [sidesA, if_neg he]
    exact (Split.ent' (K := [X.A s0 μ1, ro μ1]) (by repeat (first | exact Split.nil | (apply Split.cons; (repeat (first | with_reducible exact Take.here | apply Take.there)))))).trans own_nil_ent
  · skip   -- 20 F
    have he : onlyE X.g xs ys = 0 := by simpa using h20
    have hx : ∀ p ∈ xs, 0 ≤ p ∧ p < X.g.length := askedE_in he (by simp)
    have hy : ∀ p ∈ ys, 0 ≤ p ∧ p < X.g.length := askedE_in he (by simp)
    refine swp_skip ?_
    refine then_n ?_
    refine swp_seq ?_
    refine swp_region ?_
    refine s_pu (pu_move rfl) ?_
    refine s_pu (pu_move rfl) ?_
    refine s_ef (ef_fn (bcommits_spec X s0 μ1) rfl rfl (by repeat (first | exact Split.nil | (apply Split.cons; (repeat (first | with_reducible exact Take.here | apply Take.there)))))) ?_
    rintro v24 L1 ⟨rfl, rfl⟩
    refine swl_app ?_
    refine s_ef (ef_makeMap (kv := ikv)) ?_
    intro b25
    refine s_ef (ef_fn Bq.new_q rfl rfl (by repeat (first | exact Split.nil | (apply Split.cons; (repeat (first | with_reducible exact Take.here | apply Take.there)))))) ?_
    rintro v26 L1 ⟨q, rfl, rfl⟩
    refine swl_app ?_
    refine s_pu (pu_bld (qs := [(0, _), (1, _), (2, _), (3, _)]) rfl) ?_
    refine s_ef (ef_box rfl rfl) ?_
    intro b28
    refine s_pu (pu_assign rfl) ?_
    refine swl_sub _ (.cons (t := 1) rfl (.cons (t := 2) rfl (.cons (t := 9) rfl .nil))) ?_
    refine swl_ent (Split.ent' (K := [mpe b25 ikv [] 0, blk b28 99 [X.sv, .int .i64 (X.n : Nat), .map (some b25), .pointer (some ⟨q, 0, none⟩), .int .i64 0], Bq.cq q [] 0, X.A s0 μ1, ro μ1]) (by repeat (first | exact Split.nil | (apply Split.cons; (repeat (first | with_reducible exact Take.here | apply Take.there)))))) ?_
    refine swl_ent (mpP_close pmap_nil) ?_
    have hs0 : seenP X.n (fun _ => 0) = 0 := by unfold seenP; exact seenN_none _
    refine swl_nil ?_
    refine then_n ?_
    refine swp_seq ?_
    refine swp_seq ?_
    refine swp_region ?_
    refine s_pu (pu_move rfl) ?_
    refine s_pu (pu_len rfl) ?_
    refine s_pu (pu_move rfl) ?_
    refine swl_sub _ (.cons (t := 2) rfl (.cons (t := 9) rfl (.cons (t := 29) rfl (.cons (t := 30) rfl (.cons (t := 31) rfl .nil))))) ?_
    refine swl_nil ?_
    refine then_n ?_
    refine swp_block ?_
    have key : ∀ i, PI X.n X.n (addRow 1 (fun _ => 0, []) (xs.take i)) := fun i => (PI.addRow (v := 1) (Nat.le_refl X.n) (by unfold isV; decide) (by decide) (PI.start X.n) (fun p hp => hx p (List.mem_of_mem_take hp))).1
    refine swp_ent (L' := [ptB b28 X.sv X.n b25 q (frP (addRow 1 (fun _ => 0, []) (xs.take 0))), mpP b25 (addRow 1 (fun _ => 0, []) (xs.take 0)).1, Bq.cq q (addRow 1 (fun _ => 0, []) (xs.take 0)).2 (seenP X.n (addRow 1 (fun _ => 0, []) (xs.take 0)).1), X.A s0 μ1, ro μ1]) (by
      show Ent _ [blk b28 99 [X.sv, .int .i64 (X.n : Nat), .map (some b25), .pointer (some ⟨q, 0, none⟩), .int .i64 0], mpP b25 (fun _ => 0), Bq.cq q [] (seenP X.n (fun _ => 0)), X.A s0 μ1, ro μ1]
      rw [hs0]; exact Split.ent' (by repeat (first | exact Split.nil | (apply Split.cons; (repeat (first | with_reducible exact Take.here | apply Take.there)))))) ?_
    refine swp_loop (ι := Nat) (fun i env L => env = [(2, .slice A2 ys.length c2), (9, .pointer (some ⟨b28, 0, none⟩)), (29, .slice A1 xs.length c1), (30, .int .i64 (xs.length : Nat)), (31, .int .i64 (i : Nat))]
      ∧ L = [ptB b28 X.sv X.n b25 q (frP (addRow 1 (fun _ => 0, []) (xs.take i))), mpP b25 (addRow 1 (fun _ => 0, []) (xs.take i)).1, Bq.cq q (addRow 1 (fun _ => 0, []) (xs.take i)).2 (seenP X.n (addRow 1 (fun _ => 0, []) (xs.take i)).1), X.A s0 μ1, ro μ1] ∧ i ≤ xs.length) (fun i => xs.length - i) 0 ⟨rfl, rfl, Nat.zero_le _⟩ ?_
    rintro i env L ⟨rfl, rfl, hi⟩
    refine swp_seq ?_
    refine swp_region ?_
    refine s_pu (pu_lss rfl rfl) ?_
    refine swl_sub _ (.cons (t := 2) rfl (.cons (t := 9) rfl (.cons (t := 29) rfl (.cons (t := 30) rfl (.cons (t := 31) rfl (.cons (t := 32) rfl .nil)))))) ?_
    refine swl_nil ?_
    refine then_n ?_
    refine swp_seq ?_
    refine swp_cond (b := _) rfl (fun h32 => ?_) (fun h32 => ?_)
    · skip   -- 32 T
      have h32' : i < xs.length := by have := of_decide_eq_true h32; omega
      obtain ⟨c, hc⟩ : ∃ c, xs[i]? = some c := ⟨_, List.getElem?_eq_getElem h32'⟩
      obtain ⟨pb, po, pc, hpv, hpc⟩ := (hv.le h1).at_ hc
      have hcr := hx c (List.mem_of_getElem? hc)
      obtain ⟨c, rfl⟩ : ∃ k : Nat, c = k := ⟨c.toNat, by omega⟩
      have hsu := addRow_succ (v := 1) (s := (fun _ => 0, [])) hc
      rw [Int.toNat_natCast] at hsu
      have hki := key i
      generalize addRow 1 (fun _ => 0, []) (xs.take i) = si at *
      refine swp_skip ?_
      refine then_n ?_
      refine swp_seq ?_
      refine swp_block ?_
      refine swp_seq ?_
      refine swp_region ?_
      refine s_pu (pu_indexAddr (po + i * 1) (congrArg some hpv) rfl (by omega) (by omega) (by rw [Int.toNat_natCast])) ?_
      refine s_rd (rd_ro rfl hpc) ?_
      refine s_pu (pu_assign rfl) ?_
      refine swl_sub _ (.cons (t := 2) rfl (.cons (t := 9) rfl (.cons (t := 11) rfl (.cons (t := 29) rfl (.cons (t := 30) rfl (.cons (t := 31) rfl .nil)))))) ?_
      refine swl_nil ?_
      refine then_n ?_
      refine swp_region ?_
      refine s_pu (pu_move rfl) ?_
      refine s_pu (pu_move rfl) ?_
      refine s_ef (ef_fn (padd_spec b28 X.n X.n b25 q X.sv si c 1 hn hki (Nat.le_refl _) (by omega) (by unfold isV; decide) (by decide)) rfl rfl (by repeat (first | exact Split.nil | (apply Split.cons; (repeat (first | with_reducible exact Take.here | apply Take.there)))))) ?_
      rintro v37 L1 ⟨rfl, rfl⟩
      refine swl_app ?_
      refine swl_sub _ (.cons (t := 2) rfl (.cons (t := 9) rfl (.cons (t := 29) rfl (.cons (t := 30) rfl (.cons (t := 31) rfl .nil))))) ?_
      refine swl_nil ?_
      refine block_n ?_
      refine then_n ?_
      refine swp_region ?_
      refine s_pu (pu_add_as ((i + 1 : Nat) : Int) rfl rfl (by omega) (by omega) (by omega)) ?_
      refine s_pu (pu_move rfl) ?_
      refine swl_sub _ (.cons (t := 2) rfl (.cons (t := 9) rfl (.cons (t := 29) rfl (.cons (t := 30) rfl (.cons (t := 31) rfl .nil))))) ?_
      refine swl_nil ?_
      exact then_n ⟨i + 1, ⟨rfl, by rw [hsu], h32'⟩, by omega⟩
    · skip   -- 32 F
      have h32' := of_decide_eq_false h32
      obtain rfl : i = xs.length := by omega
      have hk1 := key xs.length
      rw [List.take_length] at *
      refine swp_exit ?_
      refine then_x ?_
      refine then_x ?_
      refine block_hit rfl ?_
      refine then_n ?_
      refine swp_seq ?_
      refine swp_seq ?_
      refine swp_region ?_
      refine s_pu (pu_move rfl) ?_
      refine s_pu (pu_len_row hu rfl) ?_
      refine s_pu (pu_move rfl) ?_
      refine swl_sub _ (.cons (t := 9) rfl (.cons (t := 39) rfl (.cons (t := 40) rfl (.cons (t := 41) rfl .nil)))) ?_
      refine swl_nil ?_
      refine then_n ?_
      refine swp_block ?_
      have key2 : ∀ i, PI X.n X.n (addRow 2 (addRow 1 (fun _ => 0, []) xs) (ys.take i)) := fun i => (PI.addRow (v := 2) (Nat.le_refl X.n) (by unfold isV; decide) (by decide) hk1 (fun p hp => hy p (List.mem_of_mem_take hp))).1
      refine swp_sub _ (.cons (t := 9) rfl (.cons (t := 39) rfl (.cons (t := 40) rfl (.cons (t := 41) rfl .nil)))) ?_
      refine swp_loop (ι := Nat) (fun i env L => env = [(9, .pointer (some ⟨b28, 0, none⟩)), (39, .slice A2 ys.length c2), (40, .int .i64 (ys.length : Nat)), (41, .int .i64 (i : Nat))]
        ∧ L = [ptB b28 X.sv X.n b25 q (frP (addRow 2 (addRow 1 (fun _ => 0, []) xs) (ys.take i))), mpP b25 (addRow 2 (addRow 1 (fun _ => 0, []) xs) (ys.take i)).1, Bq.cq q (addRow 2 (addRow 1 (fun _ => 0, []) xs) (ys.take i)).2 (seenP X.n (addRow 2 (addRow 1 (fun _ => 0, []) xs) (ys.take i)).1), X.A s0 μ1, ro μ1] ∧ i ≤ ys.length) (fun i => ys.length - i) 0 ⟨rfl, rfl, Nat.zero_le _⟩ ?_
      rintro i env L ⟨rfl, rfl, hi⟩
      refine swp_seq ?_
      refine swp_region ?_
      refine s_pu (pu_lss rfl rfl) ?_
      refine swl_sub _ (.cons (t := 9) rfl (.cons (t := 39) rfl (.cons (t := 40) rfl (.cons (t := 41) rfl (.cons (t := 42) rfl .nil))))) ?_
      refine swl_nil ?_
      refine then_n ?_
      refine swp_seq ?_
      refine swp_cond (b := _) rfl (fun h42 => ?_) (fun h42 => ?_)
      · skip   -- 42 T
        have h42' : i < ys.length := by have := of_decide_eq_true h42; omega
        obtain ⟨c, hc⟩ : ∃ c, ys[i]? = some c := ⟨_, List.getElem?_eq_getElem h42'⟩
        obtain ⟨pb, po, pc, hpv, hpc⟩ := (hu.le h1).at_ hc
        have hcr := hy c (List.mem_of_getElem? hc)
        obtain ⟨c, rfl⟩ : ∃ k : Nat, c = k := ⟨c.toNat, by omega⟩
        have hsu := addRow_succ (v := 2) (s := addRow 1 (fun _ => 0, []) xs) hc
        rw [Int.toNat_natCast] at hsu
        have hki := key2 i
        generalize addRow 2 (addRow 1 (fun _ => 0, []) xs) (ys.take i) = si at *
        refine swp_skip ?_
        refine then_n ?_
        refine swp_seq ?_
        refine swp_block ?_
        refine swp_seq ?_
        refine swp_region ?_
        refine s_pu (pu_indexAddr (po + i * 1) (congrArg some hpv) rfl (by omega) (by omega) (by rw [Int.toNat_natCast])) ?_
        refine s_rd (rd_ro rfl hpc) ?_
        refine s_pu (pu_assign rfl) ?_
        refine swl_sub _ (.cons (t := 9) rfl (.cons (t := 13) rfl (.cons (t := 39) rfl (.cons (t := 40) rfl (.cons (t := 41) rfl .nil))))) ?_
        refine swl_nil ?_
        refine then_n ?_
        refine swp_region ?_
        refine s_pu (pu_move rfl) ?_
        refine s_pu (pu_move rfl) ?_
        refine s_ef (ef_fn (padd_spec b28 X.n X.n b25 q X.sv si c 2 hn hki (Nat.le_refl _) (by omega) (by unfold isV; decide) (by decide)) rfl rfl (by repeat (first | exact Split.nil | (apply Split.cons; (repeat (first | with_reducible exact Take.here | apply Take.there)))))) ?_
        rintro v47 L1 ⟨rfl, rfl⟩
        refine swl_app ?_
        refine swl_sub _ (.cons (t := 9) rfl (.cons (t := 39) rfl (.cons (t := 40) rfl (.cons (t := 41) rfl .nil)))) ?_
        refine swl_nil ?_
        refine block_n ?_
        refine then_n ?_
        refine swp_region ?_
        refine s_pu (pu_add_as ((i + 1 : Nat) : Int) rfl rfl (by omega) (by omega) (by omega)) ?_
        refine s_pu (pu_move rfl) ?_
        refine swl_sub _ (.cons (t := 9) rfl (.cons (t := 39) rfl (.cons (t := 40) rfl (.cons (t := 41) rfl .nil)))) ?_
        refine swl_nil ?_
        exact then_n ⟨i + 1, ⟨rfl, by rw [hsu], h42'⟩, by omega⟩
      · skip   -- 42 F
        have h42' := of_decide_eq_false h42
        obtain rfl : i = ys.length := by omega
        rw [List.take_length]
        refine swp_exit ?_
        refine then_x ?_
        refine then_x ?_
        refine block_hit rfl ?_
        refine then_n ?_
        refine swp_seq ?_
        refine swp_region ?_
        refine s_pu (pu_move rfl) ?_
        refine s_ef (ef_fn (pbest_spec X s0 μ1 b28 b25 q xs ys (hT.le h1) (h0.trans h1) hf hx hy) rfl rfl (by repeat (first | exact Split.nil | (apply Split.cons; (repeat (first | with_reducible exact Take.here | apply Take.there)))))) ?_
        rintro v50 L1 ⟨zs, μ2, hzs, h2, rfl⟩
        refine swl_app ?_
        rw [show sidesB X.g xs ys = sidesA X.g xs ys from (if_pos he).symm]
        refine s_pu (pu_assign rfl) ?_
        refine s_pu (pu_assign rfl) ?_
        refine swl_sub _ (.cons (t := 6) rfl (.cons (t := 7) rfl .nil)) ?_
        refine swl_nil ?_
        refine then_n ?_
        refine swp_ret ?_
        exact done_ret [own 3 1 v50 (sidesA X.g xs ys).length ((sidesA X.g xs ys).flatMap (icsk .i64)), X.A (zs.foldl X.step s0) μ2, ro μ2] (.tmp rfl (.tmp rfl .nil)) ⟨_, zs, μ2, hzs, h1.trans h2, by rw [he]; rfl, rfl⟩ (by repeat (first | exact Split.nil | (apply Split.cons; (repeat (first | with_reducible exact Take.here | apply Take.there)))))
theorem merge_spec (X : Src) (s0 : X.σ) (μ : PH) (a b : Int) (hT : RowAt μ 0 0 tabV) (h0 : Le X.μ0 μ) (hf : X.fine s0) :
    Spec Tryd.prog 31 [X.sv, .int .i64 a, .int .i64 b] [X.A s0 μ, ro μ] (fun r L => ∃ lv zs μ', askedIn X.n zs ∧ Le μ μ' ∧ r = .tuple #[lv, .int .i64 (onlyE X.g [a] [b])] ∧ L = [own 3 1 lv (sidesA X.g [a] [b]).length ((sidesA X.g [a] [b]).flatMap (icsk .i64)), X.A (zs.foldl X.step s0) μ', ro μ']) := by
  refine Spec.of 16 Tryd.func31 rfl rfl rfl ?_
  refine swp_seq ?_
  refine swp_region ?_
  refine s_pu (pu_assign rfl) ?_
  refine s_pu (pu_assign rfl) ?_
  refine swl_sub _ (.cons (t := 0) rfl (.cons (t := 1) rfl (.cons (t := 2) rfl .nil))) ?_
  refine swl_nil ?_
  refine then_n ?_
  refine swp_seq ?_
  refine swp_region ?_
  refine s_pu (pu_move rfl) ?_
  refine s_pu (pu_move rfl) ?_
  refine s_ef (ef_bldS (qs := [(0, _)]) rfl rfl rfl) ?_
  intro b10
  refine s_pu (pu_move rfl) ?_
  refine s_ef (ef_bldS (qs := [(0, _)]) rfl rfl rfl) ?_
  intro b12
  refine swl_share (b := b10) (μ := μ) (by repeat (first | exact Split.nil | (apply Split.cons; (repeat (first | with_reducible exact Take.here | apply Take.there))))) fun μ1 h1 k1 => ?_
  refine swl_share (b := b12) (μ := μ1) (by repeat (first | exact Split.nil | (apply Split.cons; (repeat (first | with_reducible exact Take.here | apply Take.there))))) fun μ2 h2 k2 => ?_
  refine swl_ent (X.up (s := s0) (h1.trans h2) (by repeat (first | exact Split.nil | (apply Split.cons; (repeat (first | with_reducible exact Take.here | apply Take.there)))))) ?_
  have r1 := (row_of_blk (n := 1) (l := 1) (cs := [a].flatMap (icsk .i64)) k1 (by rfl) (by decide)).le h2
  have r2 := row_of_blk (n := 1) (l := 1) (cs := [b].flatMap (icsk .i64)) k2 (by rfl) (by decide)
  refine s_ef (ef_fn (sides_spec X s0 μ2 _ _ [a] [b] ((hT.le h1).le h2) r1 r2 (h0.trans (h1.trans h2)) hf) rfl rfl (by repeat (first | exact Split.nil | (apply Split.cons; (repeat (first | with_reducible exact Take.here | apply Take.there)))))) ?_
  rintro v13 L1 ⟨lv, zs, μ3, hzs, h3, rfl, rfl⟩
  refine swl_app ?_
  first | refine s_pu (pu_extractL rfl) ?_ | refine s_pu (pu_extract rfl rfl) ?_
  first | refine s_pu (pu_extractL rfl) ?_ | refine s_pu (pu_extract rfl rfl) ?_
  refine s_pu (pu_assign rfl) ?_
  refine s_pu (pu_assign rfl) ?_
  refine swl_sub _ (.cons (t := 6) rfl (.cons (t := 7) rfl .nil)) ?_
  refine swl_nil ?_
  refine then_n ?_
  refine swp_ret ?_
  exact done_ret [own 3 1 lv (sidesA X.g [a] [b]).length ((sidesA X.g [a] [b]).flatMap (icsk .i64)), X.A (zs.foldl X.step s0) μ3, ro μ3] (.tmp rfl (.tmp rfl .nil)) ⟨_, zs, μ3, hzs, h1.trans (h2.trans h3), rfl, rfl⟩ (by repeat (first | exact Split.nil | (apply Split.cons; (repeat (first | with_reducible exact Take.here | apply Take.there)))))
end SX
namespace SX
open Go Go.Proofs

theorem rlistb_spec (b n : Nat) (S : Nat → Bool) (hn : n ≤ 1099511627776) : Spec Tryd.prog 85 [.slice (some ⟨b, 0, none⟩) n n] [blk b 4 (rbs n S)] (fun r L => L = [own 3 1 r (elsTo n S).length ((elsTo n S).flatMap (icsk .i64)), blk b 4 (rbs n S)]) := by
  refine Spec.of 20 Tryd.func85 rfl rfl rfl ?_
  refine swp_seq ?_
  refine swp_region ?_
  refine s_pu (pu_assign rfl) ?_
  refine swl_sub _ (.cons (t := 0) rfl .nil) ?_
  refine swl_nil ?_
  refine then_n ?_
  refine swp_seq ?_
  refine swp_region ?_
  refine s_pu (pu_assign rfl) ?_
  refine swl_sub _ (.cons (t := 0) rfl (.cons (t := 3) rfl .nil)) ?_
  refine swl_ent (own_nil_ent (e := 3) (n := 1)) ?_
  refine swl_nil ?_
  refine then_n ?_
  refine swp_seq ?_
  refine swp_seq ?_
  refine swp_region ?_
  refine s_pu (pu_assign rfl) ?_
  refine swl_sub _ (.cons (t := 0) rfl (.cons (t := 3) rfl (.cons (t := 4) rfl .nil))) ?_
  refine swl_nil ?_
  refine then_n ?_
  refine swp_block ?_
  refine swp_loop (ι := Value × Nat) (fun k env L => env = [(0, .slice (some ⟨b, 0, none⟩) n n), (3, k.1), (4, .int .i64 (k.2 : Nat))] ∧ L = [own 3 1 k.1 (elsTo k.2 S).length ((elsTo k.2 S).flatMap (icsk .i64)), blk b 4 (rbs n S)] ∧ k.2 ≤ n) (fun k => n - k.2) (.slice none 0 0, 0) ⟨rfl, rfl, Nat.zero_le _⟩ ?_
  rintro ⟨v3, j⟩ env L ⟨rfl, rfl, hj⟩
  dsimp only at hj ⊢
  refine swp_seq ?_
  refine swp_seq ?_
  refine swp_region ?_
  refine s_pu (pu_move rfl) ?_
  refine s_pu (pu_move rfl) ?_
  refine s_pu (pu_len rfl) ?_
  refine s_pu (pu_lss rfl rfl) ?_
  refine swl_sub _ (.cons (t := 0) rfl (.cons (t := 3) rfl (.cons (t := 4) rfl (.cons (t := 8) rfl .nil)))) ?_
  refine swl_nil ?_
  refine then_n ?_
  refine swp_cond (b := _) rfl (fun h8 => ?_) (fun h8 => ?_)
  · skip   -- 8 T
    have h8' : j < n := by have := of_decide_eq_true h8; omega
    refine swp_skip ?_
    refine then_n ?_
    refine swp_seq ?_
    refine swp_block ?_
    refine swp_seq ?_
    refine swp_region ?_
    refine s_pu (pu_move rfl) ?_
    refine s_pu (pu_move rfl) ?_
    refine s_pu (pu_indexAddr j rfl rfl (by omega) (by omega) (by omega)) ?_
    refine s_rd (rd_load rfl (rbs_get S (by omega))) ?_
    refine swl_sub _ (.cons (t := 0) rfl (.cons (t := 3) rfl (.cons (t := 4) rfl (.cons (t := 14) rfl .nil)))) ?_
    refine swl_nil ?_
    refine then_n ?_
    refine swp_cond (b := _) rfl (fun h14 => ?_) (fun h14 => ?_)
    · skip   -- 14 T
      have hle := elsTo_len j S
      refine swp_region ?_
      refine s_pu (pu_move rfl) ?_
      refine s_pu (pu_move rfl) ?_
      refine s_ef (ef_bldS (qs := [(0, _)]) rfl rfl rfl) ?_
      intro b17
      refine s_ef (ef_append_lit (l := (elsTo j S).length) (m := 1) rfl rfl (by repeat (first | exact Split.nil | (apply Split.cons; (repeat (first | with_reducible exact Take.here | apply Take.there))))) (by simp only [maxLen]; omega) (by omega)) ?_
      rintro v' hv'
      skip
      refine s_pu (pu_assign rfl) ?_
      refine swl_sub _ (.cons (t := 0) rfl (.cons (t := 3) rfl (.cons (t := 4) rfl .nil))) ?_
      have e1 : (elsTo j S).length + 1 = (elsTo (j + 1) S).length := by rw [elsTo_succ h14, List.length_append]; rfl
      have e2 : (elsTo j S).flatMap (icsk .i64) ++ [.int .i64 (j : Nat)] = (elsTo (j + 1) S).flatMap (icsk .i64) := by rw [elsTo_succ h14, List.flatMap_append]; rfl
      rw [e1, e2]
      refine swl_nil ?_
      refine block_n ?_
      refine then_n ?_
      refine swp_region ?_
      refine s_pu (pu_move rfl) ?_
      refine s_pu (pu_add_as ((j + 1 : Nat) : Int) rfl rfl (by omega) (by omega) (by omega)) ?_
      refine s_pu (pu_assign rfl) ?_
      refine swl_sub _ (.cons (t := 0) rfl (.cons (t := 3) rfl (.cons (t := 4) rfl .nil))) ?_
      refine swl_nil ?_
      exact then_n ⟨(_, j + 1), ⟨rfl, rfl, by omega⟩, by show n - (j + 1) < n - j; omega⟩
    · skip   -- 14 F
      have e0 : elsTo (j + 1) S = elsTo j S := elsTo_skip (by omega) (fun i h1 h2 => by rw [show i = j by omega]; exact h14)
      rw [← e0]
      refine swp_skip ?_
      refine block_n ?_
      refine then_n ?_
      refine swp_region ?_
      refine s_pu (pu_move rfl) ?_
      refine s_pu (pu_add_as ((j + 1 : Nat) : Int) rfl rfl (by omega) (by omega) (by omega)) ?_
      refine s_pu (pu_assign rfl) ?_
      refine swl_sub _ (.cons (t := 0) rfl (.cons (t := 3) rfl (.cons (t := 4) rfl .nil))) ?_
      refine swl_nil ?_
      exact then_n ⟨(_, j + 1), ⟨rfl, rfl, by omega⟩, by show n - (j + 1) < n - j; omega⟩
  · skip   -- 8 F
    have h8' := of_decide_eq_false h8
    obtain rfl : j = n := by omega
    refine swp_exit ?_
    refine then_x ?_
    refine then_x ?_
    refine block_hit rfl ?_
    refine then_n ?_
    refine swp_seq ?_
    refine swp_region ?_
    refine s_pu (pu_move rfl) ?_
    refine s_pu (pu_assign rfl) ?_
    refine swl_sub _ (.cons (t := 2) rfl .nil) ?_
    refine swl_nil ?_
    refine then_n ?_
    refine swp_ret ?_
    exact done_ret [own 3 1 v3 (elsTo j S).length ((elsTo j S).flatMap (icsk .i64)), blk b 4 (rbs j S)] (.tmp rfl .nil) rfl (by repeat (first | exact Split.nil | (apply Split.cons; (repeat (first | with_reducible exact Take.here | apply Take.there)))))
set_option maxHeartbeats 1000000 in
theorem rbest_spec (μ : PH) (A : Option Addr) (cap b : Nat) (G : List (Value × List Int)) (S : Nat → Bool) (hG : Graph μ (.slice A G.length cap) G) (hbig : G.length ≤ 1099511627776) (hg : Good (nums G)) :
    Spec Tryd.prog 67 [.slice A G.length cap, .slice (some ⟨b, 0, none⟩) G.length G.length] [blk b 4 (rbs G.length S), ro μ]
    (fun r L => L = [own 3 1 r (elsTo G.length (bestT (nums G) S G.length)).length ((elsTo G.length (bestT (nums G) S G.length)).flatMap (icsk .i64)), ro μ]) := by
  refine Spec.of 44 Tryd.func67 rfl rfl rfl ?_
  refine swp_seq ?_
  refine swp_region ?_
  refine s_pu (pu_assign rfl) ?_
  refine swl_sub _ (.cons (t := 0) rfl (.cons (t := 1) rfl .nil)) ?_
  refine swl_nil ?_
  refine then_n ?_
  refine swp_seq ?_
  refine swp_region ?_
  refine s_pu (pu_move rfl) ?_
  refine s_pu (pu_len rfl) ?_
  refine s_ef (ef_make1 G.length rfl rfl rfl (by omega) (by simp only [maxLen]; omega)) ?_
  rintro b10
  skip
  refine s_pu (pu_assign rfl) ?_
  refine swl_sub _ (.cons (t := 0) rfl (.cons (t := 1) rfl (.cons (t := 5) rfl .nil))) ?_
  refine swl_nil ?_
  refine then_n ?_
  refine swp_seq ?_
  refine swp_region ?_
  refine s_pu (pu_move rfl) ?_
  refine s_pu (pu_move rfl) ?_
  refine s_ef (ef_copy (rbs G.length S) rfl rfl (by repeat (first | exact Split.nil | (apply Split.cons; (repeat (first | with_reducible exact Take.here | apply Take.there))))) (by rw [rbs_len, Nat.mul_one]; exact (Nat.min_self _).symm) (fun j u h => by rw [Nat.zero_add]; exact h) (rbs_one _ _) (by rw [rbs_len, List.length_replicate]; exact Nat.le_refl _)) ?_
  refine swl_sub _ (.cons (t := 0) rfl (.cons (t := 1) rfl (.cons (t := 5) rfl .nil))) ?_
  rw [List.drop_eq_nil_of_le (by rw [List.length_replicate, rbs_len]; exact Nat.le_refl _), List.append_nil]
  have e0 : rbs G.length S = rbs G.length (bestT (nums G) S 0) := rbs_ext fun j _ => by unfold bestT; simp
  refine swl_nil ?_
  refine then_n ?_
  refine swp_seq ?_
  refine swp_seq ?_
  refine swp_region ?_
  refine s_pu (pu_assign rfl) ?_
  refine swl_sub _ (.cons (t := 0) rfl (.cons (t := 1) rfl (.cons (t := 5) rfl (.cons (t := 6) rfl .nil)))) ?_
  refine swl_nil ?_
  refine then_n ?_
  refine swp_block ?_
  refine swp_ent (L' := [blk b10 4 (rbs G.length (bestT (nums G) S 0)), blk b 4 (rbs G.length S), ro μ]) (by rw [← e0]; exact Ent.refl _) ?_
  refine swp_loop (ι := Nat) (fun c env L => env = [(0, .slice A G.length cap), (1, .slice (some ⟨b, 0, none⟩) G.length G.length), (5, .slice (some ⟨b10, 0, none⟩) G.length G.length), (6, .int .i64 (c : Nat))] ∧ L = [blk b10 4 (rbs G.length (bestT (nums G) S c)), blk b 4 (rbs G.length S), ro μ] ∧ c ≤ G.length) (fun c => G.length - c) 0 ⟨rfl, rfl, Nat.zero_le _⟩ ?_
  rintro c env L ⟨rfl, rfl, hc⟩
  refine swp_seq ?_
  refine swp_seq ?_
  refine swp_region ?_
  refine s_pu (pu_move rfl) ?_
  refine s_pu (pu_move rfl) ?_
  refine s_pu (pu_len_row hG.1 rfl) ?_
  refine s_pu (pu_lss rfl rfl) ?_
  refine swl_sub _ (.cons (t := 0) rfl (.cons (t := 1) rfl (.cons (t := 5) rfl (.cons (t := 6) rfl (.cons (t := 17) rfl .nil))))) ?_
  refine swl_nil ?_
  refine then_n ?_
  refine swp_cond (b := _) rfl (fun h17 => ?_) (fun h17 => ?_)
  · skip   -- 17 T
    have h17' : c < G.length := by have := of_decide_eq_true h17; omega
    obtain ⟨gb, off, cap', hv, c1, c2, hr⟩ := hG.1.pos (by omega)
    simp only [Value.slice.injEq, true_and] at hv
    obtain ⟨rfl, rfl⟩ := hv
    obtain ⟨x, hx, hxc, hxr, hxo, hxg⟩ := graph_rows hG hg hr c h17'
    have hxs := hxr.small
    refine swp_skip ?_
    refine then_n ?_
    refine swp_seq ?_
    refine swp_block ?_
    refine swp_seq ?_
    refine swp_region ?_
    refine s_pu (pu_assign rfl) ?_
    refine swl_sub _ (.cons (t := 0) rfl (.cons (t := 1) rfl (.cons (t := 5) rfl (.cons (t := 6) rfl (.cons (t := 7) rfl .nil))))) ?_
    refine swl_nil ?_
    refine then_n ?_
    refine swp_block ?_
    have e0 : rbs G.length (bestT (nums G) S c) = rbs G.length (fun j => bestT (nums G) S c j && !(S c && decide ((j : Int) ∈ x.2.take 0))) := rbs_ext fun j _ => by simp
    rw [e0]
    refine swp_loop (ι := Nat) (fun i env L => env = [(0, .slice (some ⟨gb, off, none⟩) G.length cap), (1, .slice (some ⟨b, 0, none⟩) G.length G.length), (5, .slice (some ⟨b10, 0, none⟩) G.length G.length), (6, .int .i64 (c : Nat)), (7, .int .i64 (i : Nat))] ∧ L = [blk b10 4 (rbs G.length (fun j => bestT (nums G) S c j && !(S c && decide ((j : Int) ∈ x.2.take i)))), blk b 4 (rbs G.length S), ro μ] ∧ i ≤ x.2.length) (fun i => x.2.length - i) 0 ⟨rfl, rfl, Nat.zero_le _⟩ ?_
    rintro i env L ⟨rfl, rfl, hi⟩
    refine swp_seq ?_
    refine swp_seq ?_
    refine swp_region ?_
    refine s_pu (pu_move rfl) ?_
    refine s_pu (pu_move rfl) ?_
    refine s_pu (pu_move rfl) ?_
    refine s_pu (pu_indexAddr (off + c * 1) rfl rfl (by omega) (by omega) (by rw [Int.toNat_natCast])) ?_
    refine s_rd (rd_ro rfl hxc) ?_
    refine s_pu (pu_len_row hxr rfl) ?_
    refine s_pu (pu_lss rfl rfl) ?_
    refine swl_sub _ (.cons (t := 0) rfl (.cons (t := 1) rfl (.cons (t := 5) rfl (.cons (t := 6) rfl (.cons (t := 7) rfl (.cons (t := 26) rfl .nil)))))) ?_
    refine swl_nil ?_
    refine then_n ?_
    refine swp_cond (b := _) rfl (fun h26 => ?_) (fun h26 => ?_)
    · skip   -- 26 T
      have h26' : i < x.2.length := by have := of_decide_eq_true h26; omega
      obtain ⟨pb, poff, pcap, hpv, p1, p2, hpr⟩ := hxr.pos (by omega)
      obtain ⟨p, hp⟩ : ∃ p, x.2[i]? = some p := ⟨_, List.getElem?_eq_getElem h26'⟩
      have hpk := hpr.elem (icsk_len .i64) hp
      have hpg := hxg p (List.mem_of_getElem? hp)
      obtain ⟨k, rfl⟩ : ∃ k : Nat, p = k := ⟨p.toNat, by omega⟩
      refine swp_skip ?_
      refine then_n ?_
      refine swp_seq ?_
      refine swp_block ?_
      refine swp_seq ?_
      refine swp_region ?_
      refine s_pu (pu_move rfl) ?_
      refine s_pu (pu_move rfl) ?_
      refine s_pu (pu_indexAddr c rfl rfl (by omega) (by omega) (by omega)) ?_
      refine s_rd (rd_load rfl (rbs_get S h17')) ?_
      refine swl_sub _ (.cons (t := 0) rfl (.cons (t := 1) rfl (.cons (t := 5) rfl (.cons (t := 6) rfl (.cons (t := 7) rfl (.cons (t := 32) rfl .nil)))))) ?_
      refine swl_nil ?_
      refine then_n ?_
      refine swp_cond (b := _) rfl (fun h32 => ?_) (fun h32 => ?_)
      · skip   -- 32 T
        refine swp_region ?_
        refine s_pu (pu_move rfl) ?_
        refine s_pu (pu_move rfl) ?_
        refine s_pu (pu_move rfl) ?_
        refine s_pu (pu_indexAddr (off + c * 1) rfl rfl (by omega) (by omega) (by rw [Int.toNat_natCast])) ?_
        refine s_rd (rd_ro rfl (hpv ▸ hxc)) ?_
        refine s_pu (pu_move rfl) ?_
        refine s_pu (pu_indexAddr (poff + i * 1) rfl rfl (by omega) (by omega) (by rw [Int.toNat_natCast])) ?_
        refine s_rd (rd_ro rfl hpk.cell) ?_
        refine s_pu (pu_indexAddr k rfl rfl (by omega) (by omega) (by omega)) ?_
        refine s_ef0 (ef_storeP rfl rfl rfl (by rw [rbs_len]; omega)) ?_
        refine swl_sub _ (.cons (t := 0) rfl (.cons (t := 1) rfl (.cons (t := 5) rfl (.cons (t := 6) rfl (.cons (t := 7) rfl .nil))))) ?_
        rw [rbs_set (T := fun j => bestT (nums G) S c j && !(S c && decide ((j : Int) ∈ x.2.take (i + 1)))) (fun y hy => by
          rw [List.take_add_one, hp, h32]
          by_cases e : y = k
          · subst e; simp
          · have : (y : Int) ≠ k := by omega
            simp [e, this])]
        refine swl_nil ?_
        refine block_n ?_
        refine then_n ?_
        refine swp_region ?_
        refine s_pu (pu_move rfl) ?_
        refine s_pu (pu_add_as ((i + 1 : Nat) : Int) rfl rfl (by omega) (by omega) (by omega)) ?_
        refine s_pu (pu_assign rfl) ?_
        refine swl_sub _ (.cons (t := 0) rfl (.cons (t := 1) rfl (.cons (t := 5) rfl (.cons (t := 6) rfl (.cons (t := 7) rfl .nil))))) ?_
        refine swl_nil ?_
        exact then_n ⟨i + 1, ⟨rfl, rfl, h26'⟩, by omega⟩
      · skip   -- 32 F
        have e1 : rbs G.length (fun j => bestT (nums G) S c j && !(S c && decide ((j : Int) ∈ x.2.take i))) = rbs G.length (fun j => bestT (nums G) S c j && !(S c && decide ((j : Int) ∈ x.2.take (i + 1)))) := rbs_ext fun j _ => by rw [h32, Bool.false_and, Bool.false_and]
        rw [e1]
        refine swp_skip ?_
        refine block_n ?_
        refine then_n ?_
        refine swp_region ?_
        refine s_pu (pu_move rfl) ?_
        refine s_pu (pu_add_as ((i + 1 : Nat) : Int) rfl rfl (by omega) (by omega) (by omega)) ?_
        refine s_pu (pu_assign rfl) ?_
        refine swl_sub _ (.cons (t := 0) rfl (.cons (t := 1) rfl (.cons (t := 5) rfl (.cons (t := 6) rfl (.cons (t := 7) rfl .nil))))) ?_
        refine swl_nil ?_
        exact then_n ⟨i + 1, ⟨rfl, rfl, h26'⟩, by omega⟩
    · skip   -- 26 F
      have h26' := of_decide_eq_false h26
      obtain rfl : i = x.2.length := by omega
      have e1 : rbs G.length (fun j => bestT (nums G) S c j && !(S c && decide ((j : Int) ∈ x.2.take x.2.length))) = rbs G.length (bestT (nums G) S (c + 1)) := rbs_ext fun j _ => by
        rw [bestT_succ, hxo, List.take_length]
      rw [e1]
      refine swp_exit ?_
      refine then_x ?_
      refine then_x ?_
      refine block_hit rfl ?_
      refine block_n ?_
      refine then_n ?_
      refine swp_region ?_
      refine s_pu (pu_move rfl) ?_
      refine s_pu (pu_add_as ((c + 1 : Nat) : Int) rfl rfl (by omega) (by omega) (by omega)) ?_
      refine s_pu (pu_assign rfl) ?_
      refine swl_sub _ (.cons (t := 0) rfl (.cons (t := 1) rfl (.cons (t := 5) rfl (.cons (t := 6) rfl .nil)))) ?_
      refine swl_nil ?_
      exact then_n ⟨c + 1, ⟨rfl, rfl, h17'⟩, by omega⟩
  · skip   -- 17 F
    have h17' := of_decide_eq_false h17
    obtain rfl : c = G.length := by omega
    refine swp_exit ?_
    refine then_x ?_
    refine then_x ?_
    refine block_hit rfl ?_
    refine then_n ?_
    refine swp_seq ?_
    refine swp_region ?_
    refine s_pu (pu_move rfl) ?_
    refine s_ef (ef_fn (rlistb_spec b10 G.length _ hbig) rfl rfl (by repeat (first | exact Split.nil | (apply Split.cons; (repeat (first | with_reducible exact Take.here | apply Take.there)))))) ?_
    rintro v2 L1 rfl
    refine swl_app ?_
    refine s_pu (pu_assign rfl) ?_
    refine swl_sub _ (.cons (t := 4) rfl .nil) ?_
    refine swl_nil ?_
    refine then_n ?_
    refine swp_ret ?_
    exact done_ret [own 3 1 v2 (elsTo G.length (bestT (nums G) S G.length)).length ((elsTo G.length (bestT (nums G) S G.length)).flatMap (icsk .i64)), ro μ] (.tmp rfl .nil) rfl (by repeat (first | exact Split.nil | (apply Split.cons; (repeat (first | with_reducible exact Take.here | apply Take.there)))))
def andS (S T : Nat → Bool) (i : Nat) : Nat → Bool := fun j => S j && (decide (i ≤ j) || T j)
set_option maxHeartbeats 1000000 in
theorem rsides_spec (μ : PH) (v lv uv : Value) (G : List (Value × List Int)) (xs ys : List Int) (hG : Graph μ v G) (hbig : G.length ≤ 1048576) (hg : Good (nums G)) (hv : Row μ lv 1 xs.length (xs.flatMap (icsk .i64))) (hu : Row μ uv 1 ys.length (ys.flatMap (icsk .i64))) :
    Spec Tryd.prog 38 [v, lv, uv] [ro μ] (fun r L => ∃ rv, r = .tuple #[rv, .int .i64 (onlyE (nums G) xs ys)] ∧ L = [own 3 1 rv (sidesA (nums G) xs ys).length ((sidesA (nums G) xs ys).flatMap (icsk .i64)), ro μ]) := by
  have hln : (nums G).length = G.length := List.length_map _
  obtain ⟨Ag, cg, rfl⟩ := hG.1.sl
  refine Spec.of 47 Tryd.func38 rfl rfl rfl ?_
  refine swp_seq ?_
  refine swp_region ?_
  refine s_pu (pu_assign rfl) ?_
  refine s_pu (pu_assign rfl) ?_
  refine swl_sub _ (.cons (t := 0) rfl (.cons (t := 1) rfl (.cons (t := 2) rfl .nil))) ?_
  refine swl_nil ?_
  refine then_n ?_
  refine swp_seq ?_
  refine swp_seq ?_
  refine swp_region ?_
  refine s_pu (pu_move rfl) ?_
  refine s_pu (pu_move rfl) ?_
  refine s_ef (ef_fn (unknown_spec _ lv G.length xs [ro μ] hG.1.sl (Ints.row hv)) rfl rfl (by repeat (first | exact Split.nil | (apply Split.cons; (repeat (first | with_reducible exact Take.here | apply Take.there)))))) ?_
  rintro v13 L1 ⟨rfl, rfl⟩
  refine swl_app ?_
  refine s_pu (pu_move rfl) ?_
  refine s_split 14 rfl (fun h14 => ?_) (fun h14 => ?_)
  · skip   -- 14 T
    refine s_off rfl rfl rfl ?_
    refine s_off rfl rfl rfl ?_
    refine s_off rfl rfl rfl ?_
    first | refine s_pu (pu_pick_t rfl rfl) ?_ | refine s_pu (pu_pick_f rfl rfl) ?_
    refine swl_sub _ (.cons (t := 0) rfl (.cons (t := 1) rfl (.cons (t := 2) rfl (.cons (t := 18) rfl .nil)))) ?_
    refine swl_nil ?_
    refine then_n ?_
    refine swp_cond (b := _) rfl (fun h18 => ?_) (fun h18 => by cases h18)
    refine swp_seq ?_
    refine swp_region ?_
    refine s_pu (pu_assign rfl) ?_
    refine s_pu (pu_assign rfl) ?_
    refine swl_sub _ (.cons (t := 6) rfl (.cons (t := 7) rfl .nil)) ?_
    refine swl_nil ?_
    refine then_n ?_
    refine swp_ret ?_
    refine then_r ?_
    have he : onlyE (nums G) xs ys = 9 := by rw [onlyE, askedE_two, hln, h14]; rfl
    refine done_retE [own 3 1 (.slice none 0 0) (sidesA (nums G) xs ys).length ((sidesA (nums G) xs ys).flatMap (icsk .i64)), ro μ] (.tmp rfl (.tmp rfl .nil)) ⟨_, by rw [he]; rfl, rfl⟩ ?_
    rw [sidesA, if_neg (by rw [he]; decide)]
    exact own_nil_ent
  · skip   -- 14 F
    refine s_on rfl rfl ?_
    refine s_pu (pu_move rfl) ?_
    refine s_on rfl rfl ?_
    refine s_pu (pu_move rfl) ?_
    refine s_on rfl rfl ?_
    refine s_ef (ef_fn (unknown_spec _ uv G.length ys [ro μ] hG.1.sl (Ints.row hu)) rfl rfl (by repeat (first | exact Split.nil | (apply Split.cons; (repeat (first | with_reducible exact Take.here | apply Take.there)))))) ?_
    rintro v17 L1 ⟨rfl, rfl⟩
    refine swl_app ?_
    first | refine s_pu (pu_pick_t rfl rfl) ?_ | refine s_pu (pu_pick_f rfl rfl) ?_
    refine swl_sub _ (.cons (t := 0) rfl (.cons (t := 1) rfl (.cons (t := 2) rfl (.cons (t := 18) rfl .nil)))) ?_
    refine swl_nil ?_
    refine then_n ?_
    refine swp_cond (b := _) rfl (fun h18 => ?_) (fun h18 => ?_)
    · skip   -- 18 T
      refine swp_seq ?_
      refine swp_region ?_
      refine s_pu (pu_assign rfl) ?_
      refine s_pu (pu_assign rfl) ?_
      refine swl_sub _ (.cons (t := 6) rfl (.cons (t := 7) rfl .nil)) ?_
      refine swl_nil ?_
      refine then_n ?_
      refine swp_ret ?_
      refine then_r ?_
      have he : onlyE (nums G) xs ys = 9 := by rw [onlyE, askedE_two, hln, h18, Bool.or_true]; rfl
      refine done_retE [own 3 1 (.slice none 0 0) (sidesA (nums G) xs ys).length ((sidesA (nums G) xs ys).flatMap (icsk .i64)), ro μ] (.tmp rfl (.tmp rfl .nil)) ⟨_, by rw [he]; rfl, rfl⟩ ?_
      rw [sidesA, if_neg (by rw [he]; decide)]
      exact own_nil_ent
    · skip   -- 18 F
      have he : onlyE (nums G) xs ys = 0 := by rw [onlyE, askedE_two, hln, h14, h18]; rfl
      have hx := askedE_in (l := xs) he (by simp)
      have hy := askedE_in (l := ys) he (by simp)
      rw [hln] at hx hy
      refine swp_skip ?_
      refine then_n ?_
      refine swp_seq ?_
      refine swp_region ?_
      refine s_pu (pu_move rfl) ?_
      refine s_pu (pu_move rfl) ?_
      refine s_ef (ef_fn (any_spec μ _ lv G xs hG (by omega) hg hv hx) rfl rfl (by repeat (first | exact Split.nil | (apply Split.cons; (repeat (first | with_reducible exact Take.here | apply Take.there)))))) ?_
      rintro v21 L1 ⟨c, rfl, rfl⟩
      refine swl_app ?_
      refine s_pu (pu_assign rfl) ?_
      refine swl_sub _ (.cons (t := 0) rfl (.cons (t := 2) rfl (.cons (t := 8) rfl .nil))) ?_
      refine swl_nil ?_
      refine then_n ?_
      refine swp_seq ?_
      refine swp_region ?_
      refine s_pu (pu_move rfl) ?_
      refine s_pu (pu_move rfl) ?_
      refine s_ef (ef_fn (any_spec μ _ uv G ys hG (by omega) hg hu hy) rfl rfl (by repeat (first | exact Split.nil | (apply Split.cons; (repeat (first | with_reducible exact Take.here | apply Take.there)))))) ?_
      rintro v24 L1 ⟨d, rfl, rfl⟩
      refine swl_app ?_
      refine s_pu (pu_assign rfl) ?_
      refine swl_sub _ (.cons (t := 0) rfl (.cons (t := 8) rfl (.cons (t := 9) rfl .nil))) ?_
      refine swl_nil ?_
      refine then_n ?_
      refine swp_seq ?_
      refine swp_seq ?_
      generalize hA : anyUp (nums G) G.length xs = A at *
      generalize hB : anyUp (nums G) G.length ys = B at *
      rw [show rbs G.length A = rbs G.length (andS A B 0) from rbs_ext fun j _ => by simp [andS]]
      refine swp_region ?_
      refine s_pu (pu_assign rfl) ?_
      refine swl_sub _ (.cons (t := 0) rfl (.cons (t := 8) rfl (.cons (t := 9) rfl (.cons (t := 10) rfl .nil)))) ?_
      refine swl_nil ?_
      refine then_n ?_
      refine swp_block ?_
      refine swp_ent (Split.ent' (K := [blk c 4 (rbs G.length (andS A B 0)), blk d 4 (rbs G.length B), ro μ]) (by repeat (first | exact Split.nil | (apply Split.cons; (repeat (first | with_reducible exact Take.here | apply Take.there)))))) ?_
      refine swp_loop (ι := Nat) (fun i env L => env = [(0, .slice Ag G.length cg), (8, .slice (some ⟨c, 0, none⟩) G.length G.length), (9, .slice (some ⟨d, 0, none⟩) G.length G.length), (10, .int .i64 (i : Nat))] ∧ L = [blk c 4 (rbs G.length (andS A B i)), blk d 4 (rbs G.length B), ro μ] ∧ i ≤ G.length) (fun i => G.length - i) 0 ⟨rfl, rfl, Nat.zero_le _⟩ ?_
      rintro i env L ⟨rfl, rfl, hi⟩
      refine swp_seq ?_
      refine swp_seq ?_
      refine swp_region ?_
      refine s_pu (pu_move rfl) ?_
      refine s_pu (pu_move rfl) ?_
      refine s_pu (pu_len rfl) ?_
      refine s_pu (pu_lss rfl rfl) ?_
      refine swl_sub _ (.cons (t := 0) rfl (.cons (t := 8) rfl (.cons (t := 9) rfl (.cons (t := 10) rfl (.cons (t := 28) rfl .nil))))) ?_
      refine swl_nil ?_
      refine then_n ?_
      refine swp_cond (b := _) rfl (fun h28 => ?_) (fun h28 => ?_)
      · skip   -- 28 T
        have h28' : i < G.length := by have := of_decide_eq_true h28; omega
        have hst : ∀ z : Bool, z = (A i && B i) → (rbs G.length (andS A B i)).set i (.bool z) = rbs G.length (andS A B (i + 1)) := fun z hz => rbs_set (fun j _ => by
          by_cases e : j = i
          · subst e; rw [if_pos rfl, hz]; unfold andS; rw [decide_eq_false (show ¬ j + 1 ≤ j by omega), Bool.false_or]
          · rw [if_neg e]
            unfold andS
            rw [show decide (i + 1 ≤ j) = decide (i ≤ j) by rw [Bool.eq_iff_iff, decide_eq_true_eq, decide_eq_true_eq]; omega])
        have hci : andS A B i i = A i := by unfold andS; rw [decide_eq_true (Nat.le_refl i)]; simp
        refine swp_skip ?_
        refine then_n ?_
        refine swp_seq ?_
        refine swp_block ?_
        refine swp_region ?_
        refine s_pu (pu_move rfl) ?_
        refine s_pu (pu_move rfl) ?_
        refine s_pu (pu_move rfl) ?_
        refine s_pu (pu_move rfl) ?_
        refine s_pu (pu_indexAddr i rfl rfl (by omega) (by omega) (by omega)) ?_
        refine s_rd (rd_load rfl (rbs_get _ h28')) ?_
        refine s_pu (pu_move rfl) ?_
        refine s_split 37 rfl (fun h37 => ?_) (fun h37 => ?_)
        · skip   -- 37 T
          refine s_on rfl rfl ?_
          refine s_pu (pu_move rfl) ?_
          refine s_on rfl rfl ?_
          refine s_pu (pu_move rfl) ?_
          refine s_on rfl rfl ?_
          refine s_pu (pu_indexAddr i rfl rfl (by omega) (by omega) (by omega)) ?_
          refine s_on rfl rfl ?_
          refine s_rd (rd_load rfl (rbs_get _ h28')) ?_
          first | refine s_pu (pu_pick_t rfl rfl) ?_ | refine s_pu (pu_pick_f rfl rfl) ?_
          refine s_pu (pu_indexAddr i rfl rfl (by omega) (by omega) (by omega)) ?_
          refine s_ef0 (ef_storeP rfl rfl rfl (by rw [rbs_len]; omega)) ?_
          refine swl_sub _ (.cons (t := 0) rfl (.cons (t := 8) rfl (.cons (t := 9) rfl (.cons (t := 10) rfl .nil)))) ?_
          rw [hst _ (by rw [← hci, h37, Bool.true_and])]
          refine swl_nil ?_
          refine block_n ?_
          refine then_n ?_
          refine swp_region ?_
          refine s_pu (pu_move rfl) ?_
          refine s_pu (pu_add_as ((i + 1 : Nat) : Int) rfl rfl (by omega) (by omega) (by omega)) ?_
          refine s_pu (pu_assign rfl) ?_
          refine swl_sub _ (.cons (t := 0) rfl (.cons (t := 8) rfl (.cons (t := 9) rfl (.cons (t := 10) rfl .nil)))) ?_
          refine swl_nil ?_
          exact then_n ⟨i + 1, ⟨rfl, rfl, h28'⟩, by omega⟩
        · skip   -- 37 F
          refine s_off rfl rfl rfl ?_
          refine s_off rfl rfl rfl ?_
          refine s_off rfl rfl rfl ?_
          refine s_off rfl rfl rfl ?_
          first | refine s_pu (pu_pick_t rfl rfl) ?_ | refine s_pu (pu_pick_f rfl rfl) ?_
          refine s_pu (pu_indexAddr i rfl rfl (by omega) (by omega) (by omega)) ?_
          refine s_ef0 (ef_storeP rfl rfl rfl (by rw [rbs_len]; omega)) ?_
          refine swl_sub _ (.cons (t := 0) rfl (.cons (t := 8) rfl (.cons (t := 9) rfl (.cons (t := 10) rfl .nil)))) ?_
          rw [hst _ (by rw [← hci, h37]; rfl)]
          refine swl_nil ?_
          refine block_n ?_
          refine then_n ?_
          refine swp_region ?_
          refine s_pu (pu_move rfl) ?_
          refine s_pu (pu_add_as ((i + 1 : Nat) : Int) rfl rfl (by omega) (by omega) (by omega)) ?_
          refine s_pu (pu_assign rfl) ?_
          refine swl_sub _ (.cons (t := 0) rfl (.cons (t := 8) rfl (.cons (t := 9) rfl (.cons (t := 10) rfl .nil)))) ?_
          refine swl_nil ?_
          exact then_n ⟨i + 1, ⟨rfl, rfl, h28'⟩, by omega⟩
      · skip   -- 28 F
        have h28' := of_decide_eq_false h28
        obtain rfl : i = G.length := by omega
        refine swp_exit ?_
        refine then_x ?_
        refine then_x ?_
        refine block_hit rfl ?_
        refine then_n ?_
        refine swp_seq ?_
        refine swp_region ?_
        refine s_pu (pu_move rfl) ?_
        refine s_pu (pu_move rfl) ?_
        refine s_ef (ef_fn (rbest_spec μ Ag cg c G (andS A B G.length) hG (by omega) hg) rfl rfl (by repeat (first | exact Split.nil | (apply Split.cons; (repeat (first | with_reducible exact Take.here | apply Take.there)))))) ?_
        rintro v46 L1 rfl
        refine swl_app ?_
        refine s_pu (pu_assign rfl) ?_
        refine s_pu (pu_assign rfl) ?_
        refine swl_sub _ (.cons (t := 6) rfl (.cons (t := 7) rfl .nil)) ?_
        refine swl_nil ?_
        refine then_n ?_
        refine swp_ret ?_
        refine done_retE [own 3 1 v46 (sidesA (nums G) xs ys).length ((sidesA (nums G) xs ys).flatMap (icsk .i64)), ro μ] (.tmp rfl (.tmp rfl .nil)) ⟨_, by rw [he]; rfl, rfl⟩ ?_
        have e1 : elsTo G.length (bestT (nums G) (andS A B G.length) G.length) = sidesA (nums G) xs ys := by
          rw [sidesA, if_pos he]
          unfold sidesB
          rw [hln]
          refine elsTo_ext fun k hk => ?_
          have e2 : ∀ j, j < G.length → andS A B G.length j = bothS (nums G) xs ys j := fun j hj => by
            unfold andS bothS
            rw [hln, hA, hB, decide_eq_false (show ¬ G.length ≤ j by omega), Bool.false_or]
          unfold bestT
          rw [e2 k hk]
          congr 2
          rw [Bool.eq_iff_iff, List.any_eq_true, List.any_eq_true]
          exact ⟨fun ⟨y, h1, h2⟩ => ⟨y, h1, by rwa [← e2 y (List.mem_range.1 h1)]⟩, fun ⟨y, h1, h2⟩ => ⟨y, h1, by rwa [e2 y (List.mem_range.1 h1)]⟩⟩
        rw [← e1]
        exact Split.ent' (by repeat (first | exact Split.nil | (apply Split.cons; (repeat (first | with_reducible exact Take.here | apply Take.there)))))
theorem often_spec (p n : Nat) (vg vn : Value) (zs : List Nat) (hz : zs.Nodup) (hn : n ≤ 1048576) (hg : ∃ A c, vg = .slice A n c) : Spec Tryd.prog 33 [.pointer (some ⟨p, 0, none⟩)] [gA p vg vn n (zs.foldl ask1 noAsk)] (fun r L => r = .bool false ∧ L = [gA p vg vn n noAsk]) := by
  refine Spec.of 9 Tryd.func33 rfl rfl rfl ?_
  refine swp_seq ?_
  refine swp_region ?_
  refine s_pu (pu_assign rfl) ?_
  refine swl_sub _ (.cons (t := 0) rfl .nil) ?_
  refine swl_nil ?_
  refine then_n ?_
  refine swp_seq ?_
  refine swp_region ?_
  refine s_pu (pu_move rfl) ?_
  refine s_ef (ef_fn (twice_spec p n vg vn (zs.foldl ask1 noAsk) hn) rfl rfl (by repeat (first | exact Split.nil | (apply Split.cons; (repeat (first | with_reducible exact Take.here | apply Take.there)))))) ?_
  rintro v5 L1 ⟨rfl, rfl⟩
  refine swl_app ?_
  rw [twice_no hz]
  refine s_pu (pu_assign rfl) ?_
  refine swl_sub _ (.cons (t := 0) rfl (.cons (t := 3) rfl .nil)) ?_
  refine swl_nil ?_
  refine then_n ?_
  refine swp_seq ?_
  refine swp_region ?_
  refine s_pu (pu_move rfl) ?_
  refine s_ef (ef_fn (forget_spec p n vg vn (zs.foldl ask1 noAsk) hn hg) rfl rfl (by repeat (first | exact Split.nil | (apply Split.cons; (repeat (first | with_reducible exact Take.here | apply Take.there)))))) ?_
  rintro v7 L1 ⟨rfl, rfl⟩
  refine swl_app ?_
  refine swl_sub _ (.cons (t := 3) rfl .nil) ?_
  refine swl_nil ?_
  refine then_n ?_
  refine swp_seq ?_
  refine swp_region ?_
  refine s_pu (pu_move rfl) ?_
  refine s_pu (pu_assign rfl) ?_
  refine swl_sub _ (.cons (t := 2) rfl .nil) ?_
  refine swl_nil ?_
  refine then_n ?_
  refine swp_ret ?_
  exact done_ret [gA p vg vn n noAsk] (.tmp rfl .nil) ⟨rfl, rfl⟩ (by repeat (first | exact Split.nil | (apply Split.cons; (repeat (first | with_reducible exact Take.here | apply Take.there)))))
theorem bspoilt_spec (v : Value) (xs : List Int) (hn : xs.length ≤ 1048576) : Spec Tryd.prog 34 [v] [own 3 1 v xs.length (xs.flatMap (icsk .i64))] (fun _ L => L = []) := by
  refine Spec.of 15 Tryd.func34 rfl rfl rfl ?_
  refine swp_fact (fun m h => own_shape .here h) fun hs => ?_
  have hform : ∃ A cap, v = .slice A xs.length cap := by
    rcases hs with ⟨h1, h2⟩ | ⟨b, cap, h1, _⟩
    · exact ⟨none, 0, by rw [h1, h2]⟩
    · exact ⟨_, _, h1⟩
  refine swp_seq ?_
  refine swp_seq ?_
  refine swp_region ?_
  refine s_pu (pu_move rfl) ?_
  refine s_pu (pu_len_own hform rfl) ?_
  refine s_pu (pu_move rfl) ?_
  refine swl_sub _ (.cons (t := 0) rfl (.cons (t := 4) rfl (.cons (t := 5) rfl .nil))) ?_
  refine swl_nil ?_
  refine then_n ?_
  refine swp_block ?_
  refine swp_loop (ι := Nat × List Int) (fun k env L => env = [(0, v), (4, .int .i64 (xs.length : Nat)), (5, .int .i64 (k.1 : Nat))] ∧ L = [own 3 1 v xs.length (k.2.flatMap (icsk .i64))] ∧ k.1 ≤ xs.length ∧ k.2.length = xs.length) (fun k => xs.length - k.1) (0, xs) ⟨rfl, rfl, Nat.zero_le _, rfl⟩ ?_
  rintro ⟨k, ys⟩ env L ⟨rfl, rfl, hk, hys⟩
  dsimp only at hk hys ⊢
  refine swp_seq ?_
  refine swp_region ?_
  refine s_pu (pu_lss rfl rfl) ?_
  refine swl_sub _ (.cons (t := 0) rfl (.cons (t := 4) rfl (.cons (t := 5) rfl (.cons (t := 6) rfl .nil)))) ?_
  refine swl_nil ?_
  refine then_n ?_
  refine swp_seq ?_
  refine swp_cond (b := _) rfl (fun h6 => ?_) (fun h6 => ?_)
  · skip   -- 6 T
    have h6' : k < xs.length := by have := of_decide_eq_true h6; omega
    obtain ⟨y, hy⟩ : ∃ y, ys[k]? = some y := ⟨_, List.getElem?_eq_getElem (by omega)⟩
    refine swp_own (fun h0 l0 _ => by omega) (fun b1 c1 ex1 hv1 h1 h2 h3 h4 => ?_)
    subst hv1
    refine swp_skip ?_
    refine then_n ?_
    refine swp_seq ?_
    refine swp_block ?_
    refine swp_seq ?_
    refine swp_region ?_
    refine s_pu (pu_move rfl) ?_
    refine s_pu (pu_assign rfl) ?_
    refine swl_sub _ (.cons (t := 0) rfl (.cons (t := 2) rfl (.cons (t := 4) rfl (.cons (t := 5) rfl .nil)))) ?_
    refine swl_nil ?_
    refine then_n ?_
    refine swp_region ?_
    refine s_pu (pu_move rfl) ?_
    refine s_pu (pu_move rfl) ?_
    refine s_pu (pu_indexAddr k rfl rfl (by omega) (by omega) (by omega)) ?_
    refine s_ef0 (ef_storeP rfl rfl rfl (by rw [List.length_append, icells_len']; omega)) ?_
    refine swl_sub _ (.cons (t := 0) rfl (.cons (t := 4) rfl (.cons (t := 5) rfl .nil))) ?_
    have e1 : (ys.flatMap (icsk .i64) ++ ex1).set k (.int .i64 (-3)) = (ys.set k (-3)).flatMap (icsk .i64) ++ ex1 := by
      have hf : ∀ l : List Int, l.flatMap (icsk .i64) = l.map (Value.int .i64) := fun l => by
        induction l with
        | nil => rfl
        | cons a l ih => rw [List.flatMap_cons, List.map_cons, ih]; rfl
      rw [hf, hf, List.set_append_left (h := by rw [List.length_map]; omega), List.map_set]
    rw [e1]
    refine swl_ent (own_close (n := 1) (by rw [icells_len', List.length_set, hys]) h4 h1 h2) ?_
    refine swl_nil ?_
    refine block_n ?_
    refine then_n ?_
    refine swp_region ?_
    refine s_pu (pu_add_as ((k + 1 : Nat) : Int) rfl rfl (by omega) (by omega) (by omega)) ?_
    refine s_pu (pu_move rfl) ?_
    refine swl_sub _ (.cons (t := 0) rfl (.cons (t := 4) rfl (.cons (t := 5) rfl .nil))) ?_
    refine swl_nil ?_
    exact then_n ⟨(k + 1, ys.set k (-3)), ⟨rfl, rfl, h6', by rw [List.length_set, hys]⟩, by show xs.length - (k + 1) < xs.length - k; omega⟩
  · skip   -- 6 F
    refine swp_exit ?_
    refine then_x ?_
    refine then_x ?_
    refine block_hit rfl ?_
    refine then_n ?_
    refine swp_region ?_
    refine s_pu (pu_move rfl) ?_
    refine s_ef (ef_bldS (qs := [(0, _)]) rfl rfl rfl) ?_
    intro b13
    refine s_ef (ef_append_lit (l := xs.length) (m := 1) rfl rfl (by repeat (first | exact Split.nil | (apply Split.cons; (repeat (first | with_reducible exact Take.here | apply Take.there))))) (by simp only [maxLen]; omega) (by omega)) ?_
    rintro v' hv'
    skip
    refine swl_sub _ .nil ?_
    refine swl_nil ?_
    exact done_end [] .nil rfl (by repeat (first | exact Split.nil | (apply Split.cons; (repeat (first | with_reducible exact Take.here | apply Take.there)))))
end SX
namespace SX
open Go Go.Proofs
instance : TVia Tryd.prog 86 "Commits" 63 0 none := ⟨by kernel_rfl⟩
instance : TVia Tryd.prog 86 "Gen" 63 0 none := ⟨by kernel_rfl⟩

/-! a source that asks another one for the parents of each commit just once -/
def rmapOk (g : List (List Int)) (ys : List Nat) (μ : PH) (l : Ents Int) : Prop := ∀ c : Nat, (c ∈ ys → ∃ v, mlook l (c : Int) = some v ∧ Row μ v 1 (rowOf g c).length ((rowOf g c).flatMap (icsk .i64))) ∧ (c ∉ ys → mlook l (c : Int) = none)
theorem rmapOk.le {g : List (List Int)} {ys : List Nat} {μ μ' : PH} {l : Ents Int} (h : rmapOk g ys μ l) (k : Le μ μ') : rmapOk g ys μ' l := fun c => ⟨fun hc => by
  obtain ⟨v, h1, h2⟩ := (h c).1 hc
  exact ⟨v, h1, h2.le k⟩, (h c).2⟩
theorem rmapOk.upd {g : List (List Int)} {ys : List Nat} {μ : PH} {l : Ents Int} (h : rmapOk g ys μ l) (c k : Nat) {v : Value} (hv : Row μ v 1 (rowOf g c).length ((rowOf g c).flatMap (icsk .i64))) : rmapOk g (ys ++ [c]) μ (upd l k (c : Int) v) := fun j => by
  rw [mlook_upd]
  by_cases e : j = c
  · subst e
    rw [if_pos rfl]
    exact ⟨fun _ => ⟨v, rfl, hv⟩, fun h => absurd (List.mem_append_right _ (List.mem_singleton.2 rfl)) h⟩
  · rw [if_neg (fun h => e (by omega))]
    refine ⟨fun hj => (h j).1 ?_, fun hj => (h j).2 fun hm => hj (List.mem_append_left _ hm)⟩
    rcases List.mem_append.1 hj with hj | hj
    · exact hj
    · exact absurd (List.mem_singleton.1 hj) e
def onA (X : Src) (o mb : Nat) (s : X.σ) (ys : List Nat) (μ : PH) : Assn := exA fun k : {k : Ents Int × Nat // rmapOk X.g ys μ k.1} => [X.A s μ, blk o 89 [X.sv, .map (some mb)], mpe mb ikv k.1.1 k.1.2]
theorem onA_close {X : Src} {o mb : Nat} {s : X.σ} {ys : List Nat} {μ : PH} {l : Ents Int} {c : Nat} {L : List Assn} (h : rmapOk X.g ys μ l) : Ent (X.A s μ :: blk o 89 [X.sv, .map (some mb)] :: mpe mb ikv l c :: L) (onA X o mb s ys μ :: L) :=
  ent_ex (F := fun k : {k : Ents Int × Nat // rmapOk X.g ys μ k.1} => [X.A s μ, blk o 89 [X.sv, .map (some mb)], mpe mb ikv k.1.1 k.1.2]) ⟨(l, c), h⟩ (by repeat (first | exact Split.nil | (apply Split.cons; (repeat (first | with_reducible exact Take.here | apply Take.there)))))
theorem onA_mono {X : Src} {o mb : Nat} {s : X.σ} {ys : List Nat} {μ μ' : PH} (h : Le μ μ') : Ent [onA X o mb s ys μ] [onA X o mb s ys μ'] := ent_open fun ⟨⟨l, c⟩, hl⟩ => by
  simp only [List.cons_append, List.nil_append]
  exact (Ent.app (L1 := [X.A s μ]) (L2 := [X.A s μ']) (R := [blk o 89 [X.sv, .map (some mb)], mpe mb ikv l c]) (X.mono h)).trans (onA_close (hl.le h))
theorem once_old (X : Src) (o mb : Nat) (s : X.σ) (ys : List Nat) (μ : PH) (c : Nat) (hc : c ∈ ys) :
    Spec Tryd.prog 65 [.pointer (some ⟨o, 0, none⟩), .int .i64 (c : Nat)] [onA X o mb s ys μ, ro μ] (fun r L => Row μ r 1 (rowOf X.g c).length ((rowOf X.g c).flatMap (icsk .i64)) ∧ L = [onA X o mb s ys μ, ro μ]) := by
  refine Spec.exA' fun ⟨⟨l, k⟩, hl⟩ => ?_
  simp only [List.cons_append, List.nil_append]
  dsimp only at hl ⊢
  obtain ⟨v, hv, hr⟩ := (hl c).1 hc
  refine Spec.ent3 (post := fun r L => r = v ∧ L = [X.A s μ, blk o 89 [X.sv, .map (some mb)], mpe mb ikv l k, ro μ]) ?_ (fun r L ⟨h1, h2⟩ => ⟨_, by rw [h2]; exact onA_close hl, by rw [h1]; exact hr, rfl⟩)
  refine Spec.of 31 Tryd.func65 rfl rfl rfl ?_
  refine swp_seq ?_
  refine swp_region ?_
  refine s_pu (pu_assign rfl) ?_
  refine swl_sub _ (.cons (t := 0) rfl (.cons (t := 1) rfl .nil)) ?_
  refine swl_nil ?_
  refine then_n ?_
  refine swp_seq ?_
  refine swp_region ?_
  refine s_pu (pu_move rfl) ?_
  first | refine s_pu (pu_nilCheck rfl) ?_ | refine s_pu (pu_nilCheck_fn rfl) ?_ | refine s_pu (pu_nilCheck_if rfl) ?_
  first | refine s_pu (pu_fieldAddr0 rfl) ?_ | refine s_pu (pu_fieldAddr rfl) ?_
  refine s_rd (rd_load rfl rfl) ?_
  refine s_pu (pu_move rfl) ?_
  refine s_rd (rd_mlook2E (kv := ikv) (c : Int) hv rfl rfl) ?_
  refine s_pu (pu_move rfl) ?_
  first | refine s_pu (pu_extractL rfl) ?_ | refine s_pu (pu_extract rfl rfl) ?_
  first | refine s_pu (pu_extractL rfl) ?_ | refine s_pu (pu_extract rfl rfl) ?_
  refine s_pu (pu_assign rfl) ?_
  refine s_pu (pu_assign rfl) ?_
  refine swl_sub _ (.cons (t := 0) rfl (.cons (t := 1) rfl (.cons (t := 5) rfl (.cons (t := 6) rfl .nil)))) ?_
  refine swl_nil ?_
  refine then_n ?_
  refine swp_seq ?_
  refine swp_seq ?_
  refine swp_region ?_
  refine s_pu (pu_move rfl) ?_
  refine s_pu (pu_not rfl) ?_
  refine swl_sub _ (.cons (t := 0) rfl (.cons (t := 1) rfl (.cons (t := 5) rfl (.cons (t := 17) rfl .nil)))) ?_
  refine swl_nil ?_
  refine then_n ?_
  refine swp_cond (b := _) rfl (fun h17 => by cases h17) (fun h17 => ?_)
  refine swp_skip ?_
  refine then_n ?_
  refine swp_seq ?_
  refine swp_region ?_
  refine s_pu (pu_move rfl) ?_
  refine s_pu (pu_assign rfl) ?_
  refine swl_sub _ (.cons (t := 4) rfl .nil) ?_
  refine swl_nil ?_
  refine then_n ?_
  refine swp_ret ?_
  exact done_ret [X.A s μ, blk o 89 [X.sv, .map (some mb)], mpe mb ikv l k, ro μ] (.tmp rfl .nil) ⟨rfl, rfl⟩ (by repeat (first | exact Split.nil | (apply Split.cons; (repeat (first | with_reducible exact Take.here | apply Take.there)))))
theorem once_new (X : Src) (o mb : Nat) (s : X.σ) (ys : List Nat) (μ : PH) (c : Nat) (hc : c ∉ ys) (h0 : Le X.μ0 μ) (hn : c < X.g.length) (hok : X.ok s c) :
    Spec Tryd.prog 65 [.pointer (some ⟨o, 0, none⟩), .int .i64 (c : Nat)] [onA X o mb s ys μ, ro μ] (fun r L => ∃ μ', Le μ μ' ∧ Row μ' r 1 (rowOf X.g c).length ((rowOf X.g c).flatMap (icsk .i64)) ∧ L = [onA X o mb (X.step s c) (ys ++ [c]) μ', ro μ']) := by
  refine Spec.exA' fun ⟨⟨l, k⟩, hl⟩ => ?_
  simp only [List.cons_append, List.nil_append]
  dsimp only at hl ⊢
  have hv := (hl c).2 hc
  refine Spec.ent3 (post := fun r L => ∃ μ' k', Le μ μ' ∧ Row μ' r 1 (rowOf X.g c).length ((rowOf X.g c).flatMap (icsk .i64)) ∧ L = [X.A (X.step s c) μ', blk o 89 [X.sv, .map (some mb)], mpe mb ikv (upd l k (c : Int) r) k', ro μ']) ?_ (fun r L ⟨μ', k', h1, h2, h3⟩ => ⟨_, by rw [h3]; exact onA_close ((hl.le h1).upd c k h2), μ', h1, h2, rfl⟩)
  refine Spec.of 31 Tryd.func65 rfl rfl rfl ?_
  refine swp_seq ?_
  refine swp_region ?_
  refine s_pu (pu_assign rfl) ?_
  refine swl_sub _ (.cons (t := 0) rfl (.cons (t := 1) rfl .nil)) ?_
  refine swl_nil ?_
  refine then_n ?_
  refine swp_seq ?_
  refine swp_region ?_
  refine s_pu (pu_move rfl) ?_
  first | refine s_pu (pu_nilCheck rfl) ?_ | refine s_pu (pu_nilCheck_fn rfl) ?_ | refine s_pu (pu_nilCheck_if rfl) ?_
  first | refine s_pu (pu_fieldAddr0 rfl) ?_ | refine s_pu (pu_fieldAddr rfl) ?_
  refine s_rd (rd_load rfl rfl) ?_
  refine s_pu (pu_move rfl) ?_
  refine s_rd (rd_mlook2E (kv := ikv) (c : Int) hv rfl rfl) ?_
  refine s_pu (pu_move rfl) ?_
  first | refine s_pu (pu_extractL rfl) ?_ | refine s_pu (pu_extract rfl rfl) ?_
  first | refine s_pu (pu_extractL rfl) ?_ | refine s_pu (pu_extract rfl rfl) ?_
  refine s_pu (pu_assign rfl) ?_
  refine s_pu (pu_assign rfl) ?_
  refine swl_sub _ (.cons (t := 0) rfl (.cons (t := 1) rfl (.cons (t := 5) rfl (.cons (t := 6) rfl .nil)))) ?_
  refine swl_nil ?_
  refine then_n ?_
  refine swp_seq ?_
  refine swp_seq ?_
  refine swp_region ?_
  refine s_pu (pu_move rfl) ?_
  refine s_pu (pu_not rfl) ?_
  refine swl_sub _ (.cons (t := 0) rfl (.cons (t := 1) rfl (.cons (t := 5) rfl (.cons (t := 17) rfl .nil)))) ?_
  refine swl_nil ?_
  refine then_n ?_
  refine swp_cond (b := _) rfl (fun h17 => ?_) (fun h17 => by cases h17)
  refine swp_seq ?_
  refine swp_region ?_
  refine s_pu (pu_move rfl) ?_
  first | refine s_pu (pu_nilCheck rfl) ?_ | refine s_pu (pu_nilCheck_fn rfl) ?_ | refine s_pu (pu_nilCheck_if rfl) ?_
  first | refine s_pu (pu_fieldAddr0 rfl) ?_ | refine s_pu (pu_fieldAddr rfl) ?_
  refine s_rd (rd_load rfl rfl) ?_
  refine s_pu (pu_move rfl) ?_
  refine s_ef (ef_invS rfl X.hd (X.parents s μ c h0 hn hok) rfl (by repeat (first | exact Split.nil | (apply Split.cons; (repeat (first | with_reducible exact Take.here | apply Take.there)))))) ?_
  rintro v23 L1 ⟨μ1, h1, hr, rfl⟩
  refine swl_app ?_
  refine s_pu (pu_assign rfl) ?_
  refine swl_sub _ (.cons (t := 0) rfl (.cons (t := 1) rfl (.cons (t := 5) rfl .nil))) ?_
  refine swl_nil ?_
  refine then_n ?_
  refine swp_region ?_
  refine s_pu (pu_move rfl) ?_
  first | refine s_pu (pu_nilCheck rfl) ?_ | refine s_pu (pu_nilCheck_fn rfl) ?_ | refine s_pu (pu_nilCheck_if rfl) ?_
  first | refine s_pu (pu_fieldAddr0 rfl) ?_ | refine s_pu (pu_fieldAddr rfl) ?_
  refine s_rd (rd_load rfl rfl) ?_
  refine s_pu (pu_move rfl) ?_
  refine s_pu (pu_move rfl) ?_
  refine s_ef0 (ef_upd (kv := ikv) _ rfl rfl rfl (by repeat (first | exact Split.nil | (apply Split.cons; (repeat (first | with_reducible exact Take.here | apply Take.there)))))) ?_
  refine swl_sub _ (.cons (t := 5) rfl .nil) ?_
  refine swl_nil ?_
  refine then_n ?_
  refine swp_seq ?_
  refine swp_region ?_
  refine s_pu (pu_move rfl) ?_
  refine s_pu (pu_assign rfl) ?_
  refine swl_sub _ (.cons (t := 4) rfl .nil) ?_
  refine swl_nil ?_
  refine then_n ?_
  refine swp_ret ?_
  exact done_ret [X.A (X.step s c) μ1, blk o 89 [X.sv, .map (some mb)], mpe mb ikv (upd l k (c : Int) v23) _, ro μ1] (.tmp rfl .nil) ⟨μ1, _, h1, hr, rfl⟩ (by repeat (first | exact Split.nil | (apply Split.cons; (repeat (first | with_reducible exact Take.here | apply Take.there)))))
def onStep (X : Src) (s : X.σ × List Nat) (c : Nat) : X.σ × List Nat := if c ∈ s.2 then s else (X.step s.1 c, s.2 ++ [c])
/-- the source -/
def onSrc (X : Src) (o mb : Nat) (hd : X.d ≤ 6) : Src where
  t := 86
  v := .pointer (some ⟨o, 0, none⟩)
  d := X.d + 1
  hd := by omega
  g := X.g
  hg := X.hg
  hn := X.hn
  σ := X.σ × List Nat
  A := fun s μ => onA X o mb s.1 s.2 μ
  mono := fun h => onA_mono h
  ok := fun s c => c ∈ s.2 ∨ X.ok s.1 c
  step := onStep X
  μ0 := X.μ0
  commits := fun s μ => InvS.exA fun ⟨⟨l, k⟩, hl⟩ => InvS.ent (InvS.via (pre := [X.A s.1 μ]) (R := [blk o 89 [X.sv, .map (some mb)], mpe mb ikv l k]) (show Ld Tryd.prog [X.A s.1 μ, blk o 89 [X.sv, .map (some mb)], mpe mb ikv l k] 63 ⟨o, 0, none⟩ (.iface X.t X.v) from ld_one rfl) (X.commits s.1 μ)) (Ent.refl _) (fun r L ⟨L', ⟨h1, h2⟩, h3⟩ => ⟨_, by rw [h3, h2]; exact onA_close hl, h1, rfl⟩)
  parents := fun s μ c h0 hn hok => by
    by_cases hc : c ∈ s.2
    · have e : onStep X s c = s := if_pos hc
      rw [e]
      exact InvS.more (InvS.of (Spec.ent3 (once_old X o mb s.1 s.2 μ c hc) fun r L ⟨h1, h2⟩ => ⟨L, Ent.refl _, μ, Le.refl _, h1, h2⟩)) (Nat.zero_le _)
    · have e : onStep X s c = (X.step s.1 c, s.2 ++ [c]) := if_neg hc
      rw [e]
      exact InvS.more (InvS.of (once_new X o mb s.1 s.2 μ c hc h0 hn (hok.resolve_left hc))) (Nat.zero_le _)
/-- what was asked, without those asked before -/
def onNew : List Nat → List Nat → List Nat
  | _, [] => []
  | ys, c :: l => if c ∈ ys then onNew ys l else c :: onNew (ys ++ [c]) l
theorem on_fold {X : Src} : ∀ (l : List Nat) (s : X.σ) (ys : List Nat), l.foldl (onStep X) (s, ys) = ((onNew ys l).foldl X.step s, ys ++ onNew ys l)
  | [], s, ys => by simp [onNew]
  | c :: l, s, ys => by
    rw [List.foldl_cons]
    show l.foldl (onStep X) (if c ∈ ys then (s, ys) else (X.step s c, ys ++ [c])) = _
    unfold onNew
    by_cases hc : c ∈ ys
    · rw [if_pos hc, if_pos hc]; exact on_fold l s ys
    · rw [if_neg hc, if_neg hc, on_fold l _ _, List.foldl_cons, List.append_assoc]; rfl
theorem onNew_spec : ∀ (l ys : List Nat), ys.Nodup → (ys ++ onNew ys l).Nodup ∧ ∀ c, c ∈ onNew ys l → c ∈ l
  | [], ys, h => ⟨by rw [onNew, List.append_nil]; exact h, fun c hc => by rw [onNew] at hc; cases hc⟩
  | c :: l, ys, h => by
    unfold onNew
    by_cases hc : c ∈ ys
    · rw [if_pos hc]
      obtain ⟨h1, h2⟩ := onNew_spec l ys h
      exact ⟨h1, fun x hx => List.mem_cons_of_mem _ (h2 x hx)⟩
    · rw [if_neg hc]
      have h3 : (ys ++ [c]).Nodup := by
        rw [List.nodup_append]
        exact ⟨h, by simp, fun a ha b hb e => by obtain rfl := List.mem_singleton.1 hb; subst e; exact hc ha⟩
      obtain ⟨h1, h2⟩ := onNew_spec l (ys ++ [c]) h3
      refine ⟨by rwa [List.append_assoc] at h1, fun x hx => ?_⟩
      rcases List.mem_cons.1 hx with rfl | hx
      · exact List.mem_cons_self ..
      · exact List.mem_cons_of_mem _ (h2 x hx)
/-- it may be asked as often as one likes, as far as it has been asked for each commit once only -/
def onOk (X : Src) (s0 s : X.σ) (ys : List Nat) : Prop := askedIn X.n ys ∧ s = ys.foldl X.step s0
theorem on_fine {X : Src} {o mb : Nat} {hd : X.d ≤ 6} {s0 s : X.σ} {ys : List Nat} (hf : X.fine s0) (h : onOk X s0 s ys) : (onSrc X o mb hd).fine (s, ys) := fun l c hl hc hlt hcn => by
  show (fun s : X.σ × List Nat => c ∈ s.2 ∨ X.ok s.1 c) (l.foldl (onStep X) (s, ys))
  rw [on_fold]
  show c ∈ ys ++ onNew ys l ∨ X.ok ((onNew ys l).foldl X.step s) c
  by_cases e : c ∈ ys ++ onNew ys l
  · exact .inl e
  · right
    obtain ⟨h1, h2⟩ := onNew_spec l ys h.1.1
    rw [h.2, ← List.foldl_append]
    refine hf _ c h1 e (fun y hy => ?_) hcn
    rcases List.mem_append.1 hy with hy | hy
    · exact h.1.2 y hy
    · exact hlt y (h2 y hy)
theorem on_step {X : Src} {s0 s : X.σ} {ys : List Nat} (h : onOk X s0 s ys) (l : List Nat) (hl : ∀ y ∈ l, y < X.n) : onOk X s0 ((onNew ys l).foldl X.step s) (ys ++ onNew ys l) := by
  obtain ⟨h1, h2⟩ := onNew_spec l ys h.1.1
  refine ⟨⟨h1, fun y hy => ?_⟩, by rw [h.2, ← List.foldl_append]⟩
  rcases List.mem_append.1 hy with hy | hy
  · exact h.1.2 y hy
  · exact hl y (h2 y hy)
end SX
namespace SX
open Go Go.Proofs

set_option maxHeartbeats 1000000 in
theorem breached_spec (X : Src) (s0 : X.σ) (μ : PH) (c : Nat) (hc : c < X.g.length) (h0 : Le X.μ0 μ) (hf : X.fine s0) :
    Spec Tryd.prog 62 [X.sv, .int .i64 (c : Nat)] [X.A s0 μ, ro μ] (fun r L => ∃ p μ', Le μ μ' ∧ r = .pointer (some ⟨p, 0, none⟩) ∧ L = [mset p X.n (up X.g c), X.at_ s0 μ' (downL X.g [(c : Int)])]) := by
  have hn := X.hn
  have hok := hf.down [(c : Int)]
  have hup : (fun j => decide (j ∈ downL X.g [(c : Int)])) = up X.g c := funext fun j => by
    rw [down_any X.hg (fun p hp => by obtain rfl := List.mem_singleton.1 hp; omega), anyUp_one X.hg hc]
  have hsp := downL_spec X.hg [(c : Int)]
  refine Spec.of 19 Tryd.func62 rfl rfl rfl ?_
  refine swp_seq ?_
  refine swp_region ?_
  refine s_pu (pu_assign rfl) ?_
  refine swl_sub _ (.cons (t := 0) rfl (.cons (t := 1) rfl .nil)) ?_
  refine swl_nil ?_
  refine then_n ?_
  refine swp_seq ?_
  refine swp_region ?_
  refine s_pu (pu_move rfl) ?_
  refine s_ef (ef_fn (bcommits_spec X s0 μ) rfl rfl (by repeat (first | exact Split.nil | (apply Split.cons; (repeat (first | with_reducible exact Take.here | apply Take.there)))))) ?_
  rintro v8 L1 ⟨rfl, rfl⟩
  refine swl_app ?_
  refine s_ef (ef_fn (new_m (X.n : Nat)) rfl rfl (by repeat (first | exact Split.nil | (apply Split.cons; (repeat (first | with_reducible exact Take.here | apply Take.there)))))) ?_
  rintro v9 L1 ⟨p, rfl, rfl⟩
  refine swl_app ?_
  refine s_ef (ef_alloc) ?_
  intro b5
  refine s_ef0 (ef_store rfl rfl rfl) ?_
  refine swl_sub _ (.cons (t := 0) rfl (.cons (t := 1) rfl (.cons (t := 5) rfl .nil))) ?_
  refine swl_nil ?_
  refine then_n ?_
  refine swp_seq ?_
  refine swp_seq ?_
  refine swp_region ?_
  refine s_pu (pu_move rfl) ?_
  refine s_pu (pu_move rfl) ?_
  refine s_ef (ef_bldS (qs := [(0, _)]) rfl rfl rfl) ?_
  intro b12
  refine swl_share (b := b12) (μ := μ) (by repeat (first | exact Split.nil | (apply Split.cons; (repeat (first | with_reducible exact Take.here | apply Take.there))))) fun μ1 h1 k1 => ?_
  refine swl_ent (X.up (s := s0) h1 (by repeat (first | exact Split.nil | (apply Split.cons; (repeat (first | with_reducible exact Take.here | apply Take.there)))))) ?_
  have r1 := row_of_blk (n := 1) (l := 1) (cs := [(c : Int)].flatMap (icsk .i64)) k1 (by rfl) (by decide)
  refine s_ef (ef_fn (down_spec X.sv μ1 _ [(c : Int)] r1 (by simp) X.t X.v rfl) rfl rfl (by repeat (first | exact Split.nil | (apply Split.cons; (repeat (first | with_reducible exact Take.here | apply Take.there)))))) ?_
  rintro v13 L1 ⟨μ2, c1, c2, v', rfl, h2, hc1, hc2, hr, rfl⟩
  refine swl_app ?_
  refine swl_sub _ (.cons (t := 5) rfl (.cons (t := 13) rfl .nil)) ?_
  rw [clampM_id hn]
  refine swl_ent (X.up (s := s0) h2 (by repeat (first | exact Split.nil | (apply Split.cons; (repeat (first | with_reducible exact Take.here | apply Take.there)))))) ?_
  refine swl_nil ?_
  refine then_n ?_
  refine swp_block ?_
  refine swp_rangeG (down_iter X s0 μ2 c1 c2 v' [(c : Int)] hc1 hc2 hr (h0.trans (h1.trans h2)) hok) (B := [blk b5 69 [.pointer (some ⟨p, 0, none⟩)], mset p X.n (fun _ => false)]) (fun pre => star [blk b5 69 [.pointer (some ⟨p, 0, none⟩)], mset p X.n (fun j => decide (j ∈ pre))]) (fun _ => False) (fun _ _ => False) rfl rfl (fun _ => rfl) (Split.ent (by repeat (first | exact Split.nil | (apply Split.cons; (repeat (first | with_reducible exact Take.here | apply Take.there)))))) ?_ ?_ ?_ ?_ ?_
  · rw [show (fun _ : Nat => false) = (fun j => decide (j ∈ ([] : List Nat))) from funext fun j => by simp]
    exact star_close1
  · skip
    rintro ln pre x ⟨post, hpost⟩
    have hx : x < X.g.length := hsp.2.1 x (by rw [hpost]; simp)
    refine swp_ent star2 ?_
    refine swp_ent (star_ent (K := [blk b5 69 [.pointer (some ⟨p, 0, none⟩)], mset p X.n (fun j => decide (j ∈ pre))]) (L := [X.at_ s0 μ2 pre])) ?_
    simp only [List.cons_append, List.nil_append]
    refine swp_region ?_
    refine s_pu (pu_assign rfl) ?_
    refine swl_sub _ (.cons (t := 5) rfl (.cons (t := 6) rfl .nil)) ?_
    refine swl_nil ?_
    refine then_n ?_
    refine swp_block ?_
    refine swp_region ?_
    refine s_rd (rd_load rfl rfl) ?_
    refine s_pu (pu_move rfl) ?_
    refine s_ef (ef_fn (put_w p X.n (fun j => decide (j ∈ pre)) (x : Nat)) rfl rfl (by repeat (first | exact Split.nil | (apply Split.cons; (repeat (first | with_reducible exact Take.here | apply Take.there)))))) ?_
    rintro v17 L1 ⟨rfl, rfl⟩
    refine swl_app ?_
    refine swl_sub _ .nil ?_
    rw [putS_in hx]
    refine swl_nil ?_
    refine block_n ?_
    refine rnd_n ?_
    refine (Split.ent' (K := [blk b5 69 [.pointer (some ⟨p, 0, none⟩)], mset p X.n (fun j => decide (j ∈ pre ++ [x])), X.at_ s0 μ2 pre]) (by repeat (first | exact Split.nil | (apply Split.cons; (repeat (first | with_reducible exact Take.here | apply Take.there)))))).trans ?_
    exact (star_close (K := [blk b5 69 [.pointer (some ⟨p, 0, none⟩)], mset p X.n (fun j => decide (j ∈ pre ++ [x]))]) (L := [X.at_ s0 μ2 pre])).trans star_close1
  · skip
    rintro ys rfl
    refine block_n ?_
    refine then_n ?_
    refine swp_seq ?_
    refine swp_ent (star_ent (K := [blk b5 69 [.pointer (some ⟨p, 0, none⟩)], mset p X.n (fun j => decide (j ∈ downL X.g [(c : Int)]))]) (L := [X.at_ s0 μ2 (downL X.g [(c : Int)])])) ?_
    simp only [List.cons_append, List.nil_append]
    rw [hup]
    refine swp_region ?_
    refine s_rd (rd_load rfl rfl) ?_
    refine s_pu (pu_assign rfl) ?_
    refine swl_sub _ (.cons (t := 4) rfl .nil) ?_
    refine swl_nil ?_
    refine then_n ?_
    refine swp_ret ?_
    exact done_ret [mset p X.n (up X.g c), X.at_ s0 μ2 (downL X.g [(c : Int)])] (.tmp rfl .nil) ⟨p, μ2, h1.trans h2, rfl, rfl⟩ (by repeat (first | exact Split.nil | (apply Split.cons; (repeat (first | with_reducible exact Take.here | apply Take.there)))))
  · exact swp_fact (p := False) (fun m h => by obtain ⟨_, _, h, _⟩ := h; exact h) False.elim
  · exact fun i => swp_fact (p := False) (fun m h => by obtain ⟨_, _, h, _⟩ := h; exact h) False.elim
theorem on_at {X : Src} {o mb : Nat} {hd : X.d ≤ 6} (s : X.σ) (ys : List Nat) (μ : PH) (D : List Nat) : (onSrc X o mb hd).at_ (s, ys) μ D = exA fun m : {m : PH // Le μ m} => [onA X o mb ((onNew ys D).foldl X.step s) (ys ++ onNew ys D) m.1, ro m.1] := by
  unfold Src.at_
  congr 1
  funext m
  show [onA X o mb (D.foldl (onStep X) (s, ys)).1 (D.foldl (onStep X) (s, ys)).2 m.1, ro m.1] = _
  rw [on_fold]
theorem onA_src {X : Src} {o mb : Nat} {s : X.σ} {ys : List Nat} {μ : PH} {L : List Assn} : Ent (onA X o mb s ys μ :: L) (X.A s μ :: L) := ent_open fun ⟨⟨l, c⟩, hl⟩ => by
  simp only [List.cons_append, List.nil_append]
  exact Ent.cons (Ent.drop.trans Ent.drop)
theorem rmapOk_nil (g : List (List Int)) (μ : PH) : rmapOk g [] μ [] := fun c => ⟨fun h => (by cases h), fun _ => rfl⟩
theorem onOk_nil (X : Src) (s0 : X.σ) : onOk X s0 s0 [] := ⟨⟨List.nodup_nil, fun y hy => by cases hy⟩, rfl⟩
/-- all that is reached from a commit, by a source that asks once -/
theorem oreach_spec (X : Src) (s0 s : X.σ) (ys : List Nat) (μ : PH) (o mb c : Nat) (hd : X.d ≤ 6) (hc : c < X.g.length) (h0 : Le X.μ0 μ) (hf : X.fine s0) (hk : onOk X s0 s ys) :
    Spec Tryd.prog 62 [.iface 86 (.pointer (some ⟨o, 0, none⟩)), .int .i64 (c : Nat)] [onA X o mb s ys μ, ro μ]
      (fun r L => ∃ p μ' s' ys', Le μ μ' ∧ onOk X s0 s' ys' ∧ r = .pointer (some ⟨p, 0, none⟩) ∧ L = [onA X o mb s' ys' μ', ro μ', mset p X.n (up X.g c)]) := by
  refine Spec.postEx (breached_spec (onSrc X o mb hd) (s, ys) μ c hc h0 (on_fine hf hk)) fun r L ⟨p, μ', h1, h2, h3⟩ => ?_
  rw [on_at] at h3
  refine ⟨{m : PH // Le μ' m}, fun m => [onA X o mb ((onNew ys (downL X.g [(c : Int)])).foldl X.step s) (ys ++ onNew ys (downL X.g [(c : Int)])) m.1, ro m.1], [mset p X.n (up X.g c)], by rw [h3]; exact Ent.swap, fun ⟨m, hm⟩ => ⟨p, m, _, _, h1.trans hm, on_step hk _ (fun y hy => (downL_spec X.hg [(c : Int)]).2.1 y hy), h2, rfl⟩⟩
theorem opar_spec (X : Src) (s0 s : X.σ) (ys : List Nat) (μ : PH) (o mb c : Nat) (hc : c < X.g.length) (h0 : Le X.μ0 μ) (hf : X.fine s0) (hk : onOk X s0 s ys) :
    Spec Tryd.prog 65 [.pointer (some ⟨o, 0, none⟩), .int .i64 (c : Nat)] [onA X o mb s ys μ, ro μ]
      (fun r L => ∃ μ' s' ys', Le μ μ' ∧ onOk X s0 s' ys' ∧ Row μ' r 1 (rowOf X.g c).length ((rowOf X.g c).flatMap (icsk .i64)) ∧ L = [onA X o mb s' ys' μ', ro μ']) := by
  by_cases e : c ∈ ys
  · exact Spec.ent3 (once_old X o mb s ys μ c e) fun r L ⟨h1, h2⟩ => ⟨L, Ent.refl _, μ, s, ys, Le.refl _, hk, h1, h2⟩
  · have hok : X.ok s c := by rw [hk.2]; exact hf ys c hk.1.1 e (fun y hy => hk.1.2 y hy) hc
    have hst := on_step hk [c] (fun y hy => by obtain rfl := List.mem_singleton.1 hy; exact hc)
    have e1 : onNew ys [c] = [c] := by unfold onNew; rw [if_neg e]; rfl
    rw [e1] at hst
    exact Spec.ent3 (once_new X o mb s ys μ c e h0 hc hok) fun r L ⟨μ', h1, h2, h3⟩ => ⟨L, Ent.refl _, μ', _, _, h1, hst, h2, h3⟩
def manyS (g : List (List Int)) (xs : List Int) : Nat → Bool := fun j => xs.all fun c => up g c.toNat j
def manyE (g : List (List Int)) (xs : List Int) : Int := if xs.length = 0 then 1 else askedE g.length [xs]
def manyA (g : List (List Int)) (xs : List Int) : List Int := if manyE g xs = 0 then elsTo g.length (bestT g (manyS g xs) g.length) else []
theorem manyS_out {g : List (List Int)} (hg : Good g) {xs : List Int} (h0 : xs ≠ []) (hx : ∀ p ∈ xs, 0 ≤ p ∧ p < g.length) (j : Nat) (hj : g.length ≤ j) : manyS g xs j = false := by
  cases xs with
  | nil => exact absurd rfl h0
  | cons c l =>
    unfold manyS
    have hc := hx c (List.mem_cons_self ..)
    cases h : up g c.toNat j with
    | false => rw [List.all_cons, h]; rfl
    | true => have := up_le hg h; omega
/-- in, without the parents of some -/
def dropP (g : List (List Int)) (S : Nat → Bool) (l : List Int) : Nat → Bool := fun j => S j && !(l.any fun c => decide ((j : Int) ∈ rowOf g c.toNat))
theorem dropP_best (g : List (List Int)) (S : Nat → Bool) : ∀ j, dropP g S (elsTo g.length S) j = bestT g S g.length j := fun j => by
  unfold dropP bestT
  congr 2
  rw [Bool.eq_iff_iff, List.any_eq_true, List.any_eq_true]
  constructor
  · rintro ⟨c, hc, h⟩
    obtain ⟨k, rfl, hk, hS⟩ := elsTo_mem.1 hc
    rw [Int.toNat_natCast] at h
    exact ⟨k, List.mem_range.2 hk, by rw [hS, h]; rfl⟩
  · rintro ⟨y, hy, h⟩
    simp only [Bool.and_eq_true] at h
    exact ⟨(y : Int), elsTo_mem.2 ⟨y, rfl, List.mem_range.1 hy, h.1⟩, by rw [Int.toNat_natCast]; exact h.2⟩
theorem row_tail {μ : PH} {v : Value} {xs : List Int} (hv : Row μ v 1 xs.length (xs.flatMap (icsk .i64))) (h : 1 ≤ xs.length) :
    ∃ v', Row μ v' 1 (xs.drop 1).length ((xs.drop 1).flatMap (icsk .i64)) ∧ ∀ (env : Env) (x : Operand), evalE env x = some v → Pu Tryd.prog env (.slice 31 x (some (.const (.int .i64 1))) none none) v' := by
  obtain ⟨v', hr, hp⟩ := Row.lo (P := Tryd.prog) (t := 31) hv 1 h
  refine ⟨v', ?_, fun env x hx => hp env x _ .i64 1 hx rfl rfl⟩
  rw [List.length_drop]
  have e : (xs.flatMap (icsk .i64)).drop (1 * 1) = (xs.drop 1).flatMap (icsk .i64) := by
    cases xs with
    | nil => rfl
    | cons c l => rw [List.flatMap_cons]; rfl
  rwa [e] at hr
set_option maxHeartbeats 4000000 in
theorem many_spec (X : Src) (s0 : X.σ) (μ : PH) (v : Value) (xs : List Int) (hd : X.d ≤ 6) (hT : RowAt μ 0 0 tabV) (hv : Row μ v 1 xs.length (xs.flatMap (icsk .i64))) (h0 : Le X.μ0 μ) (hf : X.fine s0) :
    Spec Tryd.prog 35 [X.sv, v] [X.A s0 μ, ro μ] (fun r L => ∃ lv zs μ', askedIn X.n zs ∧ Le μ μ' ∧ r = .tuple #[lv, .int .i64 (manyE X.g xs)] ∧ L = [own 3 1 lv (manyA X.g xs).length ((manyA X.g xs).flatMap (icsk .i64)), X.A (zs.foldl X.step s0) μ', ro μ']) := by
  have hn := X.hn
  have hXn : X.n = X.g.length := rfl
  have hvs := hv.small
  obtain ⟨A1, c1, rfl⟩ := hv.sl
  refine Spec.of 78 Tryd.func35 rfl rfl rfl ?_
  refine swp_seq ?_
  refine swp_region ?_
  refine s_pu (pu_assign rfl) ?_
  refine s_pu (pu_assign rfl) ?_
  refine swl_sub _ (.cons (t := 0) rfl (.cons (t := 1) rfl .nil)) ?_
  refine swl_nil ?_
  refine then_n ?_
  refine swp_seq ?_
  refine swp_seq ?_
  refine swp_region ?_
  refine s_pu (pu_move rfl) ?_
  refine s_pu (pu_if_eq_nil rfl rfl) ?_
  refine s_pu (pu_move rfl) ?_
  refine s_split 18 rfl (fun h18 => by cases h18) (fun h18 => ?_)
  refine s_on rfl rfl ?_
  refine s_pu (pu_move rfl) ?_
  refine s_on rfl rfl ?_
  refine s_pu (pu_len rfl) ?_
  refine s_on rfl rfl ?_
  refine s_pu (pu_eql rfl rfl) ?_
  first | refine s_pu (pu_pick_t rfl rfl) ?_ | refine s_pu (pu_pick_f rfl rfl) ?_
  refine swl_sub _ (.cons (t := 0) rfl (.cons (t := 1) rfl (.cons (t := 22) rfl .nil))) ?_
  refine swl_nil ?_
  refine then_n ?_
  refine swp_cond (b := _) rfl (fun h22 => ?_) (fun h22 => ?_)
  · skip   -- 22 T
    have hl0 : xs.length = 0 := by have := of_decide_eq_true h22; omega
    have he : manyE X.g xs = 1 := if_pos hl0
    refine swp_seq ?_
    refine swp_region ?_
    refine s_pu (pu_assign rfl) ?_
    refine s_pu (pu_assign rfl) ?_
    refine swl_sub _ (.cons (t := 4) rfl (.cons (t := 5) rfl .nil)) ?_
    refine swl_nil ?_
    refine then_n ?_
    refine swp_ret ?_
    refine then_r ?_
    refine done_retE [own 3 1 (.slice none 0 0) (manyA X.g xs).length ((manyA X.g xs).flatMap (icsk .i64)), X.A s0 μ, ro μ] (.tmp rfl (.tmp rfl .nil)) ⟨_, [], μ, ⟨List.nodup_nil, fun y hy => by cases hy⟩, Le.refl _, by rw [he]; rfl, rfl⟩ ?_
    rw [manyA, if_neg (by rw [he]; decide)]
    exact (Split.ent' (K := [X.A s0 μ, ro μ]) (by repeat (first | exact Split.nil | (apply Split.cons; (repeat (first | with_reducible exact Take.here | apply Take.there)))))).trans own_nil_ent
  · skip   -- 22 F
    have hl0 : xs.length ≠ 0 := by have := of_decide_eq_false h22; omega
    have hE : manyE X.g xs = askedE X.g.length [xs] := if_neg hl0
    refine swp_skip ?_
    refine then_n ?_
    refine swp_seq ?_
    refine swp_seq ?_
    refine swp_region ?_
    refine s_pu (pu_move rfl) ?_
    refine s_pu (pu_move rfl) ?_
    refine s_ef (ef_bldS (qs := [(0, _)]) rfl rfl rfl) ?_
    intro b25
    refine swl_share (b := b25) (μ := μ) (by repeat (first | exact Split.nil | (apply Split.cons; (repeat (first | with_reducible exact Take.here | apply Take.there))))) fun μ1 h1 k1 => ?_
    refine swl_ent (X.up (s := s0) h1 (by repeat (first | exact Split.nil | (apply Split.cons; (repeat (first | with_reducible exact Take.here | apply Take.there)))))) ?_
    have hG : Graph μ1 (.slice (some ⟨b25, 0, none⟩) 1 1) [(.slice A1 xs.length c1, xs)] := ⟨row_of_blk k1 (by rfl) (by decide), fun x hx => by obtain rfl := List.mem_singleton.1 hx; exact hv.le h1⟩
    refine s_ef (ef_fn (basked_spec X s0 μ1 _ _ hG) rfl rfl (by repeat (first | exact Split.nil | (apply Split.cons; (repeat (first | with_reducible exact Take.here | apply Take.there)))))) ?_
    rintro v26 L1 ⟨rfl, rfl⟩
    refine swl_app ?_
    rw [show askedE X.n (nums [(Value.slice A1 xs.length c1, xs)]) = askedE X.g.length [xs] from rfl, ← hE]
    refine s_pu (pu_assign rfl) ?_
    refine swl_sub _ (.cons (t := 0) rfl (.cons (t := 1) rfl (.cons (t := 6) rfl .nil))) ?_
    refine swl_nil ?_
    refine then_n ?_
    refine swp_seq ?_
    refine swp_region ?_
    refine s_pu (pu_move rfl) ?_
    refine s_pu (pu_neq rfl rfl) ?_
    refine swl_sub _ (.cons (t := 0) rfl (.cons (t := 1) rfl (.cons (t := 6) rfl (.cons (t := 28) rfl .nil)))) ?_
    refine swl_nil ?_
    refine then_n ?_
    refine swp_cond (b := _) rfl (fun h28 => ?_) (fun h28 => ?_)
    · skip   -- 28 T
      have he : manyE X.g xs ≠ 0 := by simpa using h28
      refine swp_seq ?_
      refine swp_region ?_
      refine s_pu (pu_move rfl) ?_
      refine s_pu (pu_assign rfl) ?_
      refine s_pu (pu_assign rfl) ?_
      refine swl_sub _ (.cons (t := 4) rfl (.cons (t := 5) rfl .nil)) ?_
      refine swl_nil ?_
      refine then_n ?_
      refine swp_ret ?_
      refine then_r ?_
      refine done_retE [own 3 1 (.slice none 0 0) (manyA X.g xs).length ((manyA X.g xs).flatMap (icsk .i64)), X.A s0 μ1, ro μ1] (.tmp rfl (.tmp rfl .nil)) ⟨_, [], μ1, ⟨List.nodup_nil, fun y hy => by cases hy⟩, h1, rfl, rfl⟩ ?_
      rw [manyA, if_neg he]
      exact (Split.ent' (K := [X.A s0 μ1, ro μ1]) (by repeat (first | exact Split.nil | (apply Split.cons; (repeat (first | with_reducible exact Take.here | apply Take.there)))))).trans own_nil_ent
    · skip   -- 28 F
      have he : manyE X.g xs = 0 := by simpa using h28
      have hx : ∀ p ∈ xs, 0 ≤ p ∧ p < X.g.length := askedE_in (by rw [← hE]; exact he) (by simp)
      have hne : xs ≠ [] := fun e => hl0 (by rw [e]; rfl)
      obtain ⟨c0, hc0⟩ : ∃ c, xs[0]? = some c := ⟨_, List.getElem?_eq_getElem (by omega)⟩
      obtain ⟨pb0, po0, pc0, hpv0, hpc0⟩ := (hv.le h1).at_ hc0
      have hcr0 := hx c0 (List.mem_of_getElem? hc0)
      obtain ⟨c0, rfl⟩ : ∃ k : Nat, c0 = k := ⟨c0.toNat, by omega⟩
      obtain ⟨vt, hrt, hst⟩ := row_tail hv (by omega)
      have hdl := hrt.small
      refine swp_skip ?_
      refine then_n ?_
      refine swp_seq ?_
      refine swp_region ?_
      refine s_pu (pu_move rfl) ?_
      refine s_ef (ef_makeMap (kv := ikv)) ?_
      intro b31
      refine s_pu (pu_bld (qs := [(0, _), (1, _)]) rfl) ?_
      refine s_ef (ef_box rfl rfl) ?_
      intro b33
      refine s_pu (pu_assign rfl) ?_
      refine swl_sub _ (.cons (t := 1) rfl (.cons (t := 7) rfl .nil)) ?_
      refine swl_ent (Split.ent' (K := [X.A s0 μ1, blk b33 89 [X.sv, .map (some b31)], mpe b31 ikv [] 0, ro μ1]) (by repeat (first | exact Split.nil | (apply Split.cons; (repeat (first | with_reducible exact Take.here | apply Take.there)))))) ?_
      refine swl_ent (onA_close (rmapOk_nil X.g μ1)) ?_
      refine swl_nil ?_
      refine then_n ?_
      refine swp_seq ?_
      refine swp_region ?_
      refine s_pu (pu_move rfl) ?_
      refine s_pu (pu_iface rfl) ?_
      refine s_pu (pu_move rfl) ?_
      refine s_pu (pu_indexAddr (po0 + 0 * 1) (congrArg some hpv0) rfl (by omega) (by omega) rfl) ?_
      refine s_rd (rd_ro rfl hpc0) ?_
      refine s_ef (ef_fn (oreach_spec X s0 s0 [] μ1 b33 b31 c0 hd (by omega) (h0.trans h1) hf (onOk_nil X s0)) rfl rfl (by repeat (first | exact Split.nil | (apply Split.cons; (repeat (first | with_reducible exact Take.here | apply Take.there)))))) ?_
      rintro v39 L1 ⟨p0, μ2, s2, ys2, h2, hk2, rfl, rfl⟩
      refine swl_app ?_
      refine s_pu (pu_assign rfl) ?_
      refine swl_sub _ (.cons (t := 1) rfl (.cons (t := 7) rfl (.cons (t := 8) rfl .nil))) ?_
      refine swl_nil ?_
      refine then_n ?_
      refine swp_seq ?_
      refine swp_seq ?_
      refine swp_region ?_
      refine s_pu (pu_move rfl) ?_
      refine s_pu (hst _ _ rfl) ?_
      refine s_pu (pu_len_row hrt rfl) ?_
      refine s_pu (pu_move rfl) ?_
      refine swl_sub _ (.cons (t := 7) rfl (.cons (t := 8) rfl (.cons (t := 41) rfl (.cons (t := 42) rfl (.cons (t := 43) rfl .nil))))) ?_
      refine swl_nil ?_
      refine then_n ?_
      refine swp_block ?_
      have hS1 : up X.g c0 = manyS X.g (xs.take (0 + 1)) := funext fun j => by
        rw [List.take_add_one, hc0]
        unfold manyS; simp
      rw [hS1]
      refine swp_sub _ (.cons (t := 7) rfl (.cons (t := 8) rfl (.cons (t := 41) rfl (.cons (t := 42) rfl (.cons (t := 43) rfl .nil))))) ?_
      refine swp_loop (ι := Nat × PH × X.σ × List Nat) (fun k env L => env = [(7, .pointer (some ⟨b33, 0, none⟩)), (8, .pointer (some ⟨p0, 0, none⟩)), (41, vt), (42, .int .i64 ((xs.drop 1).length : Nat)), (43, .int .i64 (k.1 : Nat))]
        ∧ Ent L [onA X b33 b31 k.2.2.1 k.2.2.2 k.2.1, ro k.2.1, mset p0 X.n (manyS X.g (xs.take (k.1 + 1)))] ∧ k.1 ≤ (xs.drop 1).length ∧ Le μ1 k.2.1 ∧ onOk X s0 k.2.2.1 k.2.2.2) (fun k => (xs.drop 1).length - k.1) (0, μ2, s2, ys2) ⟨rfl, Split.ent' (by repeat (first | exact Split.nil | (apply Split.cons; (repeat (first | with_reducible exact Take.here | apply Take.there))))), Nat.zero_le _, h2, hk2⟩ ?_
      rintro ⟨i, μi, si, yi⟩ env L ⟨rfl, hL, hi, hli, hki⟩
      dsimp only at hL hi hli hki ⊢
      refine swp_ent hL ?_
      refine swp_seq ?_
      refine swp_region ?_
      refine s_pu (pu_lss rfl rfl) ?_
      refine swl_sub _ (.cons (t := 7) rfl (.cons (t := 8) rfl (.cons (t := 41) rfl (.cons (t := 42) rfl (.cons (t := 43) rfl (.cons (t := 44) rfl .nil)))))) ?_
      refine swl_nil ?_
      refine then_n ?_
      refine swp_seq ?_
      refine swp_cond (b := _) rfl (fun h44 => ?_) (fun h44 => ?_)
      · skip   -- 44 T
        have h44' : i < (xs.drop 1).length := by have := of_decide_eq_true h44; omega
        obtain ⟨c, hc⟩ : ∃ c, (xs.drop 1)[i]? = some c := ⟨_, List.getElem?_eq_getElem h44'⟩
        have hc' : xs[i + 1]? = some c := by rw [List.getElem?_drop] at hc; rwa [Nat.add_comm] at hc
        obtain ⟨pb, po, pc, hpv, hpc⟩ := (hrt.le (h1.trans hli)).at_ hc
        have hcr := hx c (List.mem_of_getElem? hc')
        obtain ⟨c, rfl⟩ : ∃ k : Nat, c = k := ⟨c.toNat, by omega⟩
        have hS2 : (fun k => decide (k < X.n) && (manyS X.g (xs.take (i + 1)) k && up X.g c k)) = manyS X.g (xs.take (i + 1 + 1)) := funext fun j => by
          have e : manyS X.g (xs.take (i + 1 + 1)) j = (manyS X.g (xs.take (i + 1)) j && up X.g c j) := by
            rw [List.take_add_one (i := i + 1), hc']
            unfold manyS; rw [List.all_append]; simp
          rw [e]
          by_cases hj : j < X.n
          · rw [decide_eq_true hj, Bool.true_and]
          · rw [decide_eq_false hj, Bool.false_and]
            cases hu : up X.g c j with
            | false => rw [Bool.and_false]
            | true => have := up_le X.hg hu; omega
        refine swp_skip ?_
        refine then_n ?_
        refine swp_seq ?_
        refine swp_block ?_
        refine swp_seq ?_
        refine swp_region ?_
        refine s_pu (pu_indexAddr (po + i * 1) (congrArg some hpv) rfl (by omega) (by omega) (by rw [Int.toNat_natCast])) ?_
        refine s_rd (rd_ro rfl hpc) ?_
        refine s_pu (pu_assign rfl) ?_
        refine swl_sub _ (.cons (t := 7) rfl (.cons (t := 8) rfl (.cons (t := 10) rfl (.cons (t := 41) rfl (.cons (t := 42) rfl (.cons (t := 43) rfl .nil)))))) ?_
        refine swl_nil ?_
        refine then_n ?_
        refine swp_region ?_
        refine s_pu (pu_move rfl) ?_
        refine s_pu (pu_move rfl) ?_
        refine s_pu (pu_iface rfl) ?_
        refine s_pu (pu_move rfl) ?_
        refine s_ef (ef_fn (oreach_spec X s0 si yi μi b33 b31 c hd (by omega) (h0.trans (h1.trans hli)) hf hki) rfl rfl (by repeat (first | exact Split.nil | (apply Split.cons; (repeat (first | with_reducible exact Take.here | apply Take.there)))))) ?_
        rintro v51 L1 ⟨p1, μ3, s3, ys3, h3, hk3, rfl, rfl⟩
        refine swl_app ?_
        refine s_ef (ef_fn (and_m p0 X.n p1 X.n (manyS X.g (xs.take (i + 1))) (up X.g c)) rfl rfl (by repeat (first | exact Split.nil | (apply Split.cons; (repeat (first | with_reducible exact Take.here | apply Take.there)))))) ?_
        rintro v52 L1 ⟨rfl, rfl⟩
        refine swl_app ?_
        rw [hS2]
        refine swl_sub _ (.cons (t := 7) rfl (.cons (t := 8) rfl (.cons (t := 41) rfl (.cons (t := 42) rfl (.cons (t := 43) rfl .nil))))) ?_
        refine swl_nil ?_
        refine block_n ?_
        refine then_n ?_
        refine swp_region ?_
        refine s_pu (pu_add_as ((i + 1 : Nat) : Int) rfl rfl (by omega) (by omega) (by omega)) ?_
        refine s_pu (pu_move rfl) ?_
        refine swl_sub _ (.cons (t := 7) rfl (.cons (t := 8) rfl (.cons (t := 41) rfl (.cons (t := 42) rfl (.cons (t := 43) rfl .nil))))) ?_
        refine swl_nil ?_
        refine then_n ⟨(i + 1, μ3, s3, ys3), ⟨rfl, ?_, h44', hli.trans h3, hk3⟩, by show (xs.drop 1).length - (i + 1) < (xs.drop 1).length - i; omega⟩
        exact Split.ent' (by repeat (first | exact Split.nil | (apply Split.cons; (repeat (first | with_reducible exact Take.here | apply Take.there)))))
      · skip   -- 44 F
        have h44' := of_decide_eq_false h44
        obtain rfl : i = (xs.drop 1).length := by omega
        have hLT := hli
        rw [show (xs.drop 1).length + 1 = xs.length by rw [List.length_drop]; omega, List.take_length]
        have hSo := manyS_out X.hg hne hx
        generalize hSe : manyS X.g xs = S at *
        refine swp_exit ?_
        refine then_x ?_
        refine then_x ?_
        refine block_hit rfl ?_
        refine then_n ?_
        refine swp_seq ?_
        refine swp_region ?_
        refine s_pu (pu_move rfl) ?_
        refine s_ef (ef_fn (copy_m p0 X.n S) rfl rfl (by repeat (first | exact Split.nil | (apply Split.cons; (repeat (first | with_reducible exact Take.here | apply Take.there)))))) ?_
        rintro v55 L1 ⟨q, rfl, rfl⟩
        refine swl_app ?_
        refine s_pu (pu_assign rfl) ?_
        refine swl_sub _ (.cons (t := 7) rfl (.cons (t := 8) rfl (.cons (t := 11) rfl .nil))) ?_
        refine swl_nil ?_
        refine then_n ?_
        refine swp_seq ?_
        refine swp_seq ?_
        refine swp_region ?_
        refine s_pu (pu_move rfl) ?_
        refine s_ef (ef_fn (list_m μi p0 X.n S ((hT.le h1).le hli)) rfl rfl (by repeat (first | exact Split.nil | (apply Split.cons; (repeat (first | with_reducible exact Take.here | apply Take.there)))))) ?_
        rintro v57 L1 rfl
        refine swl_app ?_
        have hEin : ∀ c ∈ elsTo X.n S, 0 ≤ c ∧ c < X.g.length := fun c hc => by
          obtain ⟨k, rfl, hk, _⟩ := elsTo_mem.1 hc
          omega
        have hEl := elsTo_len X.n S
        have hbest := dropP_best X.g S
        rw [← hXn] at hbest
        generalize elsTo X.n S = es at *
        refine swl_share_own (v := v57) (μ := μi) (by repeat (first | exact Split.nil | (apply Split.cons; (repeat (first | with_reducible exact Take.here | apply Take.there))))) fun μ4 h4 r57 => ?_
        refine swl_ent (Ent.trans (Split.ent' (K := [onA X b33 b31 si yi μi, ro μ4, mset q X.n S]) (by repeat (first | exact Split.nil | (apply Split.cons; (repeat (first | with_reducible exact Take.here | apply Take.there)))))) (Ent.app (L1 := [_]) (R := [ro μ4, mset q X.n S]) (onA_mono h4))) ?_
        simp only [List.cons_append, List.nil_append]
        refine s_pu (pu_len_row r57 rfl) ?_
        refine s_pu (pu_move rfl) ?_
        refine swl_sub _ (.cons (t := 7) rfl (.cons (t := 11) rfl (.cons (t := 57) rfl (.cons (t := 58) rfl (.cons (t := 59) rfl .nil))))) ?_
        refine swl_nil ?_
        refine then_n ?_
        refine swp_block ?_
        have hS0 : S = dropP X.g S (es.take 0) := funext fun j => by unfold dropP; simp
        refine swp_sub _ (.cons (t := 7) rfl (.cons (t := 11) rfl (.cons (t := 57) rfl (.cons (t := 58) rfl (.cons (t := 59) rfl .nil))))) ?_
        refine swp_loop (ι := Nat × PH × X.σ × List Nat) (fun k env L => env = [(7, .pointer (some ⟨b33, 0, none⟩)), (11, .pointer (some ⟨q, 0, none⟩)), (57, v57), (58, .int .i64 (es.length : Nat)), (59, .int .i64 (k.1 : Nat))]
          ∧ Ent L [onA X b33 b31 k.2.2.1 k.2.2.2 k.2.1, ro k.2.1, mset q X.n (dropP X.g S (es.take k.1))] ∧ k.1 ≤ es.length ∧ Le μ4 k.2.1 ∧ onOk X s0 k.2.2.1 k.2.2.2) (fun k => es.length - k.1) (0, μ4, si, yi) ⟨rfl, by dsimp only; rw [← hS0]; exact Split.ent' (by repeat (first | exact Split.nil | (apply Split.cons; (repeat (first | with_reducible exact Take.here | apply Take.there))))), Nat.zero_le _, Le.refl _, hki⟩ ?_
        rintro ⟨i, μj, sj, yj⟩ env L ⟨rfl, hLj, hij, hlj, hkj⟩
        dsimp only at hLj hij hlj hkj ⊢
        refine swp_ent hLj ?_
        refine swp_seq ?_
        refine swp_region ?_
        refine s_pu (pu_lss rfl rfl) ?_
        refine swl_sub _ (.cons (t := 7) rfl (.cons (t := 11) rfl (.cons (t := 57) rfl (.cons (t := 58) rfl (.cons (t := 59) rfl (.cons (t := 60) rfl .nil)))))) ?_
        refine swl_nil ?_
        refine then_n ?_
        refine swp_seq ?_
        refine swp_cond (b := _) rfl (fun h60 => ?_) (fun h60 => ?_)
        · skip   -- 60 T
          have h60' : i < es.length := by have := of_decide_eq_true h60; omega
          obtain ⟨c, hc⟩ : ∃ c, es[i]? = some c := ⟨_, List.getElem?_eq_getElem h60'⟩
          obtain ⟨pb, po, pc, hpv, hpc⟩ := (r57.le hlj).at_ hc
          have hcr := hEin c (List.mem_of_getElem? hc)
          obtain ⟨c, rfl⟩ : ∃ k : Nat, c = k := ⟨c.toNat, by omega⟩
          have l1j := h1.trans (hLT.trans (h4.trans hlj))
          refine swp_skip ?_
          refine then_n ?_
          refine swp_seq ?_
          refine swp_block ?_
          refine swp_seq ?_
          refine swp_region ?_
          refine s_pu (pu_indexAddr (po + i * 1) (congrArg some hpv) rfl (by omega) (by omega) (by rw [Int.toNat_natCast])) ?_
          refine s_rd (rd_ro rfl hpc) ?_
          refine s_pu (pu_assign rfl) ?_
          refine swl_sub _ (.cons (t := 7) rfl (.cons (t := 11) rfl (.cons (t := 13) rfl (.cons (t := 57) rfl (.cons (t := 58) rfl (.cons (t := 59) rfl .nil)))))) ?_
          refine swl_nil ?_
          refine then_n ?_
          refine swp_seq ?_
          refine swp_region ?_
          refine s_pu (pu_move rfl) ?_
          refine s_pu (pu_move rfl) ?_
          refine s_ef (ef_fn (opar_spec X s0 sj yj μj b33 b31 c (by omega) (h0.trans l1j) hf hkj) rfl rfl (by repeat (first | exact Split.nil | (apply Split.cons; (repeat (first | with_reducible exact Take.here | apply Take.there)))))) ?_
          rintro v65 L1 ⟨μ5, s5, ys5, h5, hk5, r65, rfl⟩
          refine swl_app ?_
          refine s_pu (pu_len_row r65 rfl) ?_
          refine s_pu (pu_move rfl) ?_
          refine swl_sub _ (.cons (t := 7) rfl (.cons (t := 11) rfl (.cons (t := 57) rfl (.cons (t := 58) rfl (.cons (t := 59) rfl (.cons (t := 65) rfl (.cons (t := 66) rfl (.cons (t := 67) rfl .nil)))))))) ?_
          refine swl_nil ?_
          refine then_n ?_
          refine swp_block ?_
          have hrs := r65.small
          generalize hTe : dropP X.g S (es.take i) = T at *
          have hT0 : T = fun j => T j && !decide ((j : Int) ∈ (rowOf X.g c).take 0) := funext fun j => by simp
          refine swp_sub _ (.cons (t := 7) rfl (.cons (t := 11) rfl (.cons (t := 57) rfl (.cons (t := 58) rfl (.cons (t := 59) rfl (.cons (t := 65) rfl (.cons (t := 66) rfl (.cons (t := 67) rfl .nil)))))))) ?_
          refine swp_loop (ι := Nat) (fun k env L => env = [(7, .pointer (some ⟨b33, 0, none⟩)), (11, .pointer (some ⟨q, 0, none⟩)), (57, v57), (58, .int .i64 (es.length : Nat)), (59, .int .i64 (i : Nat)), (65, v65), (66, .int .i64 ((rowOf X.g c).length : Nat)), (67, .int .i64 (k : Nat))]
            ∧ Ent L [onA X b33 b31 s5 ys5 μ5, ro μ5, mset q X.n (fun j => T j && !decide ((j : Int) ∈ (rowOf X.g c).take k))] ∧ k ≤ (rowOf X.g c).length) (fun k => (rowOf X.g c).length - k) 0 ⟨rfl, by rw [← hT0]; exact Split.ent' (by repeat (first | exact Split.nil | (apply Split.cons; (repeat (first | with_reducible exact Take.here | apply Take.there))))), Nat.zero_le _⟩ ?_
          rintro k env L ⟨rfl, hLk, hk⟩
          refine swp_ent hLk ?_
          refine swp_seq ?_
          refine swp_region ?_
          refine s_pu (pu_lss rfl rfl) ?_
          refine swl_sub _ (.cons (t := 7) rfl (.cons (t := 11) rfl (.cons (t := 57) rfl (.cons (t := 58) rfl (.cons (t := 59) rfl (.cons (t := 65) rfl (.cons (t := 66) rfl (.cons (t := 67) rfl (.cons (t := 68) rfl .nil))))))))) ?_
          refine swl_nil ?_
          refine then_n ?_
          refine swp_seq ?_
          refine swp_cond (b := _) rfl (fun h68 => ?_) (fun h68 => ?_)
          · skip   -- 68 T
            have h68' : k < (rowOf X.g c).length := by have := of_decide_eq_true h68; omega
            obtain ⟨u, hu⟩ : ∃ u, (rowOf X.g c)[k]? = some u := ⟨_, List.getElem?_eq_getElem h68'⟩
            obtain ⟨ub, uo, uc, huv, huc⟩ := r65.at_ hu
            have hur := row_good X.hg (List.mem_of_getElem? hu)
            obtain ⟨u, rfl⟩ : ∃ m : Nat, u = m := ⟨u.toNat, by omega⟩
            have hT1 : (fun j => (T j && !decide ((j : Int) ∈ (rowOf X.g c).take k)) && !(decide (0 ≤ (u : Int)) && decide (j = (u : Int).toNat))) = fun j => T j && !decide ((j : Int) ∈ (rowOf X.g c).take (k + 1)) := funext fun j => by
              rw [List.take_add_one, hu, Int.toNat_natCast, decide_eq_true hur.1, Bool.true_and, Bool.and_assoc]
              congr 1
              by_cases e : j = u
              · subst e; simp
              · have e' : ¬ (j : Int) = u := by omega
                simp [e, e']
            refine swp_skip ?_
            refine then_n ?_
            refine swp_seq ?_
            refine swp_block ?_
            refine swp_seq ?_
            refine swp_region ?_
            refine s_pu (pu_indexAddr (uo + k * 1) (congrArg some huv) rfl (by omega) (by omega) (by rw [Int.toNat_natCast])) ?_
            refine s_rd (rd_ro rfl huc) ?_
            refine s_pu (pu_assign rfl) ?_
            refine swl_sub _ (.cons (t := 7) rfl (.cons (t := 11) rfl (.cons (t := 15) rfl (.cons (t := 57) rfl (.cons (t := 58) rfl (.cons (t := 59) rfl (.cons (t := 65) rfl (.cons (t := 66) rfl (.cons (t := 67) rfl .nil))))))))) ?_
            refine swl_nil ?_
            refine then_n ?_
            refine swp_region ?_
            refine s_pu (pu_move rfl) ?_
            refine s_pu (pu_move rfl) ?_
            refine s_ef (ef_fn (drop_m q X.n (fun j => T j && !decide ((j : Int) ∈ (rowOf X.g c).take k)) (u : Nat)) rfl rfl (by repeat (first | exact Split.nil | (apply Split.cons; (repeat (first | with_reducible exact Take.here | apply Take.there)))))) ?_
            rintro v73 L1 ⟨rfl, rfl⟩
            refine swl_app ?_
            rw [hT1]
            refine swl_sub _ (.cons (t := 7) rfl (.cons (t := 11) rfl (.cons (t := 57) rfl (.cons (t := 58) rfl (.cons (t := 59) rfl (.cons (t := 65) rfl (.cons (t := 66) rfl (.cons (t := 67) rfl .nil)))))))) ?_
            refine swl_nil ?_
            refine block_n ?_
            refine then_n ?_
            refine swp_region ?_
            refine s_pu (pu_add_as ((k + 1 : Nat) : Int) rfl rfl (by omega) (by omega) (by omega)) ?_
            refine s_pu (pu_move rfl) ?_
            refine swl_sub _ (.cons (t := 7) rfl (.cons (t := 11) rfl (.cons (t := 57) rfl (.cons (t := 58) rfl (.cons (t := 59) rfl (.cons (t := 65) rfl (.cons (t := 66) rfl (.cons (t := 67) rfl .nil)))))))) ?_
            refine swl_nil ?_
            exact then_n ⟨k + 1, ⟨rfl, Split.ent' (by repeat (first | exact Split.nil | (apply Split.cons; (repeat (first | with_reducible exact Take.here | apply Take.there))))), h68'⟩, by omega⟩
          · skip   -- 68 F
            have h68' := of_decide_eq_false h68
            obtain rfl : k = (rowOf X.g c).length := by omega
            rw [List.take_length]
            have hT2 : (fun j => T j && !decide ((j : Int) ∈ rowOf X.g c)) = dropP X.g S (es.take (i + 1)) := funext fun j => by
              rw [← hTe, List.take_add_one, hc]
              unfold dropP
              rw [List.any_append, Bool.not_or, Bool.and_assoc]
              simp
            rw [hT2]
            refine swp_exit ?_
            refine then_x ?_
            refine then_x ?_
            refine block_hit rfl ?_
            refine block_n ?_
            refine then_n ?_
            refine swp_region ?_
            refine s_pu (pu_add_as ((i + 1 : Nat) : Int) rfl rfl (by omega) (by omega) (by omega)) ?_
            refine s_pu (pu_move rfl) ?_
            refine swl_sub _ (.cons (t := 7) rfl (.cons (t := 11) rfl (.cons (t := 57) rfl (.cons (t := 58) rfl (.cons (t := 59) rfl .nil))))) ?_
            refine swl_nil ?_
            refine then_n ⟨(i + 1, μ5, s5, ys5), ⟨rfl, ?_, h60', hlj.trans h5, hk5⟩, by show es.length - (i + 1) < es.length - i; omega⟩
            exact Split.ent' (by repeat (first | exact Split.nil | (apply Split.cons; (repeat (first | with_reducible exact Take.here | apply Take.there)))))
        · skip   -- 60 F
          have h60' := of_decide_eq_false h60
          obtain rfl : i = es.length := by omega
          rw [List.take_length, show dropP X.g S es = bestT X.g S X.n from funext hbest]
          refine swp_exit ?_
          refine then_x ?_
          refine then_x ?_
          refine block_hit rfl ?_
          refine then_n ?_
          refine swp_seq ?_
          refine swp_region ?_
          refine s_pu (pu_move rfl) ?_
          refine s_ef (ef_fn (list_m μj q X.n (bestT X.g S X.n) (hT.le (h1.trans (hLT.trans (h4.trans hlj))))) rfl rfl (by repeat (first | exact Split.nil | (apply Split.cons; (repeat (first | with_reducible exact Take.here | apply Take.there)))))) ?_
          rintro v77 L1 rfl
          refine swl_app ?_
          rw [show elsTo X.n (bestT X.g S X.n) = manyA X.g xs by rw [manyA, if_pos he, hSe]]
          refine s_pu (pu_assign rfl) ?_
          refine s_pu (pu_assign rfl) ?_
          refine swl_sub _ (.cons (t := 4) rfl (.cons (t := 5) rfl .nil)) ?_
          refine swl_nil ?_
          refine then_n ?_
          refine swp_ret ?_
          refine done_retE [own 3 1 v77 (manyA X.g xs).length ((manyA X.g xs).flatMap (icsk .i64)), X.A (yj.foldl X.step s0) μj, ro μj] (.tmp rfl (.tmp rfl .nil)) ⟨_, yj, μj, hkj.1, h1.trans (hLT.trans (h4.trans hlj)), by rw [he]; rfl, rfl⟩ ?_
          rw [← hkj.2]
          refine (Split.ent' (K := [onA X b33 b31 sj yj μj, own 3 1 v77 (manyA X.g xs).length ((manyA X.g xs).flatMap (icsk .i64)), ro μj]) (by repeat (first | exact Split.nil | (apply Split.cons; (repeat (first | with_reducible exact Take.here | apply Take.there)))))).trans ?_
          exact onA_src.trans Ent.swap
end SX
namespace SX
open Go Go.Proofs

theorem size_w (p n : Nat) (S : Nat → Bool) : Spec Tryd.prog 72 [.pointer (some ⟨p, 0, none⟩)] [mset p n S] (fun r L => r = .int .i64 (n : Nat) ∧ L = [mset p n S]) := size_m p n S
/-- what some others reach -/
def belowS (g : List (List Int)) (es : List Int) : Nat → Bool := fun j => es.any fun c => up g c.toNat j && !decide (j = c.toNat)
def indS (g : List (List Int)) (xs : List Int) : Nat → Bool := fun j => seedS xs j && !belowS g xs j
def indA (g : List (List Int)) (xs : List Int) : List Int := if askedE g.length [xs] = 0 then elsTo g.length (indS g xs) else []
theorem below_ext {g : List (List Int)} {es xs : List Int} (h : ∀ c, c ∈ es ↔ c ∈ xs) : belowS g es = belowS g xs := funext fun j => by
  unfold belowS
  rw [Bool.eq_iff_iff, List.any_eq_true, List.any_eq_true]
  exact ⟨fun ⟨c, h1, h2⟩ => ⟨c, (h c).1 h1, h2⟩, fun ⟨c, h1, h2⟩ => ⟨c, (h c).2 h1, h2⟩⟩
set_option maxHeartbeats 4000000 in
theorem indep_spec (X : Src) (s0 : X.σ) (μ : PH) (v : Value) (xs : List Int) (hd : X.d ≤ 6) (hT : RowAt μ 0 0 tabV) (hv : Row μ v 1 xs.length (xs.flatMap (icsk .i64))) (h0 : Le X.μ0 μ) (hf : X.fine s0) :
    Spec Tryd.prog 39 [X.sv, v] [X.A s0 μ, ro μ] (fun r L => ∃ lv zs μ', askedIn X.n zs ∧ Le μ μ' ∧ r = .tuple #[lv, .int .i64 (askedE X.g.length [xs])] ∧ L = [own 3 1 lv (indA X.g xs).length ((indA X.g xs).flatMap (icsk .i64)), X.A (zs.foldl X.step s0) μ', ro μ']) := by
  have hn := X.hn
  have hXn : X.n = X.g.length := rfl
  have hvs := hv.small
  obtain ⟨A1, c1, rfl⟩ := hv.sl
  refine Spec.of 65 Tryd.func39 rfl rfl rfl ?_
  refine swp_seq ?_
  refine swp_region ?_
  refine s_pu (pu_assign rfl) ?_
  refine s_pu (pu_assign rfl) ?_
  refine swl_sub _ (.cons (t := 0) rfl (.cons (t := 1) rfl .nil)) ?_
  refine swl_nil ?_
  refine then_n ?_
  refine swp_seq ?_
  refine swp_seq ?_
  refine swp_region ?_
  refine s_pu (pu_move rfl) ?_
  refine s_pu (pu_move rfl) ?_
  refine s_ef (ef_bldS (qs := [(0, _)]) rfl rfl rfl) ?_
  intro b17
  refine swl_share (b := b17) (μ := μ) (by repeat (first | exact Split.nil | (apply Split.cons; (repeat (first | with_reducible exact Take.here | apply Take.there))))) fun μ1 h1 k1 => ?_
  refine swl_ent (X.up (s := s0) h1 (by repeat (first | exact Split.nil | (apply Split.cons; (repeat (first | with_reducible exact Take.here | apply Take.there)))))) ?_
  have hG : Graph μ1 (.slice (some ⟨b17, 0, none⟩) 1 1) [(.slice A1 xs.length c1, xs)] := ⟨row_of_blk k1 (by rfl) (by decide), fun x hx => by obtain rfl := List.mem_singleton.1 hx; exact hv.le h1⟩
  refine s_ef (ef_fn (basked_spec X s0 μ1 _ _ hG) rfl rfl (by repeat (first | exact Split.nil | (apply Split.cons; (repeat (first | with_reducible exact Take.here | apply Take.there)))))) ?_
  rintro v18 L1 ⟨rfl, rfl⟩
  refine swl_app ?_
  rw [show askedE X.n (nums [(Value.slice A1 xs.length c1, xs)]) = askedE X.g.length [xs] from rfl]
  refine s_pu (pu_assign rfl) ?_
  refine swl_sub _ (.cons (t := 0) rfl (.cons (t := 1) rfl (.cons (t := 6) rfl .nil))) ?_
  refine swl_nil ?_
  refine then_n ?_
  refine swp_seq ?_
  refine swp_region ?_
  refine s_pu (pu_move rfl) ?_
  refine s_pu (pu_neq rfl rfl) ?_
  refine swl_sub _ (.cons (t := 0) rfl (.cons (t := 1) rfl (.cons (t := 6) rfl (.cons (t := 20) rfl .nil)))) ?_
  refine swl_nil ?_
  refine then_n ?_
  refine swp_cond (b := _) rfl (fun h20 => ?_) (fun h20 => ?_)
  · skip   -- 20 T
    have he : askedE X.g.length [xs] ≠ 0 := by simpa using h20
    refine swp_seq ?_
    refine swp_region ?_
    refine s_pu (pu_move rfl) ?_
    refine s_pu (pu_assign rfl) ?_
    refine s_pu (pu_assign rfl) ?_
    refine swl_sub _ (.cons (t := 4) rfl (.cons (t := 5) rfl .nil)) ?_
    refine swl_nil ?_
    refine then_n ?_
    refine swp_ret ?_
    refine then_r ?_
    refine done_retE [own 3 1 (.slice none 0 0) (indA X.g xs).length ((indA X.g xs).flatMap (icsk .i64)), X.A s0 μ1, ro μ1] (.tmp rfl (.tmp rfl .nil)) ⟨_, [], μ1, ⟨List.nodup_nil, fun y hy => by cases hy⟩, h1, rfl, rfl⟩ ?_
    rw [indA, if_neg he]
    exact (Split.ent' (K := [X.A s0 μ1, ro μ1]) (by repeat (first | exact Split.nil | (apply Split.cons; (repeat (first | with_reducible exact Take.here | apply Take.there)))))).trans own_nil_ent
  · skip   -- 20 F
    have he : askedE X.g.length [xs] = 0 := by simpa using h20
    have hx : ∀ p ∈ xs, 0 ≤ p ∧ p < X.g.length := askedE_in he (by simp)
    refine swp_skip ?_
    refine then_n ?_
    refine swp_seq ?_
    refine swp_region ?_
    refine s_pu (pu_move rfl) ?_
    refine s_ef (ef_makeMap (kv := ikv)) ?_
    intro b23
    refine s_pu (pu_bld (qs := [(0, _), (1, _)]) rfl) ?_
    refine s_ef (ef_box rfl rfl) ?_
    intro b25
    refine s_pu (pu_assign rfl) ?_
    refine swl_sub _ (.cons (t := 0) rfl (.cons (t := 1) rfl (.cons (t := 7) rfl .nil))) ?_
    refine swl_nil ?_
    refine then_n ?_
    refine swp_seq ?_
    refine swp_region ?_
    refine s_pu (pu_move rfl) ?_
    refine s_ef (ef_fn (bcommits_spec X s0 μ1) rfl rfl (by repeat (first | exact Split.nil | (apply Split.cons; (repeat (first | with_reducible exact Take.here | apply Take.there)))))) ?_
    rintro v27 L1 ⟨rfl, rfl⟩
    refine swl_app ?_
    refine s_ef (ef_fn (new_m (X.n : Nat)) rfl rfl (by repeat (first | exact Split.nil | (apply Split.cons; (repeat (first | with_reducible exact Take.here | apply Take.there)))))) ?_
    rintro v28 L1 ⟨p0, rfl, rfl⟩
    refine swl_app ?_
    refine s_pu (pu_assign rfl) ?_
    refine swl_sub _ (.cons (t := 1) rfl (.cons (t := 7) rfl (.cons (t := 8) rfl .nil))) ?_
    rw [clampM_id hn]
    refine swl_ent (Split.ent' (K := [X.A s0 μ1, blk b25 89 [X.sv, .map (some b23)], mpe b23 ikv [] 0, ro μ1, mset p0 X.n (fun _ => false)]) (by repeat (first | exact Split.nil | (apply Split.cons; (repeat (first | with_reducible exact Take.here | apply Take.there)))))) ?_
    refine swl_ent (onA_close (rmapOk_nil X.g μ1)) ?_
    refine swl_nil ?_
    refine then_n ?_
    refine swp_seq ?_
    refine swp_seq ?_
    refine swp_region ?_
    refine s_pu (pu_move rfl) ?_
    refine s_pu (pu_len rfl) ?_
    refine s_pu (pu_move rfl) ?_
    refine swl_sub _ (.cons (t := 7) rfl (.cons (t := 8) rfl (.cons (t := 29) rfl (.cons (t := 30) rfl (.cons (t := 31) rfl .nil))))) ?_
    refine swl_nil ?_
    refine then_n ?_
    refine swp_block ?_
    rw [show (fun _ : Nat => false) = seedS (xs.take 0) from funext fun j => by simp [seedS]]
    refine swp_loop (ι := Nat) (fun i env L => env = [(7, .pointer (some ⟨b25, 0, none⟩)), (8, .pointer (some ⟨p0, 0, none⟩)), (29, .slice A1 xs.length c1), (30, .int .i64 (xs.length : Nat)), (31, .int .i64 (i : Nat))] ∧ L = [onA X b25 b23 s0 [] μ1, ro μ1, mset p0 X.n (seedS (xs.take i))] ∧ i ≤ xs.length) (fun i => xs.length - i) 0 ⟨rfl, rfl, Nat.zero_le _⟩ ?_
    rintro i env L ⟨rfl, rfl, hi⟩
    refine swp_seq ?_
    refine swp_region ?_
    refine s_pu (pu_lss rfl rfl) ?_
    refine swl_sub _ (.cons (t := 7) rfl (.cons (t := 8) rfl (.cons (t := 29) rfl (.cons (t := 30) rfl (.cons (t := 31) rfl (.cons (t := 32) rfl .nil)))))) ?_
    refine swl_nil ?_
    refine then_n ?_
    refine swp_seq ?_
    refine swp_cond (b := _) rfl (fun h32 => ?_) (fun h32 => ?_)
    · skip   -- 32 T
      have h32' : i < xs.length := by have := of_decide_eq_true h32; omega
      obtain ⟨c, hc⟩ : ∃ c, xs[i]? = some c := ⟨_, List.getElem?_eq_getElem h32'⟩
      obtain ⟨pb, po, pc, hpv, hpc⟩ := (hv.le h1).at_ hc
      have hcr := hx c (List.mem_of_getElem? hc)
      refine swp_skip ?_
      refine then_n ?_
      refine swp_seq ?_
      refine swp_block ?_
      refine swp_seq ?_
      refine swp_region ?_
      refine s_pu (pu_indexAddr (po + i * 1) (congrArg some hpv) rfl (by omega) (by omega) (by rw [Int.toNat_natCast])) ?_
      refine s_rd (rd_ro rfl hpc) ?_
      refine s_pu (pu_assign rfl) ?_
      refine swl_sub _ (.cons (t := 7) rfl (.cons (t := 8) rfl (.cons (t := 10) rfl (.cons (t := 29) rfl (.cons (t := 30) rfl (.cons (t := 31) rfl .nil)))))) ?_
      refine swl_nil ?_
      refine then_n ?_
      refine swp_region ?_
      refine s_pu (pu_move rfl) ?_
      refine s_pu (pu_move rfl) ?_
      refine s_ef (ef_fn (put_w p0 X.n (seedS (xs.take i)) c) rfl rfl (by repeat (first | exact Split.nil | (apply Split.cons; (repeat (first | with_reducible exact Take.here | apply Take.there)))))) ?_
      rintro v37 L1 ⟨rfl, rfl⟩
      refine swl_app ?_
      rw [seedS_put hcr, show xs.take i ++ [c] = xs.take (i + 1) by rw [List.take_add_one, hc]; rfl]
      refine swl_sub _ (.cons (t := 7) rfl (.cons (t := 8) rfl (.cons (t := 29) rfl (.cons (t := 30) rfl (.cons (t := 31) rfl .nil))))) ?_
      refine swl_nil ?_
      refine block_n ?_
      refine then_n ?_
      refine swp_region ?_
      refine s_pu (pu_add_as ((i + 1 : Nat) : Int) rfl rfl (by omega) (by omega) (by omega)) ?_
      refine s_pu (pu_move rfl) ?_
      refine swl_sub _ (.cons (t := 7) rfl (.cons (t := 8) rfl (.cons (t := 29) rfl (.cons (t := 30) rfl (.cons (t := 31) rfl .nil))))) ?_
      refine swl_ent (Split.ent' (K := [onA X b25 b23 s0 [] μ1, ro μ1, mset p0 X.n (seedS (xs.take (i + 1)))]) (by repeat (first | exact Split.nil | (apply Split.cons; (repeat (first | with_reducible exact Take.here | apply Take.there)))))) ?_
      refine swl_nil ?_
      exact then_n ⟨i + 1, ⟨rfl, rfl, h32'⟩, by omega⟩
    · skip   -- 32 F
      have h32' := of_decide_eq_false h32
      obtain rfl : i = xs.length := by omega
      rw [List.take_length]
      refine swp_exit ?_
      refine then_x ?_
      refine then_x ?_
      refine block_hit rfl ?_
      refine then_n ?_
      refine swp_seq ?_
      refine swp_region ?_
      refine s_pu (pu_move rfl) ?_
      refine s_ef (ef_fn (size_w p0 X.n (seedS xs)) rfl rfl (by repeat (first | exact Split.nil | (apply Split.cons; (repeat (first | with_reducible exact Take.here | apply Take.there)))))) ?_
      rintro v40 L1 ⟨rfl, rfl⟩
      refine swl_app ?_
      refine s_ef (ef_fn (new_m (X.n : Nat)) rfl rfl (by repeat (first | exact Split.nil | (apply Split.cons; (repeat (first | with_reducible exact Take.here | apply Take.there)))))) ?_
      rintro v41 L1 ⟨q, rfl, rfl⟩
      refine swl_app ?_
      refine s_pu (pu_assign rfl) ?_
      refine swl_sub _ (.cons (t := 7) rfl (.cons (t := 8) rfl (.cons (t := 11) rfl .nil))) ?_
      rw [clampM_id hn]
      refine swl_nil ?_
      refine then_n ?_
      refine swp_seq ?_
      refine swp_seq ?_
      refine swp_region ?_
      refine s_pu (pu_move rfl) ?_
      refine s_ef (ef_fn (list_m μ1 p0 X.n (seedS xs) (hT.le h1)) rfl rfl (by repeat (first | exact Split.nil | (apply Split.cons; (repeat (first | with_reducible exact Take.here | apply Take.there)))))) ?_
      rintro v43 L1 rfl
      refine swl_app ?_
      have hEin : ∀ c ∈ elsTo X.n (seedS xs), 0 ≤ c ∧ c < X.g.length := fun c hc => by
        obtain ⟨k, rfl, hk, _⟩ := elsTo_mem.1 hc
        omega
      have hEl := elsTo_len X.n (seedS xs)
      have hEx : belowS X.g (elsTo X.n (seedS xs)) = belowS X.g xs := below_ext fun c => by
        rw [elsTo_mem]
        constructor
        · rintro ⟨k, rfl, hk, hs⟩; exact of_decide_eq_true hs
        · intro hc
          have := hx c hc
          refine ⟨c.toNat, by omega, by omega, ?_⟩
          unfold seedS
          rw [Int.toNat_of_nonneg this.1]; exact decide_eq_true hc
      generalize elsTo X.n (seedS xs) = es at *
      refine swl_share_own (v := v43) (μ := μ1) (by repeat (first | exact Split.nil | (apply Split.cons; (repeat (first | with_reducible exact Take.here | apply Take.there))))) fun μ4 h4 r43 => ?_
      refine swl_ent (Ent.trans (Split.ent' (K := [onA X b25 b23 s0 [] μ1, ro μ4, mset q X.n (fun _ => false), mset p0 X.n (seedS xs)]) (by repeat (first | exact Split.nil | (apply Split.cons; (repeat (first | with_reducible exact Take.here | apply Take.there)))))) (Ent.app (L1 := [_]) (R := [ro μ4, mset q X.n (fun _ => false), mset p0 X.n (seedS xs)]) (onA_mono h4))) ?_
      simp only [List.cons_append, List.nil_append]
      refine s_pu (pu_len_row r43 rfl) ?_
      refine s_pu (pu_move rfl) ?_
      refine swl_sub _ (.cons (t := 7) rfl (.cons (t := 8) rfl (.cons (t := 11) rfl (.cons (t := 43) rfl (.cons (t := 44) rfl (.cons (t := 45) rfl .nil)))))) ?_
      refine swl_nil ?_
      refine then_n ?_
      refine swp_block ?_
      have hB0 : (fun _ : Nat => false) = belowS X.g (es.take 0) := funext fun j => by simp [belowS]
      rw [hB0]
      refine swp_sub _ (.cons (t := 7) rfl (.cons (t := 8) rfl (.cons (t := 11) rfl (.cons (t := 43) rfl (.cons (t := 44) rfl (.cons (t := 45) rfl .nil)))))) ?_
      refine swp_loop (ι := Nat × PH × X.σ × List Nat) (fun k env L => env = [(7, .pointer (some ⟨b25, 0, none⟩)), (8, .pointer (some ⟨p0, 0, none⟩)), (11, .pointer (some ⟨q, 0, none⟩)), (43, v43), (44, .int .i64 (es.length : Nat)), (45, .int .i64 (k.1 : Nat))]
        ∧ Ent L [onA X b25 b23 k.2.2.1 k.2.2.2 k.2.1, ro k.2.1, mset q X.n (belowS X.g (es.take k.1)), mset p0 X.n (seedS xs)] ∧ k.1 ≤ es.length ∧ Le μ4 k.2.1 ∧ onOk X s0 k.2.2.1 k.2.2.2) (fun k => es.length - k.1) (0, μ4, s0, []) ⟨rfl, Split.ent' (by repeat (first | exact Split.nil | (apply Split.cons; (repeat (first | with_reducible exact Take.here | apply Take.there))))), Nat.zero_le _, Le.refl _, onOk_nil X s0⟩ ?_
      rintro ⟨i, μj, sj, yj⟩ env L ⟨rfl, hLj, hij, hlj, hkj⟩
      dsimp only at hLj hij hlj hkj ⊢
      refine swp_ent hLj ?_
      refine swp_seq ?_
      refine swp_region ?_
      refine s_pu (pu_lss rfl rfl) ?_
      refine swl_sub _ (.cons (t := 7) rfl (.cons (t := 8) rfl (.cons (t := 11) rfl (.cons (t := 43) rfl (.cons (t := 44) rfl (.cons (t := 45) rfl (.cons (t := 46) rfl .nil))))))) ?_
      refine swl_nil ?_
      refine then_n ?_
      refine swp_seq ?_
      refine swp_cond (b := _) rfl (fun h46 => ?_) (fun h46 => ?_)
      · skip   -- 46 T
        have h46' : i < es.length := by have := of_decide_eq_true h46; omega
        obtain ⟨c, hc⟩ : ∃ c, es[i]? = some c := ⟨_, List.getElem?_eq_getElem h46'⟩
        obtain ⟨pb, po, pc, hpv, hpc⟩ := (r43.le hlj).at_ hc
        have hcr := hEin c (List.mem_of_getElem? hc)
        obtain ⟨c, rfl⟩ : ∃ k : Nat, c = k := ⟨c.toNat, by omega⟩
        have l1j := h1.trans (h4.trans hlj)
        have hS2 : (fun k => decide (k < X.n) && (belowS X.g (es.take i) k || (up X.g c k && !(decide (0 ≤ (c : Int)) && decide (k = (c : Int).toNat))))) = belowS X.g (es.take (i + 1)) := funext fun j => by
          have e : belowS X.g (es.take (i + 1)) j = (belowS X.g (es.take i) j || (up X.g c j && !decide (j = c))) := by
            rw [List.take_add_one, hc]
            unfold belowS; rw [List.any_append]; simp
          rw [e, Int.toNat_natCast, decide_eq_true hcr.1, Bool.true_and]
          by_cases hj : j < X.n
          · rw [decide_eq_true hj, Bool.true_and]
          · rw [decide_eq_false hj, Bool.false_and]
            have hb : belowS X.g (es.take i) j = false := by
              unfold belowS
              rw [List.any_eq_false]
              intro d hd
              have hdr := hEin d (List.mem_of_mem_take hd)
              cases hu : up X.g d.toNat j with
              | false => simp
              | true => have := up_le X.hg hu; omega
            have hu : up X.g c j = false := by
              cases hu : up X.g c j with
              | false => rfl
              | true => have := up_le X.hg hu; omega
            rw [hb, hu]; rfl
        refine swp_skip ?_
        refine then_n ?_
        refine swp_seq ?_
        refine swp_block ?_
        refine swp_seq ?_
        refine swp_region ?_
        refine s_pu (pu_indexAddr (po + i * 1) (congrArg some hpv) rfl (by omega) (by omega) (by rw [Int.toNat_natCast])) ?_
        refine s_rd (rd_ro rfl hpc) ?_
        refine s_pu (pu_assign rfl) ?_
        refine swl_sub _ (.cons (t := 7) rfl (.cons (t := 8) rfl (.cons (t := 11) rfl (.cons (t := 13) rfl (.cons (t := 43) rfl (.cons (t := 44) rfl (.cons (t := 45) rfl .nil))))))) ?_
        refine swl_nil ?_
        refine then_n ?_
        refine swp_seq ?_
        refine swp_region ?_
        refine s_pu (pu_move rfl) ?_
        refine s_pu (pu_iface rfl) ?_
        refine s_pu (pu_move rfl) ?_
        refine s_ef (ef_fn (oreach_spec X s0 sj yj μj b25 b23 c hd (by omega) (h0.trans l1j) hf hkj) rfl rfl (by repeat (first | exact Split.nil | (apply Split.cons; (repeat (first | with_reducible exact Take.here | apply Take.there)))))) ?_
        rintro v52 L1 ⟨p1, μ3, s3, ys3, h3, hk3, rfl, rfl⟩
        refine swl_app ?_
        refine s_pu (pu_assign rfl) ?_
        refine swl_sub _ (.cons (t := 7) rfl (.cons (t := 8) rfl (.cons (t := 11) rfl (.cons (t := 13) rfl (.cons (t := 14) rfl (.cons (t := 43) rfl (.cons (t := 44) rfl (.cons (t := 45) rfl .nil)))))))) ?_
        refine swl_nil ?_
        refine then_n ?_
        refine swp_seq ?_
        refine swp_region ?_
        refine s_pu (pu_move rfl) ?_
        refine s_pu (pu_move rfl) ?_
        refine s_ef (ef_fn (drop_m p1 X.n (up X.g c) (c : Nat)) rfl rfl (by repeat (first | exact Split.nil | (apply Split.cons; (repeat (first | with_reducible exact Take.here | apply Take.there)))))) ?_
        rintro v55 L1 ⟨rfl, rfl⟩
        refine swl_app ?_
        refine swl_sub _ (.cons (t := 7) rfl (.cons (t := 8) rfl (.cons (t := 11) rfl (.cons (t := 14) rfl (.cons (t := 43) rfl (.cons (t := 44) rfl (.cons (t := 45) rfl .nil))))))) ?_
        refine swl_nil ?_
        refine then_n ?_
        refine swp_region ?_
        refine s_pu (pu_move rfl) ?_
        refine s_pu (pu_move rfl) ?_
        refine s_ef (ef_fn (or_m q X.n p1 X.n (belowS X.g (es.take i)) (fun j => up X.g c j && !(decide (0 ≤ (c : Int)) && decide (j = (c : Int).toNat)))) rfl rfl (by repeat (first | exact Split.nil | (apply Split.cons; (repeat (first | with_reducible exact Take.here | apply Take.there)))))) ?_
        rintro v58 L1 ⟨rfl, rfl⟩
        refine swl_app ?_
        rw [hS2]
        refine swl_sub _ (.cons (t := 7) rfl (.cons (t := 8) rfl (.cons (t := 11) rfl (.cons (t := 43) rfl (.cons (t := 44) rfl (.cons (t := 45) rfl .nil)))))) ?_
        refine swl_nil ?_
        refine block_n ?_
        refine then_n ?_
        refine swp_region ?_
        refine s_pu (pu_add_as ((i + 1 : Nat) : Int) rfl rfl (by omega) (by omega) (by omega)) ?_
        refine s_pu (pu_move rfl) ?_
        refine swl_sub _ (.cons (t := 7) rfl (.cons (t := 8) rfl (.cons (t := 11) rfl (.cons (t := 43) rfl (.cons (t := 44) rfl (.cons (t := 45) rfl .nil)))))) ?_
        refine swl_nil ?_
        refine then_n ⟨(i + 1, μ3, s3, ys3), ⟨rfl, ?_, h46', hlj.trans h3, hk3⟩, by show es.length - (i + 1) < es.length - i; omega⟩
        exact Split.ent' (by repeat (first | exact Split.nil | (apply Split.cons; (repeat (first | with_reducible exact Take.here | apply Take.there)))))
      · skip   -- 46 F
        have h46' := of_decide_eq_false h46
        obtain rfl : i = es.length := by omega
        rw [List.take_length, hEx]
        have hS3 : (fun k => decide (k < X.n) && (seedS xs k && !belowS X.g xs k)) = indS X.g xs := funext fun j => by
          unfold indS
          by_cases hj : j < X.n
          · rw [decide_eq_true hj, Bool.true_and]
          · rw [decide_eq_false hj, Bool.false_and]
            have : seedS xs j = false := by
              unfold seedS
              exact decide_eq_false fun hm => by have := hx _ hm; omega
            rw [this]; rfl
        refine swp_exit ?_
        refine then_x ?_
        refine then_x ?_
        refine block_hit rfl ?_
        refine then_n ?_
        refine swp_seq ?_
        refine swp_region ?_
        refine s_pu (pu_move rfl) ?_
        refine s_pu (pu_move rfl) ?_
        refine s_ef (ef_fn (less_m p0 X.n q X.n (seedS xs) (belowS X.g xs)) rfl rfl (by repeat (first | exact Split.nil | (apply Split.cons; (repeat (first | with_reducible exact Take.here | apply Take.there)))))) ?_
        rintro v62 L1 ⟨rfl, rfl⟩
        refine swl_app ?_
        rw [hS3]
        refine swl_sub _ (.cons (t := 8) rfl .nil) ?_
        refine swl_nil ?_
        refine then_n ?_
        refine swp_seq ?_
        refine swp_region ?_
        refine s_pu (pu_move rfl) ?_
        refine s_ef (ef_fn (list_m μj p0 X.n (indS X.g xs) (hT.le (h1.trans (h4.trans hlj)))) rfl rfl (by repeat (first | exact Split.nil | (apply Split.cons; (repeat (first | with_reducible exact Take.here | apply Take.there)))))) ?_
        rintro v64 L1 rfl
        refine swl_app ?_
        rw [show elsTo X.n (indS X.g xs) = indA X.g xs from (if_pos he).symm]
        refine s_pu (pu_assign rfl) ?_
        refine s_pu (pu_assign rfl) ?_
        refine swl_sub _ (.cons (t := 4) rfl (.cons (t := 5) rfl .nil)) ?_
        refine swl_nil ?_
        refine then_n ?_
        refine swp_ret ?_
        refine done_retE [own 3 1 v64 (indA X.g xs).length ((indA X.g xs).flatMap (icsk .i64)), X.A (yj.foldl X.step s0) μj, ro μj] (.tmp rfl (.tmp rfl .nil)) ⟨_, yj, μj, hkj.1, h1.trans (h4.trans hlj), by rw [he]; rfl, rfl⟩ ?_
        rw [← hkj.2]
        refine (Split.ent' (K := [onA X b25 b23 sj yj μj, own 3 1 v64 (indA X.g xs).length ((indA X.g xs).flatMap (icsk .i64)), ro μj]) (by repeat (first | exact Split.nil | (apply Split.cons; (repeat (first | with_reducible exact Take.here | apply Take.there)))))).trans ?_
        exact onA_src.trans Ent.swap
end SX
