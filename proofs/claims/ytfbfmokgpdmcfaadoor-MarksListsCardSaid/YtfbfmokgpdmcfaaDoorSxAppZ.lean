/- append of a number of zeros (the model's form of append(s, make(..)...)) to a slice of the call's own. -/
import Derived.Test.YtfbfmokgpdmcfaaDoorSxOps2
import Derived.Maps.AppendAt
namespace SX
open Go

section
variable {P : Program}
theorem zc_one {z : Array Value} (h0 : 0 < z.size) (h1 : z.toList.all Value.oneCell' = true) (m : Nat) : ∀ u ∈ (Builtin.zeroCells z m).toList, u.oneCell' = true := by
  intro u hu
  unfold Builtin.zeroCells at hu
  simp only [Array.toList_map, List.mem_map] at hu
  obtain ⟨i, _, rfl⟩ := hu
  have hlt : i % z.size < z.size := Nat.mod_lt _ h0
  rw [getElem!_pos z _ hlt]
  exact List.all_eq_true.1 h1 _ (by simp)
theorem zc_len (z : Array Value) (m : Nat) : (Builtin.zeroCells z m).toList.length = m * z.size := by
  unfold Builtin.zeroCells; simp

theorem run_appendz_nil {w : World} (t ti ty e : TypeId) (i : TypeInfo) (z : Value) (ht : P.underlying t = some (.slice e)) (hti : P.underlying ti = some (.int .i64)) (hi : P.info? e = some i) (hz : i.zero = some z)
    (hzs : z.cells.size = i.size) (hsz : 0 < i.size) (n : Nat) (h0 : 0 < n) (h63 : (n : Int) ≤ 9223372036854775807) (h48 : n * i.bytes ≤ 281474976710656) :
    (Builtin.append_ #[t, ti] ty #[.slice none 0 0, .int .i64 (n : Nat)]).run P w =
      .ok (.slice (some ⟨w.heap.size, 0, none⟩) n (grownCap w n 0 e)) (w.drew.alloc (.cells (Builtin.zeroCells z.cells n ++ Builtin.zeroCells z.cells (grownCap w n 0 e - n)) e)) := by
  have hn : n ≠ 0 := by omega
  have hw : IntKind.i64.wrap (n : Int) = n := IntWalk.i64_in _ ⟨by omega, h63⟩
  have h63' : ¬ (9223372036854775807 < (n : Int)) := by omega
  have h48' : ¬ (281474976710656 < Builtin.nextslicecap n 0 * i.bytes) := by rw [nextslicecap_zero h0]; omega
  have h48i : ¬ (281474976710656 < (n : Int) * (i.bytes : Int)) := by rw [← Int.natCast_mul]; omega
  have hs0 : ¬ (n * i.size = 0) := Nat.mul_ne_zero (by omega) (by omega)
  have hneg : ¬ ((n : Int) < 0) := by omega
  simp [Builtin.append_, run_underlying ht, run_underlying hti, Go.sizeOf, typeInfo, zeroValue, hi, hz, asInt, asIntOf, hw, hneg, h48i, hn, hs0, h63', h48', Question.forced, run_firstCells_none, newRow, grownCap]
theorem run_appendz_room {w : World} (t ti ty e : TypeId) (i : TypeInfo) (z : Value) (ht : P.underlying t = some (.slice e)) (hti : P.underlying ti = some (.int .i64)) (hi : P.info? e = some i) (hz : i.zero = some z)
    (hzs : z.cells.size = i.size) (hsz : 0 < i.size) (hz1 : z.cells.toList.all Value.oneCell' = true)
    (g sLen sCap : Nat) (cur : Array Value) (hg : w.heap[g]? = some (.cells cur e (0, 0))) (m : Nat) (h0 : 0 < m) (h63 : (m : Int) ≤ 9223372036854775807) (h48 : m * i.bytes ≤ 281474976710656)
    (hroom : sLen + m ≤ sCap) (hfit : sLen * i.size + m * i.size ≤ cur.size) :
    (Builtin.append_ #[t, ti] ty #[.slice (some ⟨g, 0, none⟩) sLen sCap, .int .i64 (m : Nat)]).run P w =
      .ok (.slice (some ⟨g, 0, none⟩) (sLen + m) sCap) (w.setRow g (cur.toList.take (sLen * i.size) ++ (Builtin.zeroCells z.cells m).toList ++ cur.toList.drop (sLen * i.size + (Builtin.zeroCells z.cells m).toList.length)).toArray) := by
  have hw : IntKind.i64.wrap (m : Int) = m := IntWalk.i64_in _ ⟨by omega, h63⟩
  have h48i : ¬ (281474976710656 < (m : Int) * (i.bytes : Int)) := by rw [← Int.natCast_mul]; omega
  have hs0 : ¬ (m * i.size = 0) := Nat.mul_ne_zero (by omega) (by omega)
  have hneg : ¬ ((m : Int) < 0) := by omega
  have hst := run_storeCells_at P g (sLen * i.size) e (Builtin.zeroCells z.cells m).toList 0 cur w hg (by rw [zc_len, hzs]; simpa using hfit) (zc_one (by omega) hz1 m)
  simp only [Nat.add_zero] at hst
  simp [Builtin.append_, run_underlying ht, run_underlying hti, Go.sizeOf, typeInfo, zeroValue, hi, hz, asInt, asIntOf, hw, hneg, h48i, hs0, hroom, Addr.add_lit, hst]
theorem run_appendz_grow {w : World} (t ti ty e : TypeId) (i : TypeInfo) (z : Value) (ht : P.underlying t = some (.slice e)) (hti : P.underlying ti = some (.int .i64)) (hi : P.info? e = some i) (hz : i.zero = some z)
    (hsz : 0 < i.size)
    (b : Addr) (sLen sCap : Nat) (olds : List Value) (hlo : olds.length = sLen * i.size) (holds : ∀ j v, olds[j]? = some v → w.cell? (b.add j) = some v)
    (n : Nat) (h0 : 0 < n) (h48 : n * i.bytes ≤ 281474976710656)
    (hg : sCap < sLen + n) (h63 : ((sLen + n : Nat) : Int) ≤ 9223372036854775807) (hfit : Builtin.nextslicecap (sLen + n) sCap * i.bytes ≤ 281474976710656) :
    (Builtin.append_ #[t, ti] ty #[.slice (some b) sLen sCap, .int .i64 (n : Nat)]).run P w =
      .ok (.slice (some ⟨w.heap.size, 0, none⟩) (sLen + n) (grownCap w (sLen + n) sCap e))
        (w.drew.alloc (.cells (olds.toArray ++ Builtin.zeroCells z.cells n ++ Builtin.zeroCells z.cells (grownCap w (sLen + n) sCap e - (sLen + n))) e)) := by
  have hw : IntKind.i64.wrap (n : Int) = n := IntWalk.i64_in _ ⟨by omega, by omega⟩
  have h48i : ¬ (281474976710656 < (n : Int) * (i.bytes : Int)) := by rw [← Int.natCast_mul]; omega
  have hs0 : ¬ (n * i.size = 0) := Nat.mul_ne_zero (by omega) (by omega)
  have hneg : ¬ ((n : Int) < 0) := by omega
  have hn : ¬ (sLen + n ≤ sCap) := by omega
  have h63' : ¬ (9223372036854775807 < ((sLen : Int) + (n : Int))) := by omega
  have h48' : ¬ (281474976710656 < Builtin.nextslicecap (sLen + n) sCap * i.bytes) := by omega
  have hfo := run_firstCells_some (P := P) w.drew i.size sLen b sLen sCap olds hlo (by simpa using holds)
  simp [Builtin.append_, run_underlying ht, run_underlying hti, Go.sizeOf, typeInfo, zeroValue, hi, hz, asInt, asIntOf, hw, hneg, h48i, hs0, hn, h63', h48', Question.forced, hfo, newRow, grownCap]
theorem run_appendz_own_at {w : World} (base : Nat) (t ti ty e : TypeId) (i : TypeInfo) (z : Value) (size bytes : Nat) (ht : P.underlying t = some (.slice e)) (hti : P.underlying ti = some (.int .i64)) (hi : P.info? e = some i) (hz : i.zero = some z)
    (hsize : i.size = size) (hby : i.bytes = bytes) (hzs : z.cells.size = size) (hsz : 0 < size) (hz1 : z.cells.toList.all Value.oneCell' = true)
    (v : Value) (n : Nat) (xs : List Value) (hown : w.ownsRow base e size v n xs) (m : Nat) (h0 : 0 < m)
    (h63 : n + m ≤ maxLen) (hbytes : (n + m) * bytes ≤ 140737488355328) (hbase : base ≤ w.heap.size) :
    ∃ v' w', (Builtin.append_ #[t, ti] ty #[v, .int .i64 (m : Nat)]).run P w = .ok v' w' ∧ w'.ownsRow base e size v' (n + m) (xs ++ (Builtin.zeroCells z.cells m).toList) ∧ w.grownBy w' v.ownBlock ∧
      (v'.ownBlock = v.ownBlock ∨ v'.ownBlock = some w.heap.size) := by
  subst hsize
  subst hby
  have hl : (Builtin.zeroCells z.cells m).toList.length = m * i.size := by rw [zc_len, hzs]
  have hsmall : n + m ≤ 9223372036854775807 := by simp only [maxLen] at h63; omega
  have hmb : m * i.bytes ≤ 281474976710656 := by have := Nat.mul_le_mul_right i.bytes (Nat.le_add_left m n); omega
  generalize hnews : (Builtin.zeroCells z.cells m).toList = news at hl
  have hna : Builtin.zeroCells z.cells m = news.toArray := by rw [← hnews]
  have hlen : (xs ++ news).length = (n + m) * i.size := by rw [List.length_append, hown.1, hl, Nat.add_mul]
  have grown : ∀ (old : Nat), old < n + m → ∀ (row : Option Nat),
      (w.drew.alloc (.cells (xs.toArray ++ news.toArray ++ Builtin.zeroCells z.cells (grownCap w (n + m) old e - (n + m))) e)).ownsRow base e i.size
        (.slice (some ⟨w.heap.size, 0, none⟩) (n + m) (grownCap w (n + m) old e)) (n + m) (xs ++ news) ∧
      w.grownBy (w.drew.alloc (.cells (xs.toArray ++ news.toArray ++ Builtin.zeroCells z.cells (grownCap w (n + m) old e - (n + m))) e)) row := by
    intro old ho row
    have hge := grownCap_ge w (n + m) old e
    have hcm : grownCap w (n + m) old e ≤ maxLen := grownCap_le_maxLen w (n + m) old e h63
    refine ⟨⟨hlen, .inr ⟨w.heap.size, _, _, rfl, hbase, heap_alloc_new w.drew _, hge, hcm, ?_, ?_⟩⟩, ⟨rfl, rfl, rfl, by simp, fun k hk _ => heap_alloc_old w.drew _ hk⟩⟩
    · simp only [Array.size_append, List.size_toArray, size_zeroCells, hzs, hown.1, hl, ← Nat.add_mul]
      congr 1
      omega
    · simp only [Array.toList_append, List.append_assoc]
      rw [← List.append_assoc, ← hlen]
      exact List.take_left
  rcases hown.2 with ⟨rfl, rfl⟩ | ⟨g, cap, cur, rfl, hbg, hg, hnc, hcm, hcs, htake⟩
  · have hx : xs = [] := List.eq_nil_of_length_eq_zero (by simpa using hown.1)
    subst hx
    have hr := run_appendz_nil (P := P) (w := w) t ti ty e i z ht hti hi hz hzs hsz m h0 (by omega) hmb
    have hgr := grown 0 (by omega) (Value.ownBlock (.slice none 0 0))
    rw [hna] at hr
    simp only [Nat.zero_add, List.nil_append, Array.empty_append] at hgr ⊢
    exact ⟨_, _, hr, hgr.1, hgr.2, Or.inr rfl⟩
  · by_cases hroom : n + m ≤ cap
    · have hfit : n * i.size + m * i.size ≤ cur.size := by rw [hcs, ← Nat.add_mul]; exact Nat.mul_le_mul_right _ hroom
      have hr := run_appendz_room (P := P) (w := w) t ti ty e i z ht hti hi hz hzs hsz hz1 g n cap cur hg m h0 (by omega) hmb hroom hfit
      rw [hnews] at hr
      refine ⟨_, _, hr, ⟨hlen, .inr ⟨g, cap, _, rfl, hbg, setRow_heap w g cur _ e _ hg, hroom, hcm, ?_, ?_⟩⟩, ⟨rfl, rfl, rfl, by simp, fun k _ hk => setRow_other w g k _ (fun e => hk (by simp [Value.ownBlock, e]))⟩, Or.inl rfl⟩
      · simp only [List.size_toArray, List.length_append, List.length_take, List.length_drop, Array.length_toList]
        omega
      · rw [htake, ← hlen]
        exact List.take_left
    · have holds : ∀ j u, xs[j]? = some u → w.cell? ((⟨g, 0, none⟩ : Addr).add j) = some u := hown.cells (g := g) rfl
      have hr := run_appendz_grow (P := P) (w := w) t ti ty e i z ht hti hi hz hsz ⟨g, 0, none⟩ n cap xs hown.1 holds m h0 hmb (by omega) (by omega) (growslice_fits (by omega) hbytes)
      have hgr := grown cap (by omega) (Value.ownBlock (.slice (some ⟨g, 0, none⟩) n cap))
      rw [hna] at hr
      exact ⟨_, _, hr, hgr.1, hgr.2, Or.inr rfl⟩

theorem H.appendz {E : Ctx} {w : World} {L : List Assn} {t ti e : TypeId} {n by_ : Nat} (ht : TSl P t e n by_) (hti : TInt P ti .i64) {zs : List Value} (hz : TZero P e zs) (hzl : zs.length = n) (hn0 : 0 < n) (hz1 : zs.all Value.oneCell' = true)
    {v : Value} {l : Nat} {xs : List Value} (h : H E w (own e n v l xs :: L)) (m : Nat) (h0 : 0 < m) (h63 : l + m ≤ maxLen) (hby : (l + m) * by_ ≤ 140737488355328) (ty : TypeId) :
    ∃ v' w', (Builtin.append_ #[t, ti] ty #[v, .int .i64 (m : Nat)]).run P w = .ok v' w' ∧ H E w' L := by
  obtain ⟨i, hu, hi, hin, hib⟩ := ht.ok
  obtain ⟨i', z, hi', hzz, hzc⟩ := hz.ok
  have : i' = i := Option.some.inj (hi'.symm.trans hi)
  subst this
  obtain ⟨e1, e2, e3, e4, h5⟩ := h
  obtain ⟨m1, m2, ho, hL, hd, s1, s2⟩ := Sat.perm (perm_out (X := E.X) (.refl _)) _ h5
  have hown : w.ownsRow 0 e n v l xs := by
    refine ⟨ho.1, ?_⟩
    rcases ho.2 with hnil | ⟨g, cap, cur, hv, hg, r⟩
    · exact .inl hnil
    · exact .inr ⟨g, cap, cur, hv, Nat.zero_le _, s1 _ _ hg, r⟩
  obtain ⟨v', w', hrun, hown', hg, hat⟩ := run_appendz_own_at (P := P) (w := w) 0 t ti ty e i' z n by_ hu hti.und hi hzz hin hib (by rw [hzc]; simpa using hzl) hn0 (by rw [hzc]; simpa using hz1) v l xs hown m h0 h63 hby (Nat.zero_le _)
  have hlt2 : ∀ k o, m2 k = some o → k < w.heap.size := fun k o hk => (Array.getElem?_eq_some_iff.1 (s2 k o hk)).1
  have hvm : ∀ k, v.ownBlock = some k → m2 k = none := fun k hk => by
    rcases ho.2 with ⟨rfl, _⟩ | ⟨g0, cap, cur, rfl, hgm, _⟩
    · simp [Value.ownBlock] at hk
    · simp [Value.ownBlock] at hk
      subst hk
      exact (hd g0).resolve_left (by rw [hgm]; simp)
  have hm2 : ∀ k o, m2 k = some o → w'.heap[k]? = some o := fun k o hk => by
    rw [hg.block k (hlt2 k o hk) (fun he => by rw [hvm k he.symm] at hk; cases hk)]
    exact s2 k o hk
  refine ⟨v', w', hrun, ⟨hg.os.trans e1, hg.output.trans e2, hg.tape.trans e3, Nat.le_trans e4 hg.size, Sat.mono hL hm2⟩⟩
theorem run_builtin_appendz {ρ : Operand → Value} {x y : Operand} {t t' : TypeId} {dst : Option Tmp} {tt : TypeId} {pos : String} {af : Array Edge} {g : Option (Nat × Bool)} {w w' : World} {v : Value}
    (h : (Builtin.append_ #[t, t'] tt #[ρ x, ρ y]).run P w = .ok v w') : (execOp ρ ⟨dst, .call { callee := .builtin .append, args := #[x, y], argTypes := #[t, t'] }, tt, pos, af, g⟩).run P w = .ok (.value v) w' := run_builtin_append h
/-- append of m zeros to a slice that nobody needs any more -/
theorem ef_appendz {env : Env} {L : List Assn} {t ti e n by_ : Nat} [ht : TSl P t e n by_] [hti : TInt P ti .i64] {zs : List Value} [hz : TZero P e zs] {x y : Operand} {v : Value} {l : Nat} {xs : List Value} {R : List Assn} (m : Nat)
    (hx : evalE env x = some v) (hy : evalE env y = some (.int .i64 (m : Nat))) (hL : Split L [own e n v l xs] R) (h0 : 0 < m) (h63 : l + m ≤ maxLen) (hby : (l + m) * by_ ≤ 140737488355328) (hzl : zs.length = n := by rfl) (hn0 : 0 < n := by decide) (h1 : zs.all Value.oneCell' = true := by rfl) :
    Ef P env L (.call { callee := .builtin .append, args := #[x, y], argTypes := #[t, ti] }) (fun k => ∀ v', k v' R) := by
  intro ro dst tt pos af g N E a w next Q k hf hh hk hn
  have h2 := hh.ent hL.ent
  obtain ⟨v', w', hrun, h'⟩ := H.appendz (P := P) (L := R) ht hti hz hzl hn0 h1 h2 m h0 h63 hby tt
  exact wpIn_value (run_builtin_append (v := v') (w' := w') (by rw [hf.ev x _ hx, hf.ev y _ hy]; exact hrun)) <| hn _ _ _ (hk v') h'
end
end SX
