/- A part of the proof: walks of the program's functions, and the rules by which they go. -/
import Derived.Test.YtakdmomhhjnolaaB38581223
import Derived.JoinedCond
import Derived.LaidMore
import Derived.Test.YtakdmomhhjnolaaProg
import Derived.Shelf.Sort.Plain
import Derived.Ground.Names2Prog
import Derived.Shelf.Slices.In.SortNone
import Derived.Ground.SlgnProg
namespace SX
open Go
/-- what is the call's own is lent to be read, and comes back -/
theorem sat_lend {b : Nat} {o : Obj} {μ : PH} {L : List Assn} {m : PH} (h : Sat (one b o :: ro μ :: L) m) :
    ∃ μ', Le μ μ' ∧ μ' b = some o ∧ Sat (ro μ' :: L) m ∧ ∀ μ'', Le μ' μ'' → ∃ μ3, Le μ μ3 ∧ ∀ L', Ent (ro μ'' :: L') (one b o :: ro μ3 :: L') := by
  have hb : μ b = none := by
    obtain ⟨m1, m2, h1, ⟨m3, m4, h3, h4, hd2, t1, t2⟩, hd, s1, s2⟩ := h
    cases hx : μ b with
    | none => rfl
    | some x =>
      have := (hd b).resolve_left (by unfold one at h1; rw [h1]; simp)
      rw [t1 b x (h3 b x hx)] at this; cases this
  obtain ⟨μ', k1, k2, k3⟩ := sat_share h
  refine ⟨μ', k1, k2, k3, fun μ'' hle => ⟨fun k => if k = b then none else μ'' k, fun k x hk => ?_, fun L' m' hs => ?_⟩⟩
  · have : k ≠ b := by rintro rfl; rw [hb] at hk; cases hk
    simp only [this, if_false]
    exact hle k x (k1 k x hk)
  · obtain ⟨m1, m2, a1, a2, ad, as1, as2⟩ := hs
    have hm1 : m1 b = some o := a1 b o (hle b o k2)
    have hm2 : m2 b = none := (ad b).resolve_left (by rw [hm1]; simp)
    refine ⟨fun k => if k = b then some o else none, fun k => if k = b then none else m' k, by simp [one], ⟨fun k => if k = b then none else m1 k, m2, fun k x hk => ?_, a2, fun k => ?_, fun k x hk => ?_, fun k x hk => ?_⟩, fun k => ?_, fun k x hk => ?_, fun k x hk => ?_⟩
    · by_cases e : k = b
      · simp [e] at hk
      · simp only [e, if_false] at hk ⊢; exact a1 k x hk
    · by_cases e : k = b
      · exact .inl (by simp [e])
      · simp only [e, if_false]; exact ad k
    · by_cases e : k = b
      · simp [e] at hk
      · simp only [e, if_false] at hk ⊢; exact as1 k x hk
    · have e : k ≠ b := by rintro rfl; rw [hm2] at hk; cases hk
      simp only [e, if_false]; exact as2 k x hk
    · by_cases e : k = b
      · exact .inr (by simp [e])
      · exact .inl (by simp [e])
    · by_cases e : k = b
      · subst e; simp at hk; subst hk; exact as1 _ _ hm1
      · simp [e] at hk
    · by_cases e : k = b
      · simp [e] at hk
      · simp only [e, if_false] at hk; exact hk
def Back (e n : Nat) (v : Value) (l : Nat) (xs : List Value) (μ μ' : PH) : Prop := ∀ μ'', Le μ' μ'' → ∃ μ3, Le μ μ3 ∧ ∀ L', Ent (ro μ'' :: L') (own e n v l xs :: ro μ3 :: L')
section
variable {P : Program} {env : Env} {μ : PH} {L : List Assn} {rn : Option Nat} {Q : Post} {N : Nat}
theorem H.lend_own {E : Ctx} {w : World} {e n : Nat} {v : Value} {l : Nat} {xs : List Value} (h : H E w (own e n v l xs :: ro μ :: L)) :
    ∃ μ', Le μ μ' ∧ Row μ' v n l xs ∧ H E w (ro μ' :: L) ∧ Back e n v l xs μ μ' := by
  obtain ⟨h1, h2, h3, h4, h5⟩ := h
  have k6 : Sat (own e n v l xs :: (E.X ++ (ro μ :: L))) (fun b => w.heap[b]?) := Sat.perm (perm_out (.refl _)) _ h5
  rcases own_open k6 with ⟨a1, a2, a3⟩ | ⟨b, cap, ex, a1, a2, a3, a4, a5, a6⟩
  · subst a1 a2 a3
    exact ⟨μ, Le.refl _, Row.nil _ _, ⟨h1, h2, h3, h4, k6.tail⟩, fun μ'' hle => ⟨μ'', hle, fun L' => own_nil_ent⟩⟩
  · have p : (one b (.cells (xs ++ ex).toArray e (0, 0)) :: (E.X ++ (ro μ :: L))).Perm (one b (.cells (xs ++ ex).toArray e (0, 0)) :: ro μ :: (E.X ++ L)) := List.Perm.cons _ (perm_out (.refl _))
    obtain ⟨μ', b1, b2, b3, b4⟩ := sat_lend (Sat.perm p _ a6)
    refine ⟨μ', b1, ⟨a4, some ⟨b, 0, none⟩, cap, a1, a2, a3, fun h => (by cases h), fun _ => ⟨b, 0, rfl, fun j u hj => ⟨_, _, _, b2, ?_⟩⟩⟩, ⟨h1, h2, h3, h4, Sat.perm (perm_out (.refl _)).symm _ b3⟩, fun μ'' hle => ?_⟩
    · have hlt : j < xs.length := (List.getElem?_eq_some_iff.1 hj).1
      simpa [List.getElem?_append_left hlt] using hj
    · obtain ⟨μ3, c1, c2⟩ := b4 μ'' hle
      refine ⟨μ3, c1, fun L' => (c2 L').trans ?_⟩
      rw [a1]
      exact own_close a4 a5 a2 a3
theorem swl_lend_own {ops : Array Oper} {ol : List Oper} {e n : Nat} {v : Value} {l : Nat} {xs : List Value} {L0 : List Assn} (hL : Split L0 [own e n v l xs, ro μ] L)
    (h : ∀ μ', Le μ μ' → Row μ' v n l xs → Back e n v l xs μ μ' → swl P rn ops Q N ol env (ro μ' :: L)) : swl P rn ops Q N ol env L0 := fun E D a w hd hf hh => by
  obtain ⟨μ', h1, h2, h3, h4⟩ := (hh.ent hL.ent).lend_own
  exact h μ' h1 h2 h4 E D a w hd hf h3
theorem swp_lend_own {c : Code} {e n : Nat} {v : Value} {l : Nat} {xs : List Value} {L0 : List Assn} (hL : Split L0 [own e n v l xs, ro μ] L)
    (h : ∀ μ', Le μ μ' → Row μ' v n l xs → Back e n v l xs μ μ' → swp P rn c Q N env (ro μ' :: L)) : swp P rn c Q N env L0 := fun E D a w hd hf hh => by
  obtain ⟨μ', h1, h2, h3, h4⟩ := (hh.ent hL.ent).lend_own
  exact h μ' h1 h2 h4 E D a w hd hf h3
theorem pu_slice_mid {t e n by_ : Nat} [h : TSl P t e n by_] {x y z : Operand} {A : Option Addr} {l c : Nat} {k1 k2 : IntKind} {lo hi : Int} (a b : Nat) (hx : evalE env x = some (.slice A l c)) (hy : evalE env y = some (.int k1 lo)) (hz : evalE env z = some (.int k2 hi)) (h1 : lo = (a : Int)) (h2 : hi = (b : Int)) (hab : a ≤ b) (hc : b ≤ c) :
    Pu P env (.slice t x (some y) (some z) none) (.slice (if c = a then A else A.map (·.add (a * n))) (b - a) (c - a)) := fun ρ hρ _ _ _ _ _ w => by
  obtain ⟨j, he, hj, hn, _⟩ := h.ok
  have h0 : (0 : Int) ≤ (a : Int) ∧ (a : Int) ≤ (b : Int) := ⟨by omega, by omega⟩
  have h00 : (0 : Int) ≤ (b : Int) ∧ (b : Int) ≤ (c : Int) := ⟨by omega, by omega⟩
  by_cases hck : c = a
  · subst hck
    simp [execOp, hρ x _ hx, hρ y _ hy, hρ z _ hz, h1, h2, Instr.sliceAt, run_underlying he, Instr.slice, Instr.sliceBounds, Instr.sliceBound, asIntOf, h0, h00, Go.sizeOf, typeInfo, hj, hab, hc]
  · simp [execOp, hρ x _ hx, hρ y _ hy, hρ z _ hz, h1, h2, Instr.sliceAt, run_underlying he, Instr.slice, Instr.sliceBounds, Instr.sliceBound, asIntOf, h0, h00, Go.sizeOf, typeInfo, hj, hck, hn, hab, hc]
theorem Row.mid {t e n by_ : Nat} [h : TSl P t e n by_] {v : Value} {l : Nat} {xs : List Value} (hr : Row μ v n l xs) (a b : Nat) (hab : a ≤ b) (hb : b ≤ l) :
    ∃ v', Row μ v' n (b - a) ((xs.take (b * n)).drop (a * n)) ∧ ∀ (env : Env) (x y z : Operand) (k1 k2 : IntKind) (lo hi : Int), evalE env x = some v → evalE env y = some (.int k1 lo) → evalE env z = some (.int k2 hi) → lo = (a : Int) → hi = (b : Int) → Pu P env (.slice t x (some y) (some z) none) v' := by
  obtain ⟨h0, A, cap, rfl, h2, h3, h4, h5⟩ := hr
  have hlt : (xs.take (b * n)).length = b * n := by rw [List.length_take, h0]; exact Nat.min_eq_left (Nat.mul_le_mul_right n hb)
  have hlen : ((xs.take (b * n)).drop (a * n)).length = (b - a) * n := by rw [List.length_drop, hlt, Nat.sub_mul]
  refine ⟨_, ⟨hlen, _, _, rfl, by omega, by omega, fun hA => ?_, fun hl => ?_⟩, fun env x y z k1 k2 lo hi hx hy hz e1 e2 => pu_slice_mid a b hx hy hz e1 e2 hab (by omega)⟩
  · split at hA
    · omega
    · rw [Option.map_eq_none_iff] at hA; have := h4 hA; omega
  · obtain ⟨bb, off, rfl, hr⟩ := h5 (by omega)
    rw [if_neg (by omega)]
    refine ⟨bb, off + a * n, by simp [addr_add], fun j u hj => ?_⟩
    rw [Nat.add_assoc]
    rw [List.getElem?_drop, List.getElem?_take] at hj
    split at hj
    · exact hr _ _ hj
    · cases hj
theorem flat_drop {β : Type} {f : β → List Value} (hf : ∀ e, (f e).length = 1) : ∀ (es : List β) (k : Nat), (es.flatMap f).drop k = (es.drop k).flatMap f
  | [], k => by simp
  | x :: es, 0 => rfl
  | x :: es, k + 1 => by
    obtain ⟨v, hv⟩ : ∃ v, f x = [v] := List.length_eq_one_iff.1 (hf x)
    rw [List.flatMap_cons, hv, List.singleton_append, List.drop_succ_cons, List.drop_succ_cons, flat_drop hf es k]
end
section
variable {P : Program} {tG : Nat}
theorem graph_mid {e by_ : Nat} [TSl P tG e 1 by_] {μ : PH} {v : Value} {G : List (Value × List Int)} (hG : Graph μ v G) (a m : Nat) (hm : a + m ≤ G.length) :
    ∃ v', Graph μ v' ((G.drop a).take m) ∧ ∀ (env : Env) (x y z : Operand) (k1 k2 : IntKind) (lo hi : Int), evalE env x = some v → evalE env y = some (.int k1 lo) → evalE env z = some (.int k2 hi) → lo = (a : Int) → hi = ((a + m : Nat) : Int) → Pu P env (.slice tG x (some y) (some z) none) v' := by
  obtain ⟨v', hr, hp⟩ := Row.mid (P := P) (t := tG) hG.1 a (a + m) (Nat.le_add_right _ _) hm
  have hl : (G.take (a + m)).drop a = (G.drop a).take m := by rw [List.take_drop]
  refine ⟨v', ⟨?_, fun x hx => hG.2 x (List.mem_of_mem_drop (List.mem_of_mem_take hx))⟩, hp⟩
  rw [Nat.mul_one, Nat.mul_one, flat_take (fun _ => rfl), flat_drop (fun _ => rfl), hl] at hr
  have e : ((G.drop a).take m).length = a + m - a := by rw [List.length_take, List.length_drop]; omega
  rw [e]; exact hr
theorem graph_drop {e by_ : Nat} [TSl P tG e 1 by_] {μ : PH} {v : Value} {G : List (Value × List Int)} (hG : Graph μ v G) (a : Nat) (ha : a ≤ G.length) :
    ∃ v', Graph μ v' (G.drop a) ∧ ∀ (env : Env) (x y : Operand) (k1 : IntKind) (lo : Int), evalE env x = some v → evalE env y = some (.int k1 lo) → lo = (a : Int) → Pu P env (.slice tG x (some y) none none) v' := by
  obtain ⟨v', hr, hp⟩ := Row.lo (P := P) (t := tG) hG.1 a ha
  refine ⟨v', ⟨?_, fun x hx => hG.2 x (List.mem_of_mem_drop hx)⟩, hp⟩
  rw [Nat.mul_one, flat_drop (fun _ => rfl)] at hr
  rw [List.length_drop]; exact hr
end
end SX
namespace SX
open Go
theorem Row.atk {k : IntKind} {μ : PH} {v : Value} {xs : List Int} (h : Row μ v 1 xs.length (xs.flatMap (icsk k))) {i : Nat} {x : Int} (hi : xs[i]? = some x) : ∃ b off cap, v = .slice (some ⟨b, off, none⟩) xs.length cap ∧ CellAt μ b (off + i * 1) (.int k x) := by
  have hlt := (List.getElem?_eq_some_iff.1 hi).1
  obtain ⟨b, off, cap, hv, _, _, hr⟩ := h.pos (by omega)
  exact ⟨b, off, cap, hv, (hr.elem (icsk_len k) hi).cell⟩
/-- a graph's numbers, reckoned in pieces -/
theorem more_piece {g : List (List Int)} {gs a : List Int} (h : moreG [] g = some gs) {m : Nat} (ha : moreG [] (g.take m) = some a) (n : Nat) :
    ∃ a', moreG [] (g.take (m + n)) = some a' ∧ moreG a ((g.drop m).take n) = some a' ∧ a'.length = a.length + ((g.drop m).take n).length ∧ a ++ a'.drop a.length = a' := by
  have e := moreG_append (g.take m) ((g.drop m).take n) []
  rw [← List.take_add, ha] at e
  cases h1 : moreG [] (g.take (m + n)) with
  | none => rw [moreG_none h1] at h; cases h
  | some a' =>
    rw [h1] at e
    have e' : moreG a ((g.drop m).take n) = some a' := e.symm
    obtain ⟨k1, k2⟩ := moreG_len e'
    refine ⟨a', rfl, e', k1, ?_⟩
    have := List.take_append_drop a.length a'
    rwa [k2] at this
theorem gens_min {g : List (List Int)} {gs : List Int} (h : moreG [] g = some gs) {i : Nat} {r : List Int} (hi : g[i]? = some r) : gs[i]? = some (min (hiG (valsG gs r) + 1) 1023) := by
  have h1 := (gens_at h hi).1
  have h2 := gens_range h i _ h1
  rw [h1]
  congr 1
  have := h2.2.1
  unfold nxt at this ⊢
  split at this <;> simp_all <;> omega
end SX
namespace SX
open Go Go.ChangeShapes
section
variable {H : Type} {enc : TypeId × Value → H}
theorem returns_sized {a : Assume} {C : Checked} {os : Os} {f : FuncId} {fn : Func} {s : ChangeSpec} {conds : List PathCond} {apart fresh handsOn again : Bool}
    (own : ownKnob C.prog.godebug = none) (started : os.Started) (noInit : C.prog.inits.idxOf? f = none) (hfn : C.prog.funcs[f]? = some fn)
    (witness : ∃ (w : World) (tape : Tape) (i : Input), w.os = os ∧ (w.forCall tape i).Shaped C.prog ∧ i.vars = [] ∧ Input.okWide C.prog (w.forCall tape i) .any w.heap.size f i ∧
      s.pre6 enc C.prog fn conds apart (w.forCall tape i).memory i.args ∧ a.holds C.prog (lone (Frame.enter C.prog f i.args .normal) [] (w.forCall tape i)))
    (contract : ∀ (W : World) (base : Nat) (args : Array Value) (ds gs : List (DataW H)) (before : List MemPlace),
      (∀ (j : Nat) t v, fn.params[j]? = some t → args[j]? = some v → Value.okWide C.prog W .any base t v) →
      DataW.Whole enc C.prog fn.params.toList s.vars apart W args.toList ds gs before →
      (DataW.weightsEach C.prog (fn.params.toList ++ s.plain.varTypes C.prog) (ds ++ gs)).all (· ≤ reachBytes) = true →
      Calls C.prog f args W fun e W' => ∃ v, e = .returned v ∧ s.post enc C.prog fn apart fresh handsOn again W args v W') :
    ReturnsInHanded a C os f .any (s.pre6 enc C.prog fn conds apart) (s.post enc C.prog fn apart fresh handsOn again) := by
  refine returnsInHanded_of_calls own started noInit witness ?_
  intro w tape i _ _ _ hok hpre _
  obtain ⟨_, _, _, fn', hfn', _, _, _, _, hval⟩ := hok
  have e : fn' = fn := Option.some.inj (hfn'.symm.trans hfn)
  subst e
  obtain ⟨⟨ds, gs, before, hw, _⟩, hz⟩ := hpre
  have hw' := DataW.Whole.of_heap (w' := w.forCall tape i) (by rfl) hw
  refine (contract (w.forCall tape i) w.heap.size i.args ds gs before hval hw' (hz.weights hw)).mono fun e W' ⟨v, he, hp⟩ => ?_
  subst he
  exact ChangeSpec.post_blind hp
end
section
variable {H : Type} {P : Program}
theorem weights_at : ∀ {ts : List TypeId} {ds : List (DataW H)} {i : Nat} {t : TypeId} {d : DataW H}, ts[i]? = some t → ds[i]? = some d → (DataW.weightsEach P ts ds).all (· ≤ reachBytes) = true → (d.weights P t).all (· ≤ reachBytes) = true
  | t0 :: ts, d0 :: ds, 0, t, d, ht, hd, h => by
    obtain rfl := Option.some.inj ht
    obtain rfl := Option.some.inj hd
    rw [DataW.weightsEach, List.all_append, Bool.and_eq_true] at h
    exact h.1
  | t0 :: ts, d0 :: ds, i + 1, t, d, ht, hd, h => by
    rw [DataW.weightsEach, List.all_append, Bool.and_eq_true] at h
    exact weights_at (i := i) (by simpa using ht) (by simpa using hd) h.2
theorem weights_in {e : TypeId} : ∀ {ds : List (DataW H)} {d : DataW H}, d ∈ ds → (DataW.weightsAll P e ds).all (· ≤ reachBytes) = true → (d.weights P e).all (· ≤ reachBytes) = true
  | x :: ds, d, hd, h => by
    rw [DataW.weightsAll, List.all_append, Bool.and_eq_true] at h
    rcases List.mem_cons.1 hd with rfl | hd
    · exact h.1
    · exact weights_in hd h.2
/-- a slice: its length, and what is in it -/
theorem slice_sized {t e : TypeId} (ht : P.underlying t = some (.slice e)) (hb : 8 ≤ P.bytesOf e) {Ds sp : List (DataW H)} (h : ((DataW.slice Ds sp : DataW H).weights P t).all (· ≤ reachBytes) = true) : Ds.length ≤ 17592186043904 ∧ (DataW.weightsAll P e Ds).all (· ≤ reachBytes) = true := by
  rw [DataW.weights, ht] at h
  dsimp only at h
  rw [List.all_cons, List.all_append, Bool.and_eq_true, Bool.and_eq_true] at h
  have h1 : (Ds.length + sp.length) * P.bytesOf e ≤ reachBytes := of_decide_eq_true h.1
  have h2 : (Ds.length + sp.length) * 8 ≤ (Ds.length + sp.length) * P.bytesOf e := Nat.mul_le_mul_left _ hb
  have h3 : reachBytes = 140737488351232 := rfl
  exact ⟨by omega, h.2.1⟩
theorem ints_sized {t e : TypeId} (ht : P.underlying t = some (.slice e)) (hb : 8 ≤ P.bytesOf e) {xs : List Int} {d : DataW H} (h : (d.weights P t).all (· ≤ reachBytes) = true)
    (hd : (d = .nil ∧ xs = []) ∨ ∃ (Ds sp : List (DataW H)), d = .slice Ds sp ∧ Ds.length = xs.length) : xs.length ≤ 17592186043904 := by
  rcases hd with ⟨_, rfl⟩ | ⟨Ds, sp, rfl, hl⟩
  · exact Nat.zero_le _
  · rw [← hl]; exact (slice_sized ht hb h).1
theorem bytes_sized {t e : TypeId} (ht : P.underlying t = some (.slice e)) (hb : 1 ≤ P.bytesOf e) {xs : List Int} {d : DataW H} (h : (d.weights P t).all (· ≤ reachBytes) = true)
    (hd : (d = .nil ∧ xs = []) ∨ ∃ (Ds sp : List (DataW H)), d = .slice Ds sp ∧ Ds.length = xs.length) : xs.length ≤ 140737488351232 := by
  rcases hd with ⟨_, rfl⟩ | ⟨Ds, sp, rfl, hl⟩
  · exact Nat.zero_le _
  · rw [DataW.weights, ht] at h
    dsimp only at h
    rw [List.all_cons, Bool.and_eq_true] at h
    have h1 : (Ds.length + sp.length) * P.bytesOf e ≤ reachBytes := of_decide_eq_true h.1
    have h2 : (Ds.length + sp.length) * 1 ≤ (Ds.length + sp.length) * P.bytesOf e := Nat.mul_le_mul_left _ hb
    have h3 : reachBytes = 140737488351232 := rfl
    omega
theorem graph_sized {t q e : TypeId} (ht : P.underlying t = some (.slice q)) (hb : 8 ≤ P.bytesOf q) (hq : P.underlying q = some (.slice e)) (he : 8 ≤ P.bytesOf e) {xs : List (Value × List Int)} {d : DataW H} (h : (d.weights P t).all (· ≤ reachBytes) = true)
    (hd : (d = .nil ∧ xs = []) ∨ ∃ (Ds sp : List (DataW H)), d = .slice Ds sp ∧ Ds.length = xs.length ∧ ∀ (i : Nat) (a : Value × List Int) (D : DataW H), xs[i]? = some a → Ds[i]? = some D → (D = .nil ∧ a.2 = []) ∨ ∃ (Ds sp : List (DataW H)), D = .slice Ds sp ∧ Ds.length = a.2.length) :
    xs.length ≤ 17592186043904 ∧ ∀ x ∈ xs, x.2.length ≤ 17592186043904 := by
  rcases hd with ⟨_, rfl⟩ | ⟨Ds, sp, rfl, hl, hr⟩
  · exact ⟨Nat.zero_le _, fun x hx => by cases hx⟩
  · obtain ⟨h1, h2⟩ := slice_sized ht hb h
    refine ⟨by rw [← hl]; exact h1, fun x hx => ?_⟩
    obtain ⟨i, hi⟩ := List.getElem?_of_mem hx
    obtain ⟨D, hD⟩ : ∃ D, Ds[i]? = some D := ⟨_, List.getElem?_eq_getElem (by rw [hl]; exact (List.getElem?_eq_some_iff.1 hi).1)⟩
    exact ints_sized hq he (weights_in (List.mem_of_getElem? hD) h2) (hr i x D hi hD)
end
end SX
namespace SX
open Go Go.Proofs
instance : Body Try.prog 2 := ⟨_, Try.func2, rfl, by decide⟩
instance : Body Try.prog 3 := ⟨_, Try.func3, rfl, by decide⟩
instance : Body Try.prog 4 := ⟨_, Try.func4, rfl, by decide⟩
instance : Body Try.prog 5 := ⟨_, Try.func5, rfl, by decide⟩
instance : Body Try.prog 6 := ⟨_, Try.func6, rfl, by decide⟩
instance : Body Try.prog 7 := ⟨_, Try.func7, rfl, by decide⟩
instance : Body Try.prog 8 := ⟨_, Try.func8, rfl, by decide⟩
instance : Body Try.prog 9 := ⟨_, Try.func9, rfl, by decide⟩
instance : Body Try.prog 10 := ⟨_, Try.func10, rfl, by decide⟩
instance : Body Try.prog 11 := ⟨_, Try.func11, rfl, by decide⟩
instance : Body Try.prog 12 := ⟨_, Try.func12, rfl, by decide⟩
instance : Body Try.prog 13 := ⟨_, Try.func13, rfl, by decide⟩
instance : Body Try.prog 14 := ⟨_, Try.func14, rfl, by decide⟩
instance : Body Try.prog 15 := ⟨_, Try.func15, rfl, by decide⟩
instance : Body Try.prog 16 := ⟨_, Try.func16, rfl, by decide⟩
instance : Body Try.prog 17 := ⟨_, Try.func17, rfl, by decide⟩
instance : Body Try.prog 18 := ⟨_, Try.func18, rfl, by decide⟩
instance : Body Try.prog 19 := ⟨_, Try.func19, rfl, by decide⟩
instance : Body Try.prog 20 := ⟨_, Try.func20, rfl, by decide⟩
instance : Body Try.prog 21 := ⟨_, Try.func21, rfl, by decide⟩
instance : Body Try.prog 22 := ⟨_, Try.func22, rfl, by decide⟩
instance : Body Try.prog 23 := ⟨_, Try.func23, rfl, by decide⟩
instance : Body Try.prog 24 := ⟨_, Try.func24, rfl, by decide⟩
instance : Body Try.prog 25 := ⟨_, Try.func25, rfl, by decide⟩
instance : Body Try.prog 26 := ⟨_, Try.func26, rfl, by decide⟩
instance : Body Try.prog 27 := ⟨_, Try.func27, rfl, by decide⟩
instance : Body Try.prog 28 := ⟨_, Try.func28, rfl, by decide⟩
instance : Body Try.prog 29 := ⟨_, Try.func29, rfl, by decide⟩
instance : Body Try.prog 30 := ⟨_, Try.func30, rfl, by decide⟩
instance : Body Try.prog 31 := ⟨_, Try.func31, rfl, by decide⟩
instance : Body Try.prog 32 := ⟨_, Try.func32, rfl, by decide⟩
instance : Body Try.prog 33 := ⟨_, Try.func33, rfl, by decide⟩
instance : Body Try.prog 34 := ⟨_, Try.func34, rfl, by decide⟩
instance : Body Try.prog 35 := ⟨_, Try.func35, rfl, by decide⟩
instance : Body Try.prog 36 := ⟨_, Try.func36, rfl, by decide⟩
instance : Body Try.prog 37 := ⟨_, Try.func37, rfl, by decide⟩
instance : Body Try.prog 38 := ⟨_, Try.func38, rfl, by decide⟩
instance : Body Try.prog 39 := ⟨_, Try.func39, rfl, by decide⟩
instance : Body Try.prog 40 := ⟨_, Try.func40, rfl, by decide⟩
instance : Body Try.prog 41 := ⟨_, Try.func41, rfl, by decide⟩
instance : Body Try.prog 42 := ⟨_, Try.func42, rfl, by decide⟩
instance : Body Try.prog 43 := ⟨_, Try.func43, rfl, by decide⟩
instance : Body Try.prog 44 := ⟨_, Try.func44, rfl, by decide⟩
instance : Body Try.prog 45 := ⟨_, Try.func45, rfl, by decide⟩
instance : Body Try.prog 46 := ⟨_, Try.func46, rfl, by decide⟩
instance : Body Try.prog 47 := ⟨_, Try.func47, rfl, by decide⟩
instance : Body Try.prog 48 := ⟨_, Try.func48, rfl, by decide⟩
instance : Body Try.prog 49 := ⟨_, Try.func49, rfl, by decide⟩
instance : Body Try.prog 50 := ⟨_, Try.func50, rfl, by decide⟩
instance : Body Try.prog 51 := ⟨_, Try.func51, rfl, by decide⟩
instance : Body Try.prog 52 := ⟨_, Try.func52, rfl, by decide⟩
instance : Body Try.prog 53 := ⟨_, Try.func53, rfl, by decide⟩
instance : Body Try.prog 54 := ⟨_, Try.func54, rfl, by decide⟩
instance : Body Try.prog 55 := ⟨_, Try.func55, rfl, by decide⟩
instance : TOne Try.prog 3 := ⟨by kernel_rfl, by kernel_rfl⟩
instance : TZero Try.prog 3 [(.int .i64 0)] := ⟨by kernel_rfl⟩
instance : TInt Try.prog 3 .i64 := ⟨Try.underlying3⟩
instance : TConc Try.prog 3 := ⟨_, Try.underlying3, rfl⟩
instance : TOne Try.prog 4 := ⟨by kernel_rfl, by kernel_rfl⟩
instance : TZero Try.prog 4 [(.bool false)] := ⟨by kernel_rfl⟩
instance : TBool Try.prog 4 := ⟨Try.underlying4⟩
instance : TConc Try.prog 4 := ⟨_, Try.underlying4, rfl⟩
instance : TOne Try.prog 5 := ⟨by kernel_rfl, by kernel_rfl⟩
instance : TZero Try.prog 5 [(.int .u8 0)] := ⟨by kernel_rfl⟩
instance : TInt Try.prog 5 .u8 := ⟨Try.underlying5⟩
instance : TConc Try.prog 5 := ⟨_, Try.underlying5, rfl⟩
instance : TOne Try.prog 9 := ⟨by kernel_rfl, by kernel_rfl⟩
instance : TZero Try.prog 9 [(.string ⟨#[]⟩)] := ⟨by kernel_rfl⟩
instance : TStr Try.prog 9 := ⟨Try.underlying9⟩
instance : TConc Try.prog 9 := ⟨_, Try.underlying9, rfl⟩
instance : TOne Try.prog 22 := ⟨by kernel_rfl, by kernel_rfl⟩
instance : TZero Try.prog 22 [(.slice none 0 0)] := ⟨by kernel_rfl⟩
instance : TSl Try.prog 22 3 1 8 := ⟨Try.underlying22, by kernel_rfl⟩
instance : TConc Try.prog 22 := ⟨_, Try.underlying22, rfl⟩
instance : TOne Try.prog 30 := ⟨by kernel_rfl, by kernel_rfl⟩
instance : TZero Try.prog 30 [(.slice none 0 0)] := ⟨by kernel_rfl⟩
instance : TSl Try.prog 30 22 1 24 := ⟨Try.underlying30, by kernel_rfl⟩
instance : TConc Try.prog 30 := ⟨_, Try.underlying30, rfl⟩
instance : TOne Try.prog 32 := ⟨by kernel_rfl, by kernel_rfl⟩
instance : TZero Try.prog 32 [(.int .i64 0)] := ⟨by kernel_rfl⟩
instance : TInt Try.prog 32 .i64 := ⟨Try.underlying32⟩
instance : TConc Try.prog 32 := ⟨_, Try.underlying32, rfl⟩
instance : TOne Try.prog 40 := ⟨by kernel_rfl, by kernel_rfl⟩
instance : TZero Try.prog 40 [(.slice none 0 0)] := ⟨by kernel_rfl⟩
instance : TSl Try.prog 40 5 1 1 := ⟨Try.underlying40, by kernel_rfl⟩
instance : TConc Try.prog 40 := ⟨_, Try.underlying40, rfl⟩
instance : TOne Try.prog 42 := ⟨by kernel_rfl, by kernel_rfl⟩
instance : TZero Try.prog 42 [(.slice none 0 0)] := ⟨by kernel_rfl⟩
instance : TSl Try.prog 42 4 1 1 := ⟨Try.underlying42, by kernel_rfl⟩
instance : TConc Try.prog 42 := ⟨_, Try.underlying42, rfl⟩
instance : TOne Try.prog 45 := ⟨by kernel_rfl, by kernel_rfl⟩
instance : TZero Try.prog 45 [(.int .u16 0)] := ⟨by kernel_rfl⟩
instance : TInt Try.prog 45 .u16 := ⟨Try.underlying45⟩
instance : TConc Try.prog 45 := ⟨_, Try.underlying45, rfl⟩
instance : TOne Try.prog 51 := ⟨by kernel_rfl, by kernel_rfl⟩
instance : TZero Try.prog 51 [.nilFunc] := ⟨by kernel_rfl⟩
instance : TFn Try.prog 51 := ⟨_, _, _, Try.underlying51⟩
instance : TConc Try.prog 51 := ⟨_, Try.underlying51, rfl⟩
instance : TOne Try.prog 54 := ⟨by kernel_rfl, by kernel_rfl⟩
instance : TZero Try.prog 54 [.nilFunc] := ⟨by kernel_rfl⟩
instance : TFn Try.prog 54 := ⟨_, _, _, Try.underlying54⟩
instance : TConc Try.prog 54 := ⟨_, Try.underlying54, rfl⟩
instance : TOne Try.prog 58 := ⟨by kernel_rfl, by kernel_rfl⟩
instance : TZero Try.prog 58 [(.int .u64 0)] := ⟨by kernel_rfl⟩
instance : TInt Try.prog 58 .u64 := ⟨Try.underlying58⟩
instance : TConc Try.prog 58 := ⟨_, Try.underlying58, rfl⟩
instance : TOne Try.prog 60 := ⟨by kernel_rfl, by kernel_rfl⟩
instance : TZero Try.prog 60 [(.int .i64 0)] := ⟨by kernel_rfl⟩
instance : TInt Try.prog 60 .i64 := ⟨Try.underlying60⟩
instance : TConc Try.prog 60 := ⟨_, Try.underlying60, rfl⟩
instance : TOne Try.prog 68 := ⟨by kernel_rfl, by kernel_rfl⟩
instance : TZero Try.prog 68 [(.int .u32 0)] := ⟨by kernel_rfl⟩
instance : TInt Try.prog 68 .u32 := ⟨Try.underlying68⟩
instance : TConc Try.prog 68 := ⟨_, Try.underlying68, rfl⟩
instance : TOne Try.prog 70 := ⟨by kernel_rfl, by kernel_rfl⟩
instance : TZero Try.prog 70 [(.int .u64 0)] := ⟨by kernel_rfl⟩
instance : TInt Try.prog 70 .u64 := ⟨Try.underlying70⟩
instance : TConc Try.prog 70 := ⟨_, Try.underlying70, rfl⟩
instance : TOne Try.prog 71 := ⟨by kernel_rfl, by kernel_rfl⟩
instance : TZero Try.prog 71 [(.int .u64 0)] := ⟨by kernel_rfl⟩
instance : TInt Try.prog 71 .u64 := ⟨Try.underlying71⟩
instance : TConc Try.prog 71 := ⟨_, Try.underlying71, rfl⟩
instance : TOne Try.prog 75 := ⟨by kernel_rfl, by kernel_rfl⟩
instance : TZero Try.prog 75 [(.pointer none)] := ⟨by kernel_rfl⟩
instance : TPtr Try.prog 75 := ⟨_, Try.underlying75⟩
instance : TConc Try.prog 75 := ⟨_, Try.underlying75, rfl⟩
instance : TOne Try.prog 77 := ⟨by kernel_rfl, by kernel_rfl⟩
instance : TZero Try.prog 77 [(.pointer none)] := ⟨by kernel_rfl⟩
instance : TPtr Try.prog 77 := ⟨_, Try.underlying77⟩
instance : TConc Try.prog 77 := ⟨_, Try.underlying77, rfl⟩
end SX
namespace SX
open Go Go.Proofs

set_option maxHeartbeats 1000000 in
theorem rcheck_spec (μ : PH) (v : Value) (G : List (Value × List Int)) (hG : Graph μ v G) (hbig : G.length ≤ 1099511627776) : Spec Try.prog 20 [v] [ro μ] (fun r L => r = .int .i64 (chkFrom 0 (nums G)) ∧ L = [ro μ]) := by
  obtain ⟨A, cap, hv⟩ := hG.1.sl
  subst hv
  refine Spec.of 49 Try.func20 rfl rfl rfl ?_
  refine swp_seq ?_
  refine swp_region ?_
  refine s_pu (pu_assign rfl) ?_
  refine swl_sub _ (.cons (t := 0) rfl .nil) ?_
  refine swl_nil ?_
  refine then_n ?_
  refine swp_seq ?_
  refine swp_seq ?_
  refine swp_region ?_
  refine s_pu (pu_assign rfl) ?_
  refine swl_sub _ (.cons (t := 0) rfl (.cons (t := 3) rfl .nil)) ?_
  refine swl_nil ?_
  refine then_n ?_
  refine swp_block ?_
  refine swp_loop (ι := Nat) (fun i env L => env = [(0, .slice A G.length cap), (3, .int .i64 (i : Nat))] ∧ L = [ro μ] ∧ i ≤ G.length ∧ chkFrom i ((nums G).drop i) = chkFrom 0 (nums G)) (fun i => G.length - i) 0 ⟨rfl, rfl, Nat.zero_le _, rfl⟩ ?_
  rintro i env L ⟨rfl, rfl, hi, hch⟩
  refine swp_seq ?_
  refine swp_seq ?_
  refine swp_region ?_
  refine s_pu (pu_move rfl) ?_
  refine s_pu (pu_move rfl) ?_
  refine s_pu (pu_len rfl) ?_
  refine s_pu (pu_lss rfl rfl) ?_
  refine swl_sub _ (.cons (t := 0) rfl (.cons (t := 3) rfl (.cons (t := 10) rfl .nil))) ?_
  refine swl_nil ?_
  refine then_n ?_
  refine swp_cond (b := _) rfl (fun h10 => ?_) (fun h10 => ?_)
  · skip   -- 10 T
    have h10' : i < G.length := by have := of_decide_eq_true h10; omega
    obtain ⟨gb, off, cap', hv, c1, c2, hr⟩ := hG.1.pos (by omega)
    simp only [Value.slice.injEq, true_and] at hv
    obtain ⟨rfl, rfl⟩ := hv
    obtain ⟨x, hx⟩ : ∃ x, G[i]? = some x := ⟨_, List.getElem?_eq_getElem h10'⟩
    have hrk := hr.elem gcs_len hx
    have hxr := hG.2 x (List.mem_of_getElem? hx)
    have hxs := hxr.small
    have hci := chkFrom_at (g := nums G) (i := i) (l := x.2) (by rw [List.getElem?_map, hx]; rfl)
    rw [hch] at hci
    refine swp_skip ?_
    refine then_n ?_
    refine swp_seq ?_
    refine swp_block ?_
    refine swp_seq ?_
    refine swp_region ?_
    refine s_pu (pu_assign rfl) ?_
    refine swl_sub _ (.cons (t := 0) rfl (.cons (t := 3) rfl (.cons (t := 4) rfl .nil))) ?_
    refine swl_nil ?_
    refine then_n ?_
    refine swp_seq ?_
    refine swp_seq ?_
    refine swp_region ?_
    refine s_pu (pu_move rfl) ?_
    refine s_pu (pu_move rfl) ?_
    refine s_pu (pu_indexAddr (off + i * 1) rfl rfl (by omega) (by omega) (by rw [Int.toNat_natCast])) ?_
    refine s_rd (rd_ro rfl hrk.cell) ?_
    refine s_pu (pu_len_row hxr rfl) ?_
    refine s_pu (pu_gtr rfl rfl) ?_
    refine swl_sub _ (.cons (t := 0) rfl (.cons (t := 3) rfl (.cons (t := 4) rfl (.cons (t := 18) rfl .nil)))) ?_
    refine swl_nil ?_
    refine then_n ?_
    refine swp_cond (b := _) rfl (fun h18 => ?_) (fun h18 => ?_)
    · skip   -- 18 T
      refine swp_region ?_
      refine s_pu (pu_move rfl) ?_
      refine s_ef (ef_make1 i rfl rfl rfl (by omega) (by simp only [maxLen]; omega)) ?_
      rintro b20
      skip
      refine s_pu (pu_assign rfl) ?_
      refine swl_sub _ (.cons (t := 0) rfl (.cons (t := 3) rfl (.cons (t := 4) rfl .nil))) ?_
      refine swl_nil ?_
      refine then_n ?_
      refine swp_seq ?_
      refine swp_region ?_
      refine s_pu (pu_assign rfl) ?_
      refine swl_sub _ (.cons (t := 0) rfl (.cons (t := 3) rfl (.cons (t := 4) rfl (.cons (t := 5) rfl .nil)))) ?_
      refine swl_nil ?_
      refine then_n ?_
      refine swp_block ?_
      refine swp_loop (ι := Nat) (fun j env L => env = [(0, .slice (some ⟨gb, off, none⟩) G.length cap), (3, .int .i64 (i : Nat)), (4, .slice (some ⟨b20, 0, none⟩) i i), (5, .int .i64 (j : Nat))] ∧ L = [blk b20 4 (rbs i fun k => decide ((k : Int) ∈ x.2.take j)), ro μ] ∧ j ≤ x.2.length ∧ rowErr i (x.2.take j) (x.2.drop j) = rowErr i [] x.2) (fun j => x.2.length - j) 0 ⟨rfl, ?_, Nat.zero_le _, rfl⟩ ?_
      · have e : rbs i (fun k => decide ((k : Int) ∈ x.2.take 0)) = List.replicate i (.bool false) := by
          apply List.ext_getElem?
          intro j
          simp [rbs, List.getElem?_replicate]
          split <;> simp_all
        rw [e]
      rintro j env L ⟨rfl, rfl, hj, hre⟩
      refine swp_seq ?_
      refine swp_seq ?_
      refine swp_region ?_
      refine s_pu (pu_move rfl) ?_
      refine s_pu (pu_move rfl) ?_
      refine s_pu (pu_move rfl) ?_
      refine s_pu (pu_indexAddr (off + i * 1) rfl rfl (by omega) (by omega) (by rw [Int.toNat_natCast])) ?_
      refine s_rd (rd_ro rfl hrk.cell) ?_
      refine s_pu (pu_len_row hxr rfl) ?_
      refine s_pu (pu_lss rfl rfl) ?_
      refine swl_sub _ (.cons (t := 0) rfl (.cons (t := 3) rfl (.cons (t := 4) rfl (.cons (t := 5) rfl (.cons (t := 27) rfl .nil))))) ?_
      refine swl_nil ?_
      refine then_n ?_
      refine swp_cond (b := _) rfl (fun h27 => ?_) (fun h27 => ?_)
      · skip   -- 27 T
        have h27' : j < x.2.length := by have := of_decide_eq_true h27; omega
        obtain ⟨pb, poff, pcap, hpv, p1, p2, hpr⟩ := hxr.pos (by omega)
        obtain ⟨p, hp⟩ : ∃ p, x.2[j]? = some p := ⟨_, List.getElem?_eq_getElem h27'⟩
        have hpk := hpr.elem (icsk_len .i64) hp
        rw [rowErr_at hp] at hre
        refine swp_skip ?_
        refine then_n ?_
        refine swp_seq ?_
        refine swp_block ?_
        refine swp_seq ?_
        refine swp_region ?_
        refine s_pu (pu_move rfl) ?_
        refine s_pu (pu_move rfl) ?_
        refine s_pu (pu_indexAddr (off + i * 1) rfl rfl (by omega) (by omega) (by rw [Int.toNat_natCast])) ?_
        refine s_rd (rd_ro rfl (hpv ▸ hrk.cell)) ?_
        refine s_pu (pu_move rfl) ?_
        refine s_pu (pu_indexAddr (poff + j * 1) rfl rfl (by omega) (by omega) (by rw [Int.toNat_natCast])) ?_
        refine s_rd (rd_ro rfl hpk.cell) ?_
        refine s_pu (pu_assign rfl) ?_
        refine swl_sub _ (.cons (t := 0) rfl (.cons (t := 3) rfl (.cons (t := 4) rfl (.cons (t := 5) rfl (.cons (t := 6) rfl .nil))))) ?_
        refine swl_nil ?_
        refine then_n ?_
        refine swp_seq ?_
        refine swp_seq ?_
        refine swp_region ?_
        refine s_pu (pu_move rfl) ?_
        refine s_pu (pu_lss rfl rfl) ?_
        refine swl_sub _ (.cons (t := 0) rfl (.cons (t := 3) rfl (.cons (t := 4) rfl (.cons (t := 5) rfl (.cons (t := 6) rfl (.cons (t := 38) rfl .nil)))))) ?_
        refine swl_nil ?_
        refine then_n ?_
        refine swp_cond (b := _) rfl (fun h38 => ?_) (fun h38 => ?_)
        · skip   -- 38 T
          rw [if_pos (of_decide_eq_true h38)] at hre
          refine swp_seq ?_
          refine swp_region ?_
          refine s_pu (pu_assign rfl) ?_
          refine swl_sub _ (.cons (t := 2) rfl .nil) ?_
          refine swl_nil ?_
          refine then_n ?_
          refine swp_ret ?_
          refine then_r ?_
          refine block_r ?_
          refine then_r ?_
          refine then_r ?_
          refine block_r ?_
          refine block_r ?_
          refine then_r ?_
          refine then_r ?_
          refine block_r ?_
          refine then_r ?_
          exact done_ret [ro μ] (.tmp rfl .nil) ⟨by rw [hci, ← hre, if_neg (by decide)]; rfl, rfl⟩ (by repeat (first | exact Split.nil | (apply Split.cons; (repeat (first | with_reducible exact Take.here | apply Take.there)))))
        · skip   -- 38 F
          rw [if_neg (of_decide_eq_false h38)] at hre
          have h38' := of_decide_eq_false h38
          refine swp_skip ?_
          refine then_n ?_
          refine swp_seq ?_
          refine swp_seq ?_
          refine swp_region ?_
          refine s_pu (pu_move rfl) ?_
          refine s_pu (pu_move rfl) ?_
          refine s_pu (pu_geq rfl rfl) ?_
          refine swl_sub _ (.cons (t := 0) rfl (.cons (t := 3) rfl (.cons (t := 4) rfl (.cons (t := 5) rfl (.cons (t := 6) rfl (.cons (t := 41) rfl .nil)))))) ?_
          refine swl_nil ?_
          refine then_n ?_
          refine swp_cond (b := _) rfl (fun h41 => ?_) (fun h41 => ?_)
          · skip   -- 41 T
            rw [if_pos (of_decide_eq_true h41)] at hre
            refine swp_seq ?_
            refine swp_region ?_
            refine s_pu (pu_assign rfl) ?_
            refine swl_sub _ (.cons (t := 2) rfl .nil) ?_
            refine swl_nil ?_
            refine then_n ?_
            refine swp_ret ?_
            refine then_r ?_
            refine block_r ?_
            refine then_r ?_
            refine then_r ?_
            refine block_r ?_
            refine block_r ?_
            refine then_r ?_
            refine then_r ?_
            refine block_r ?_
            refine then_r ?_
            exact done_ret [ro μ] (.tmp rfl .nil) ⟨by rw [hci, ← hre, if_neg (by decide)]; rfl, rfl⟩ (by repeat (first | exact Split.nil | (apply Split.cons; (repeat (first | with_reducible exact Take.here | apply Take.there)))))
          · skip   -- 41 F
            rw [if_neg (of_decide_eq_false h41)] at hre
            have h41' := of_decide_eq_false h41
            obtain ⟨k, rfl⟩ : ∃ k : Nat, p = k := ⟨p.toNat, by omega⟩
            refine swp_skip ?_
            refine then_n ?_
            refine swp_seq ?_
            refine swp_seq ?_
            refine swp_region ?_
            refine s_pu (pu_move rfl) ?_
            refine s_pu (pu_move rfl) ?_
            refine s_pu (pu_indexAddr k rfl rfl (by omega) (by omega) (by omega)) ?_
            refine s_rd (rd_load rfl (rbs_get _ (by omega))) ?_
            refine swl_sub _ (.cons (t := 0) rfl (.cons (t := 3) rfl (.cons (t := 4) rfl (.cons (t := 5) rfl (.cons (t := 6) rfl (.cons (t := 45) rfl .nil)))))) ?_
            refine swl_nil ?_
            refine then_n ?_
            refine swp_cond (b := _) rfl (fun h45 => ?_) (fun h45 => ?_)
            · skip   -- 45 T
              rw [if_pos (of_decide_eq_true h45)] at hre
              refine swp_seq ?_
              refine swp_region ?_
              refine s_pu (pu_assign rfl) ?_
              refine swl_sub _ (.cons (t := 2) rfl .nil) ?_
              refine swl_nil ?_
              refine then_n ?_
              refine swp_ret ?_
              refine then_r ?_
              refine block_r ?_
              refine then_r ?_
              refine then_r ?_
              refine block_r ?_
              refine block_r ?_
              refine then_r ?_
              refine then_r ?_
              refine block_r ?_
              refine then_r ?_
              exact done_ret [ro μ] (.tmp rfl .nil) ⟨by rw [hci, ← hre, if_neg (by decide)]; rfl, rfl⟩ (by repeat (first | exact Split.nil | (apply Split.cons; (repeat (first | with_reducible exact Take.here | apply Take.there)))))
            · skip   -- 45 F
              rw [if_neg (of_decide_eq_false h45)] at hre
              refine swp_skip ?_
              refine then_n ?_
              refine swp_region ?_
              refine s_pu (pu_move rfl) ?_
              refine s_pu (pu_move rfl) ?_
              refine s_pu (pu_indexAddr k rfl rfl (by omega) (by omega) (by omega)) ?_
              refine s_ef0 (ef_storeP rfl rfl rfl (by rw [rbs_len]; omega)) ?_
              refine swl_sub _ (.cons (t := 0) rfl (.cons (t := 3) rfl (.cons (t := 4) rfl (.cons (t := 5) rfl .nil)))) ?_
              rw [rbs_set (T := fun y => decide ((y : Int) ∈ x.2.take (j + 1))) (fun y hy => by
                rw [List.take_add_one, hp]
                by_cases e : y = k
                · subst e; simp
                · have : (y : Int) ≠ k := by omega
                  simp [e, this])]
              refine swl_nil ?_
              refine block_n ?_
              refine then_n ?_
              refine swp_region ?_
              refine s_pu (pu_move rfl) ?_
              refine s_pu (pu_add_as ((j + 1 : Nat) : Int) rfl rfl (by omega) (by omega) (by omega)) ?_
              refine s_pu (pu_assign rfl) ?_
              refine swl_sub _ (.cons (t := 0) rfl (.cons (t := 3) rfl (.cons (t := 4) rfl (.cons (t := 5) rfl .nil)))) ?_
              refine swl_nil ?_
              exact then_n ⟨j + 1, ⟨rfl, rfl, h27', hre⟩, by omega⟩
      · skip   -- 27 F
        have hz : chkFrom 0 (nums G) = chkFrom (i + 1) ((nums G).drop (i + 1)) := by
          first
          | (have h27' := of_decide_eq_false h27
             obtain rfl : j = x.2.length := by omega
             rw [List.drop_length] at hre
             have hz : rowErr i [] x.2 = 0 := hre.symm
             rw [if_pos hz] at hci
             exact hci)
          | (have hz : rowErr i [] x.2 = 0 := by rw [List.eq_nil_of_length_eq_zero hx0]; rfl
             rw [if_pos hz] at hci
             exact hci)
        refine swp_exit ?_
        refine then_x ?_
        refine then_x ?_
        refine block_hit rfl ?_
        refine block_n ?_
        refine then_n ?_
        refine swp_region ?_
        refine s_pu (pu_move rfl) ?_
        refine s_pu (pu_add_as ((i + 1 : Nat) : Int) rfl rfl (by omega) (by omega) (by omega)) ?_
        refine s_pu (pu_assign rfl) ?_
        refine swl_sub _ (.cons (t := 0) rfl (.cons (t := 3) rfl .nil)) ?_
        refine swl_ent (Split.ent' (K := [ro μ]) (by repeat (first | exact Split.nil | (apply Split.cons; (repeat (first | with_reducible exact Take.here | apply Take.there)))))) ?_
        refine swl_nil ?_
        exact then_n ⟨i + 1, ⟨rfl, rfl, h10', hz.symm⟩, by omega⟩
    · skip   -- 18 F
      have h18' := of_decide_eq_false h18
      have hx0 : x.2.length = 0 := by omega
      refine swp_skip ?_
      refine then_n ?_
      refine swp_seq ?_
      refine swp_region ?_
      refine s_pu (pu_assign rfl) ?_
      refine swl_sub _ (.cons (t := 0) rfl (.cons (t := 3) rfl (.cons (t := 4) rfl (.cons (t := 5) rfl .nil)))) ?_
      refine swl_nil ?_
      refine then_n ?_
      refine swp_block ?_
      refine swp_sub _ (.cons (t := 0) rfl (.cons (t := 3) rfl (.cons (t := 4) rfl (.cons (t := 5) rfl .nil)))) ?_
      refine swp_loop (ι := Nat) (fun j env L => env = [(0, .slice (some ⟨gb, off, none⟩) G.length cap), (3, .int .i64 (i : Nat)), (4, .slice none 0 0), (5, .int .i64 0)] ∧ L = [ro μ]) (fun j => j) 0 ⟨rfl, rfl⟩ ?_
      rintro j env L ⟨rfl, rfl⟩
      refine swp_seq ?_
      refine swp_seq ?_
      refine swp_region ?_
      refine s_pu (pu_move rfl) ?_
      refine s_pu (pu_move rfl) ?_
      refine s_pu (pu_move rfl) ?_
      refine s_pu (pu_indexAddr (off + i * 1) rfl rfl (by omega) (by omega) (by rw [Int.toNat_natCast])) ?_
      refine s_rd (rd_ro rfl hrk.cell) ?_
      refine s_pu (pu_len_row hxr rfl) ?_
      refine s_pu (pu_lss rfl rfl) ?_
      refine swl_sub _ (.cons (t := 0) rfl (.cons (t := 3) rfl (.cons (t := 4) rfl (.cons (t := 5) rfl (.cons (t := 27) rfl .nil))))) ?_
      refine swl_nil ?_
      refine then_n ?_
      refine swp_cond (b := _) rfl (fun h27 => by have := of_decide_eq_true h27; omega) (fun h27 => ?_)
      have hz : chkFrom 0 (nums G) = chkFrom (i + 1) ((nums G).drop (i + 1)) := by
        first
        | (have h27' := of_decide_eq_false h27
           obtain rfl : j = x.2.length := by omega
           rw [List.drop_length] at hre
           have hz : rowErr i [] x.2 = 0 := hre.symm
           rw [if_pos hz] at hci
           exact hci)
        | (have hz : rowErr i [] x.2 = 0 := by rw [List.eq_nil_of_length_eq_zero hx0]; rfl
           rw [if_pos hz] at hci
           exact hci)
      refine swp_exit ?_
      refine then_x ?_
      refine then_x ?_
      refine block_hit rfl ?_
      refine block_n ?_
      refine then_n ?_
      refine swp_region ?_
      refine s_pu (pu_move rfl) ?_
      refine s_pu (pu_add_as ((i + 1 : Nat) : Int) rfl rfl (by omega) (by omega) (by omega)) ?_
      refine s_pu (pu_assign rfl) ?_
      refine swl_sub _ (.cons (t := 0) rfl (.cons (t := 3) rfl .nil)) ?_
      refine swl_ent (Split.ent' (K := [ro μ]) (by repeat (first | exact Split.nil | (apply Split.cons; (repeat (first | with_reducible exact Take.here | apply Take.there)))))) ?_
      refine swl_nil ?_
      exact then_n ⟨i + 1, ⟨rfl, rfl, h10', hz.symm⟩, by omega⟩
  · skip   -- 10 F
    refine swp_exit ?_
    refine then_x ?_
    refine then_x ?_
    refine block_hit rfl ?_
    refine then_n ?_
    refine swp_seq ?_
    refine swp_region ?_
    refine s_pu (pu_assign rfl) ?_
    refine swl_sub _ (.cons (t := 2) rfl .nil) ?_
    refine swl_nil ?_
    refine then_n ?_
    refine swp_ret ?_
    have h10' := of_decide_eq_false h10
    have hd : (nums G).drop i = [] := List.drop_eq_nil_of_le (by rw [List.length_map]; omega)
    rw [hd] at hch
    exact done_ret [ro μ] (.tmp rfl .nil) ⟨by rw [← hch]; rfl, rfl⟩ (by repeat (first | exact Split.nil | (apply Split.cons; (repeat (first | with_reducible exact Take.here | apply Take.there)))))
end SX
namespace SX
open Go Go.Proofs

theorem row_at {μ : PH} {v : Value} {G : List (Value × List Int)} (hG : Graph μ v G) {i : Nat} (hi : i < G.length) : ∃ gb off cap x, v = .slice (some ⟨gb, off, none⟩) G.length cap ∧ G[i]? = some x ∧ CellAt μ gb (off + i * 1) x.1 ∧ Row μ x.1 1 x.2.length (x.2.flatMap (icsk .i64)) ∧ (nums G)[i]? = some x.2 := by
  obtain ⟨gb, off, cap, hv, _, _, hr⟩ := hG.1.pos (by omega)
  have hx : G[i]? = some G[i] := List.getElem?_eq_getElem hi
  exact ⟨gb, off, cap, G[i], hv, hx, (hr.elem gcs_len hx).cell, hG.2 _ (List.mem_of_getElem? hx), by rw [List.getElem?_map, hx]; rfl⟩
theorem icells_drop (xs : List Int) (k : Nat) : (xs.flatMap (icsk .i64)).drop (k * 1) = (xs.drop k).flatMap (icsk .i64) := by
  rw [Nat.mul_one]
  induction xs generalizing k with
  | nil => simp
  | cons a l ih =>
    cases k with
    | zero => rfl
    | succ k => exact ih k
theorem shape_len {v : Value} {l : Nat} (h : Shape v l) : ∃ A cap, v = .slice A l cap := by
  rcases h with ⟨h1, h2⟩ | ⟨b, cap, h1, _⟩
  · exact ⟨none, 0, by rw [h1, h2]⟩
  · exact ⟨_, _, h1⟩
/-- the answer: numbers, and the error -/
def moreL (K : List Int) (g : List (List Int)) : List Int := match moreG K g with
  | some all => all.drop K.length
  | none => []
def moreE (K : List Int) (g : List (List Int)) : Int := match moreG K g with
  | some _ => 0
  | none => 1
theorem moreL_some {K a : List Int} {g : List (List Int)} (h : moreG K g = some a) : moreL K g = a.drop K.length ∧ moreE K g = 0 := by unfold moreL moreE; rw [h]; exact ⟨rfl, rfl⟩
theorem moreL_none {K : List Int} {g : List (List Int)} (h : moreG K g = none) : moreL K g = [] ∧ moreE K g = 1 := by unfold moreL moreE; rw [h]; exact ⟨rfl, rfl⟩
end SX
namespace SX
open Go Go.Proofs

theorem counted_spec (n : Int) : Spec Try.prog 25 [.int .i64 n] [] (fun r L => r = .int .i64 (cnt n) ∧ L = []) := by
  refine Spec.of 7 Try.func25 rfl rfl rfl ?_
  refine swp_seq ?_
  refine swp_region ?_
  refine s_pu (pu_assign rfl) ?_
  refine swl_sub _ (.cons (t := 0) rfl .nil) ?_
  refine swl_nil ?_
  refine then_n ?_
  refine swp_seq ?_
  refine swp_seq ?_
  refine swp_region ?_
  refine s_pu (pu_move rfl) ?_
  refine s_pu (pu_gtr rfl rfl) ?_
  refine swl_sub _ (.cons (t := 0) rfl (.cons (t := 4) rfl .nil)) ?_
  refine swl_nil ?_
  refine then_n ?_
  refine swp_cond (b := _) rfl (fun h4 => ?_) (fun h4 => ?_)
  · skip   -- 4 T
    refine swp_seq ?_
    refine swp_region ?_
    refine s_pu (pu_assign rfl) ?_
    refine swl_sub _ (.cons (t := 2) rfl .nil) ?_
    refine swl_nil ?_
    refine then_n ?_
    refine swp_ret ?_
    refine then_r ?_
    have h := of_decide_eq_true h4
    exact done_ret [] (.tmp rfl .nil) ⟨by unfold cnt; rw [if_pos h]; rfl, rfl⟩ (by repeat (first | exact Split.nil | (apply Split.cons; (repeat (first | with_reducible exact Take.here | apply Take.there)))))
  · skip   -- 4 F
    refine swp_skip ?_
    refine then_n ?_
    refine swp_seq ?_
    refine swp_region ?_
    refine s_pu (pu_move rfl) ?_
    refine s_pu (pu_max2 rfl rfl) ?_
    refine s_pu (pu_assign rfl) ?_
    refine swl_sub _ (.cons (t := 2) rfl .nil) ?_
    refine swl_nil ?_
    refine then_n ?_
    refine swp_ret ?_
    have h := of_decide_eq_false h4
    exact done_ret [] (.tmp rfl .nil) ⟨by unfold cnt; rw [if_neg h]; rfl, rfl⟩ (by repeat (first | exact Split.nil | (apply Split.cons; (repeat (first | with_reducible exact Take.here | apply Take.there)))))
theorem next_spec (v : Value) (xs : List Int) (L0 : List Assn) (hv : Ints Try.prog 3 L0 v xs) : Spec Try.prog 12 [v] L0 (fun r L => r = .int .i64 (nxt xs) ∧ L = L0) := by
  obtain ⟨A, cap, rfl, hl, ha⟩ := hv
  refine Spec.of 22 Try.func12 rfl rfl rfl ?_
  refine swp_seq ?_
  refine swp_region ?_
  refine s_pu (pu_assign rfl) ?_
  refine swl_sub _ (.cons (t := 0) rfl .nil) ?_
  refine swl_nil ?_
  refine then_n ?_
  refine swp_seq ?_
  refine swp_region ?_
  refine s_pu (pu_assign rfl) ?_
  refine swl_sub _ (.cons (t := 0) rfl (.cons (t := 3) rfl .nil)) ?_
  refine swl_nil ?_
  refine then_n ?_
  refine swp_seq ?_
  refine swp_seq ?_
  refine swp_region ?_
  refine s_pu (pu_move rfl) ?_
  refine s_pu (pu_len rfl) ?_
  refine s_pu (pu_move rfl) ?_
  refine swl_sub _ (.cons (t := 3) rfl (.cons (t := 6) rfl (.cons (t := 7) rfl (.cons (t := 8) rfl .nil)))) ?_
  refine swl_nil ?_
  refine then_n ?_
  refine swp_block ?_
  refine swp_loop (ι := Nat) (fun k env L => env = [(3, .int .i64 (hiG (xs.take k))), (6, .slice A xs.length cap), (7, .int .i64 (xs.length : Nat)), (8, .int .i64 (k : Nat))] ∧ L = L0 ∧ k ≤ xs.length) (fun k => xs.length - k) 0 ⟨rfl, rfl, Nat.zero_le _⟩ ?_
  rintro k env L ⟨rfl, rfl, hk⟩
  refine swp_seq ?_
  refine swp_region ?_
  refine s_pu (pu_lss rfl rfl) ?_
  refine swl_sub _ (.cons (t := 3) rfl (.cons (t := 6) rfl (.cons (t := 7) rfl (.cons (t := 8) rfl (.cons (t := 9) rfl .nil))))) ?_
  refine swl_nil ?_
  refine then_n ?_
  refine swp_seq ?_
  refine swp_cond (b := _) rfl (fun h9 => ?_) (fun h9 => ?_)
  · skip   -- 9 T
    have h9' : k < xs.length := by have := of_decide_eq_true h9; omega
    obtain ⟨b, off, rfl, hld⟩ := ha (by omega)
    obtain ⟨x, hx⟩ : ∃ x, xs[k]? = some x := ⟨_, List.getElem?_eq_getElem h9'⟩
    refine swp_skip ?_
    refine then_n ?_
    refine swp_seq ?_
    refine swp_block ?_
    refine swp_seq ?_
    refine swp_region ?_
    refine s_pu (pu_indexAddr (off + k * 1) rfl rfl (by omega) (by omega) (by rw [Int.toNat_natCast])) ?_
    refine s_rd (rd_of_ld rfl (by rw [Nat.mul_one]; exact hld k x hx)) ?_
    refine s_pu (pu_assign rfl) ?_
    refine swl_sub _ (.cons (t := 3) rfl (.cons (t := 5) rfl (.cons (t := 6) rfl (.cons (t := 7) rfl (.cons (t := 8) rfl .nil))))) ?_
    refine swl_nil ?_
    refine then_n ?_
    refine swp_region ?_
    refine s_pu (pu_move rfl) ?_
    refine s_pu (pu_move rfl) ?_
    refine s_ef (ef_fn (counted_spec x) rfl rfl (by repeat (first | exact Split.nil | (apply Split.cons; (repeat (first | with_reducible exact Take.here | apply Take.there)))))) ?_
    rintro v1 L1 ⟨rfl, rfl⟩
    refine swl_app ?_
    refine s_pu (pu_max2 rfl rfl) ?_
    refine s_pu (pu_assign rfl) ?_
    refine swl_sub _ (.cons (t := 3) rfl (.cons (t := 6) rfl (.cons (t := 7) rfl (.cons (t := 8) rfl .nil)))) ?_
    refine swl_nil ?_
    refine block_n ?_
    refine then_n ?_
    refine swp_region ?_
    refine s_pu (pu_add_as ((k + 1 : Nat) : Int) rfl rfl (by omega) (by omega) (by omega)) ?_
    refine s_pu (pu_move rfl) ?_
    refine swl_sub _ (.cons (t := 3) rfl (.cons (t := 6) rfl (.cons (t := 7) rfl (.cons (t := 8) rfl .nil)))) ?_
    refine swl_nil ?_
    exact then_n ⟨k + 1, ⟨by rw [List.take_add_one, hx]; show _ = [(3, Value.int .i64 (hiG (xs.take k ++ [x]))), _, _, _]; rw [hiG_append], rfl, h9'⟩, by omega⟩
  · skip   -- 9 F
    have h9' := of_decide_eq_false h9
    obtain rfl : k = xs.length := by omega
    rw [List.take_length]
    refine swp_exit ?_
    refine then_x ?_
    refine then_x ?_
    refine block_hit rfl ?_
    refine then_n ?_
    refine swp_seq ?_
    refine swp_seq ?_
    refine swp_region ?_
    refine s_pu (pu_move rfl) ?_
    refine s_pu (pu_geq rfl rfl) ?_
    refine swl_sub _ (.cons (t := 3) rfl (.cons (t := 18) rfl .nil)) ?_
    refine swl_nil ?_
    refine then_n ?_
    refine swp_cond (b := _) rfl (fun h18 => ?_) (fun h18 => ?_)
    · skip   -- 18 T
      refine swp_seq ?_
      refine swp_region ?_
      refine s_pu (pu_move rfl) ?_
      refine s_pu (pu_assign rfl) ?_
      refine swl_sub _ (.cons (t := 2) rfl .nil) ?_
      refine swl_nil ?_
      refine then_n ?_
      refine swp_ret ?_
      refine then_r ?_
      have h := of_decide_eq_true h18
      exact done_ret _ (.tmp rfl .nil) ⟨by unfold nxt; rw [if_pos h]; rfl, rfl⟩ Split.all
    · skip   -- 18 F
      refine swp_skip ?_
      refine then_n ?_
      refine swp_seq ?_
      have hr := hiG_range xs
      refine swp_region ?_
      refine s_pu (pu_move rfl) ?_
      first | refine s_pu (pu_add_in rfl rfl (by omega) (by omega)) ?_ | refine s_pu (pu_add rfl rfl) ?_
      refine s_pu (pu_assign rfl) ?_
      refine swl_sub _ (.cons (t := 2) rfl .nil) ?_
      refine swl_nil ?_
      refine then_n ?_
      refine swp_ret ?_
      have h := of_decide_eq_false h18
      exact done_ret _ (.tmp rfl .nil) ⟨by unfold nxt; rw [if_neg h]; rfl, rfl⟩ Split.all
theorem may_spec (a b : Int) : Spec Try.prog 15 [.int .i64 a, .int .i64 b] [] (fun r L => r = .bool (mayG a b) ∧ L = []) := by
  refine Spec.of 21 Try.func15 rfl rfl rfl ?_
  refine swp_seq ?_
  refine swp_region ?_
  refine s_pu (pu_assign rfl) ?_
  refine swl_sub _ (.cons (t := 0) rfl (.cons (t := 1) rfl .nil)) ?_
  refine swl_nil ?_
  refine then_n ?_
  refine swp_seq ?_
  refine swp_region ?_
  refine s_pu (pu_move rfl) ?_
  refine s_ef (ef_fn (counted_spec a) rfl rfl (by repeat (first | exact Split.nil | (apply Split.cons; (repeat (first | with_reducible exact Take.here | apply Take.there)))))) ?_
  rintro v1 L1 ⟨rfl, rfl⟩
  refine swl_app ?_
  refine s_pu (pu_move rfl) ?_
  refine s_ef (ef_fn (counted_spec b) rfl rfl (by repeat (first | exact Split.nil | (apply Split.cons; (repeat (first | with_reducible exact Take.here | apply Take.there)))))) ?_
  rintro v1 L1 ⟨rfl, rfl⟩
  refine swl_app ?_
  refine s_pu (pu_assign rfl) ?_
  refine s_pu (pu_assign rfl) ?_
  refine swl_sub _ (.cons (t := 0) rfl (.cons (t := 1) rfl .nil)) ?_
  refine swl_nil ?_
  refine then_n ?_
  refine swp_seq ?_
  refine swp_block ?_
  refine swp_seq ?_
  refine swp_region ?_
  refine s_pu (pu_move rfl) ?_
  refine s_pu (pu_eql rfl rfl) ?_
  refine s_pu (pu_assign rfl) ?_
  refine swl_sub _ (.cons (t := 0) rfl (.cons (t := 1) rfl (.cons (t := 9) rfl .nil))) ?_
  refine swl_nil ?_
  refine then_n ?_
  refine swp_cond (b := _) rfl (fun h9 => ?_) (fun h9 => ?_)
  · skip   -- 9 T
    refine swp_seq ?_
    refine swp_region ?_
    refine s_pu (pu_assign rfl) ?_
    refine swl_sub _ (.cons (t := 4) rfl .nil) ?_
    refine swl_nil ?_
    refine then_n ?_
    refine swp_ret ?_
    refine block_r ?_
    refine then_r ?_
    have h := of_decide_eq_true h9
    exact done_ret [] (.tmp rfl .nil) ⟨by unfold mayG; rw [if_pos h]; rfl, rfl⟩ (by repeat (first | exact Split.nil | (apply Split.cons; (repeat (first | with_reducible exact Take.here | apply Take.there)))))
  · skip   -- 9 F
    refine swp_seq ?_
    refine swp_region ?_
    refine s_pu (pu_move rfl) ?_
    refine s_pu (pu_eql rfl rfl) ?_
    refine s_pu (pu_assign rfl) ?_
    refine swl_sub _ (.cons (t := 0) rfl (.cons (t := 1) rfl (.cons (t := 12) rfl .nil))) ?_
    refine swl_nil ?_
    refine then_n ?_
    refine swp_cond (b := _) rfl (fun h12 => ?_) (fun h12 => ?_)
    · skip   -- 12 T
      refine swp_seq ?_
      refine swp_region ?_
      refine s_pu (pu_assign rfl) ?_
      refine swl_sub _ (.cons (t := 4) rfl .nil) ?_
      refine swl_nil ?_
      refine then_n ?_
      refine swp_ret ?_
      refine block_r ?_
      refine then_r ?_
      have h := of_decide_eq_false h9
      have h' := of_decide_eq_true h12
      exact done_ret [] (.tmp rfl .nil) ⟨by unfold mayG; rw [if_neg h, if_pos h']; rfl, rfl⟩ (by repeat (first | exact Split.nil | (apply Split.cons; (repeat (first | with_reducible exact Take.here | apply Take.there)))))
    · skip   -- 12 F
      refine swp_seq ?_
      refine swp_region ?_
      refine s_pu (pu_move rfl) ?_
      refine s_pu (pu_eql rfl rfl) ?_
      refine s_pu (pu_assign rfl) ?_
      refine swl_sub _ (.cons (t := 0) rfl (.cons (t := 1) rfl (.cons (t := 15) rfl .nil))) ?_
      refine swl_nil ?_
      refine then_n ?_
      refine swp_cond (b := _) rfl (fun h15 => ?_) (fun h15 => ?_)
      · skip   -- 15 T
        refine swp_seq ?_
        refine swp_region ?_
        refine s_pu (pu_assign rfl) ?_
        refine swl_sub _ (.cons (t := 4) rfl .nil) ?_
        refine swl_nil ?_
        refine then_n ?_
        refine swp_ret ?_
        refine block_r ?_
        refine then_r ?_
        have h := of_decide_eq_false h9
        have h' := of_decide_eq_false h12
        have h'' := of_decide_eq_true h15
        exact done_ret [] (.tmp rfl .nil) ⟨by unfold mayG; rw [if_neg h, if_neg h', if_pos h'']; rfl, rfl⟩ (by repeat (first | exact Split.nil | (apply Split.cons; (repeat (first | with_reducible exact Take.here | apply Take.there)))))
      · skip   -- 15 F
        refine swp_skip ?_
        refine block_n ?_
        refine then_n ?_
        refine swp_seq ?_
        refine swp_region ?_
        refine s_pu (pu_move rfl) ?_
        refine s_pu (pu_move rfl) ?_
        refine s_pu (pu_gtr rfl rfl) ?_
        refine s_pu (pu_assign rfl) ?_
        refine swl_sub _ (.cons (t := 4) rfl .nil) ?_
        refine swl_nil ?_
        refine then_n ?_
        refine swp_ret ?_
        have h := of_decide_eq_false h9
        have h' := of_decide_eq_false h12
        have h'' := of_decide_eq_false h15
        exact done_ret [] (.tmp rfl .nil) ⟨by unfold mayG; rw [if_neg h, if_neg h', if_neg h'']; rfl, rfl⟩ (by repeat (first | exact Split.nil | (apply Split.cons; (repeat (first | with_reducible exact Take.here | apply Take.there)))))
end SX
namespace SX
open Go Go.Proofs

theorem values_spec (μ : PH) (v : Value) (hv : ∃ A l c, v = .slice A l c) : Spec Try.prog 31 [v] [ro μ] (fun r L => ∃ b μ', r = .func (.func 34) #[] #[.pointer (some ⟨b, 0, none⟩)] ∧ Le μ μ' ∧ CellAt μ' b 0 v ∧ L = [ro μ']) := by
  obtain ⟨A, l, c, rfl⟩ := hv
  refine Spec.of 4 Try.func31 rfl rfl rfl ?_
  refine swp_seq ?_
  refine swp_region ?_
  refine s_ef (ef_box rfl rfl) ?_
  intro b1
  refine s_pu (pu_assign rfl) ?_
  refine swl_sub _ (.cons (t := 1) rfl .nil) ?_
  refine swl_share (b := b1) (μ := μ) (by repeat (first | exact Split.nil | (apply Split.cons; (repeat (first | with_reducible exact Take.here | apply Take.there))))) fun μ' h1 k1 => ?_
  refine swl_nil ?_
  refine then_n ?_
  refine swp_seq ?_
  refine swp_region ?_
  refine s_pu (pu_func (vs := []) (us := [_]) rfl rfl) ?_
  refine s_pu (pu_assign rfl) ?_
  refine swl_sub _ (.cons (t := 2) rfl .nil) ?_
  refine swl_nil ?_
  refine then_n ?_
  refine swp_ret ?_
  exact done_ret [ro μ'] (.tmp rfl .nil) ⟨b1, μ', rfl, h1, ⟨_, _, _, k1, rfl⟩, rfl⟩ (by repeat (first | exact Split.nil | (apply Split.cons; (repeat (first | with_reducible exact Take.here | apply Take.there)))))
theorem values_iter (μ : PH) (b : Nat) (v : Value) (xs : List Int) (hb : CellAt μ b 0 v) (hv : Row μ v 1 xs.length (xs.flatMap (icsk .i64))) :
    IterG Try.prog 34 [.pointer (some ⟨b, 0, none⟩)] (fun x : Int => [.int .i64 x]) (fun pre x => ∃ post, xs = pre ++ x :: post) (fun ys => ys = xs) [ro μ] (fun _ _ => ro μ) (fun _ _ => ro μ) (fun _ => ro μ) := by
  intro l I X R h0 hy
  have hs := hv.small
  obtain ⟨A, cap, hA⟩ := hv.sl
  refine Spec.of 16 Try.func34 rfl rfl rfl ?_
  refine swp_ent (L' := [ro μ, R]) (Ent.refl _) ?_
  refine swp_seq ?_
  refine swp_region ?_
  refine s_rd (rd_ro rfl hb) ?_
  refine s_pu (pu_len_row hv rfl) ?_
  refine s_pu (pu_move rfl) ?_
  refine swl_sub _ (.cons (t := 0) rfl (.cons (t := 5) rfl (.cons (t := 6) rfl (.cons (t := 7) rfl .nil)))) ?_
  refine swl_nil ?_
  refine then_n ?_
  refine swp_block ?_
  refine swp_ent ((Ent.cons h0).trans (Ent.perm (.swap _ _ _))) ?_
  refine swp_loop (ι := Nat) (fun k env L => env = [(0, yv l), (5, v), (6, .int .i64 (xs.length : Nat)), (7, .int .i64 (k : Nat))] ∧ L = [I (xs.take k), ro μ] ∧ k ≤ xs.length) (fun k => xs.length - k) 0 ⟨rfl, rfl, Nat.zero_le _⟩ ?_
  rintro k env L ⟨rfl, rfl, hk⟩
  refine swp_seq ?_
  refine swp_region ?_
  refine s_pu (pu_lss rfl rfl) ?_
  refine swl_sub _ (.cons (t := 0) rfl (.cons (t := 5) rfl (.cons (t := 6) rfl (.cons (t := 7) rfl (.cons (t := 8) rfl .nil))))) ?_
  refine swl_nil ?_
  refine then_n ?_
  refine swp_seq ?_
  refine swp_cond (b := _) rfl (fun h8 => ?_) (fun h8 => ?_)
  · skip   -- 8 T
    have h8' : k < xs.length := by have := of_decide_eq_true h8; omega
    obtain ⟨x, hx⟩ : ∃ x, xs[k]? = some x := ⟨_, List.getElem?_eq_getElem h8'⟩
    obtain ⟨xb, xo, xc, hxv, hxc⟩ := hv.at_ hx
    have hok : ∃ post, xs = xs.take k ++ x :: post := ⟨xs.drop (k + 1), by
      have e : xs[k] = x := (List.getElem?_eq_some_iff.1 hx).2
      rw [← e, ← List.drop_eq_getElem_cons h8', List.take_append_drop]⟩
    rw [hxv]
    refine swp_skip ?_
    refine then_n ?_
    refine swp_seq ?_
    refine swp_block ?_
    refine swp_seq ?_
    refine swp_region ?_
    refine s_pu (pu_indexAddr (xo + k * 1) rfl rfl (by omega) (by omega) (by rw [Int.toNat_natCast])) ?_
    refine s_rd (rd_ro rfl hxc) ?_
    refine s_pu (pu_assign rfl) ?_
    refine swl_sub _ (.cons (t := 0) rfl (.cons (t := 4) rfl (.cons (t := 5) rfl (.cons (t := 6) rfl (.cons (t := 7) rfl .nil))))) ?_
    refine swl_nil ?_
    refine then_n ?_
    refine swp_seq ?_
    refine swp_region ?_
    refine s_pu (pu_move rfl) ?_
    refine s_pu (pu_move rfl) ?_
    refine s_ef (ef_yield (hy (xs.take k) x hok) rfl rfl (by repeat (first | exact Split.nil | (apply Split.cons; (repeat (first | with_reducible exact Take.here | apply Take.there)))))) ?_
    rintro v1 L1 (⟨rfl, rfl⟩ | ⟨rfl, rfl⟩)
    · skip
      refine swl_app ?_
      refine s_pu (pu_not rfl) ?_
      refine swl_sub _ (.cons (t := 0) rfl (.cons (t := 5) rfl (.cons (t := 6) rfl (.cons (t := 7) rfl (.cons (t := 14) rfl .nil))))) ?_
      refine swl_nil ?_
      refine then_n ?_
      refine swp_cond (b := _) rfl (fun h14 => by cases h14) (fun h14 => ?_)
      refine swp_skip ?_
      refine block_n ?_
      refine then_n ?_
      refine swp_region ?_
      refine s_pu (pu_add_as ((k + 1 : Nat) : Int) rfl rfl (by omega) (by omega) (by omega)) ?_
      refine s_pu (pu_move rfl) ?_
      refine swl_sub _ (.cons (t := 0) rfl (.cons (t := 5) rfl (.cons (t := 6) rfl (.cons (t := 7) rfl .nil)))) ?_
      refine swl_nil ?_
      exact then_n ⟨k + 1, ⟨rfl, by rw [List.take_add_one, hx]; rfl, h8'⟩, by omega⟩
    · skip
      refine swl_app ?_
      refine s_pu (pu_not rfl) ?_
      refine swl_sub _ (.cons (t := 0) rfl (.cons (t := 5) rfl (.cons (t := 6) rfl (.cons (t := 7) rfl (.cons (t := 14) rfl .nil))))) ?_
      refine swl_nil ?_
      refine then_n ?_
      refine swp_cond (b := _) rfl (fun h14 => ?_) (fun h14 => by cases h14)
      refine swp_ret ?_
      refine block_r ?_
      refine then_r ?_
      refine then_r ?_
      refine block_r ?_
      exact done_ret [X] .nil (.inr rfl) (by repeat (first | exact Split.nil | (apply Split.cons; (repeat (first | with_reducible exact Take.here | apply Take.there)))))
  · skip   -- 8 F
    have h8' := of_decide_eq_false h8
    obtain rfl : k = xs.length := by omega
    rw [List.take_length]
    refine swp_exit ?_
    refine then_x ?_
    refine then_x ?_
    refine block_hit rfl ?_
    exact done_end [I xs, ro μ] .nil (.inl ⟨xs, rfl, rfl⟩) (by repeat (first | exact Split.nil | (apply Split.cons; (repeat (first | with_reducible exact Take.here | apply Take.there)))))
theorem ints_one (xs : List Int) (x : Int) : xs.flatMap (icsk .i64) ++ [.int .i64 x] = (xs ++ [x]).flatMap (icsk .i64) := by rw [List.flatMap_append]; rfl
theorem appseq_spec (μ : PH) (b : Nat) (v : Value) (xs : List Int) (hb : CellAt μ b 0 v) (hv : Row μ v 1 xs.length (xs.flatMap (icsk .i64))) (hl : xs.length ≤ 17592186043904) :
    Spec Try.prog 35 [.slice none 0 0, .func (.func 34) #[] #[.pointer (some ⟨b, 0, none⟩)]] [ro μ] (fun r L => L = [own 3 1 r xs.length (xs.flatMap (icsk .i64)), ro μ]) := by
  refine Spec.of 13 Try.func35 rfl rfl rfl ?_
  refine swp_seq ?_
  refine swp_region ?_
  refine s_ef (ef_box rfl rfl) ?_
  intro b2
  refine s_pu (pu_assign rfl) ?_
  refine swl_sub _ (.cons (t := 1) rfl (.cons (t := 2) rfl .nil)) ?_
  refine swl_ent (own_nil_ent (e := 3) (n := 1)) ?_
  refine swl_nil ?_
  refine then_n ?_
  refine swp_seq ?_
  refine swp_seq ?_
  refine swp_region ?_
  refine s_pu (pu_move rfl) ?_
  refine swl_sub _ (.cons (t := 2) rfl (.cons (t := 6) rfl .nil)) ?_
  refine swl_nil ?_
  refine then_n ?_
  refine swp_block ?_
  refine swp_rangeG (values_iter μ b v xs hb hv) (B := [own 3 1 (.slice none 0 0) 0 [], blk b2 22 [.slice none 0 0]]) (fun pre => exA fun u : Value => [blk b2 22 [u], own 3 1 u pre.length (pre.flatMap (icsk .i64))]) (fun _ => False) (fun _ _ => False) rfl rfl (fun _ => rfl) (Split.ent (by repeat (first | exact Split.nil | (apply Split.cons; (repeat (first | with_reducible exact Take.here | apply Take.there)))))) (Ent.swap.trans (ent_ex1 (F := fun u : Value => [blk b2 22 [u], own 3 1 u ([] : List Int).length (([] : List Int).flatMap (icsk .i64))]) (.slice none 0 0))) ?_ ?_ ?_ ?_
  · skip
    rintro ln pre x ⟨post, hpost⟩
    refine swp_ent star2 ?_
    refine swp_ex fun u => ?_
    refine swp_app ?_
    have hpl : pre.length < xs.length := by rw [hpost]; simp
    refine swp_front (A := own 3 1 u pre.length (pre.flatMap (icsk .i64))) (by repeat (first | with_reducible exact Take.here | apply Take.there)) ?_
    refine swp_fact (fun m h => own_form h) fun ⟨A, cap, hu⟩ => ?_
    subst hu
    refine swp_region ?_
    refine s_pu (pu_assign rfl) ?_
    refine swl_sub _ (.cons (t := 2) rfl (.cons (t := 5) rfl .nil)) ?_
    refine swl_nil ?_
    refine then_n ?_
    refine swp_block ?_
    refine swp_region ?_
    refine s_rd (rd_load rfl rfl) ?_
    refine s_pu (pu_move rfl) ?_
    refine s_ef (ef_bldS (qs := [(0, _)]) rfl rfl rfl) ?_
    intro b10
    refine s_ef (ef_append_lit (l := pre.length) (m := 1) rfl rfl (by repeat (first | exact Split.nil | (apply Split.cons; (repeat (first | with_reducible exact Take.here | apply Take.there))))) (by simp only [maxLen]; omega) (by omega)) ?_
    rintro v' hv'
    obtain ⟨g, cap', rfl⟩ := hv' (by omega)
    refine s_ef0 (ef_store rfl rfl rfl) ?_
    refine swl_sub _ .nil ?_
    rw [ints_one]
    refine swl_nil ?_
    refine block_n ?_
    refine rnd_n ?_
    refine (Split.ent' (K := [blk b2 22 [.slice (some ⟨g, 0, none⟩) (pre.length + 1) cap'], own 3 1 (.slice (some ⟨g, 0, none⟩) (pre.length + 1) cap') (pre.length + 1) ((pre ++ [x]).flatMap (icsk .i64)), ro μ]) (by repeat (first | exact Split.nil | (apply Split.cons; (repeat (first | with_reducible exact Take.here | apply Take.there)))))).trans ?_
    have e := ent_ex (F := fun u : Value => [blk b2 22 [u], own 3 1 u (pre ++ [x]).length ((pre ++ [x]).flatMap (icsk .i64))]) (L := [blk b2 22 [.slice (some ⟨g, 0, none⟩) (pre.length + 1) cap'], own 3 1 (.slice (some ⟨g, 0, none⟩) (pre.length + 1) cap') (pre ++ [x]).length ((pre ++ [x]).flatMap (icsk .i64)), ro μ]) (R := [ro μ]) (.slice (some ⟨g, 0, none⟩) (pre.length + 1) cap') (by repeat (first | exact Split.nil | (apply Split.cons; (repeat (first | with_reducible exact Take.here | apply Take.there)))))
    rw [List.length_append, List.length_singleton] at e
    refine e.trans ?_
    rw [show pre.length + 1 = (pre ++ [x]).length by simp]
    exact star_close1
  · skip
    rintro ys rfl
    refine block_n ?_
    refine then_n ?_
    refine swp_seq ?_
    refine swp_ex fun u => ?_
    refine swp_app ?_
    refine swp_region ?_
    refine s_rd (rd_load rfl rfl) ?_
    refine s_pu (pu_assign rfl) ?_
    refine swl_sub _ (.cons (t := 4) rfl .nil) ?_
    refine swl_nil ?_
    refine then_n ?_
    refine swp_ret ?_
    exact done_ret [own 3 1 u ys.length (ys.flatMap (icsk .i64)), ro μ] (.tmp rfl .nil) rfl (by repeat (first | exact Split.nil | (apply Split.cons; (repeat (first | with_reducible exact Take.here | apply Take.there)))))
  · exact swp_fact (p := False) (fun m h => by obtain ⟨_, _, h, _⟩ := h; exact h) False.elim
  · exact fun i => swp_fact (p := False) (fun m h => by obtain ⟨_, _, h, _⟩ := h; exact h) False.elim
theorem collect_spec (μ : PH) (b : Nat) (v : Value) (xs : List Int) (hb : CellAt μ b 0 v) (hv : Row μ v 1 xs.length (xs.flatMap (icsk .i64))) (hl : xs.length ≤ 17592186043904) :
    Spec Try.prog 32 [.func (.func 34) #[] #[.pointer (some ⟨b, 0, none⟩)]] [ro μ] (fun r L => L = [own 3 1 r xs.length (xs.flatMap (icsk .i64)), ro μ]) := by
  refine Spec.of 5 Try.func32 rfl rfl rfl ?_
  refine swp_seq ?_
  refine swp_region ?_
  refine s_pu (pu_assign rfl) ?_
  refine swl_sub _ (.cons (t := 0) rfl .nil) ?_
  refine swl_nil ?_
  refine then_n ?_
  refine swp_seq ?_
  refine swp_region ?_
  refine s_pu (pu_move rfl) ?_
  refine s_ef (ef_fn (appseq_spec μ b v xs hb hv hl) rfl rfl (by repeat (first | exact Split.nil | (apply Split.cons; (repeat (first | with_reducible exact Take.here | apply Take.there)))))) ?_
  rintro v1 L1 rfl
  refine swl_app ?_
  refine s_pu (pu_assign rfl) ?_
  refine swl_sub _ (.cons (t := 2) rfl .nil) ?_
  refine swl_nil ?_
  refine then_n ?_
  refine swp_ret ?_
  exact done_ret [own 3 1 v1 xs.length (xs.flatMap (icsk .i64)), ro μ] (.tmp rfl .nil) rfl (by repeat (first | exact Split.nil | (apply Split.cons; (repeat (first | with_reducible exact Take.here | apply Take.there)))))
/-- a copy of a slice that may be read -/
theorem clone_ro (μ : PH) (v : Value) (xs : List Int) (hv : Row μ v 1 xs.length (xs.flatMap (icsk .i64))) (hl : xs.length ≤ 17592186043904) :
    Spec Try.prog 27 [v] [ro μ] (fun r L => L = [own 3 1 r xs.length (xs.flatMap (icsk .i64)), ro μ]) := by
  obtain ⟨A, cap, rfl⟩ := hv.sl
  refine Spec.of 8 Try.func27 rfl rfl rfl ?_
  refine swp_seq ?_
  refine swp_region ?_
  refine s_pu (pu_assign rfl) ?_
  refine swl_sub _ (.cons (t := 0) rfl .nil) ?_
  refine swl_nil ?_
  refine then_n ?_
  refine swp_seq ?_
  refine swp_seq ?_
  refine swp_region ?_
  refine s_pu (pu_move rfl) ?_
  refine s_pu (pu_sl_eq_nil rfl rfl) ?_
  refine swl_sub _ (.cons (t := 0) rfl (.cons (t := 4) rfl .nil)) ?_
  refine swl_nil ?_
  refine then_n ?_
  refine swp_cond (b := _) rfl (fun h4 => ?_) (fun h4 => ?_)
  · skip   -- 4 T
    refine swp_seq ?_
    refine swp_region ?_
    refine s_pu (pu_assign rfl) ?_
    refine swl_sub _ (.cons (t := 2) rfl .nil) ?_
    refine swl_nil ?_
    refine then_n ?_
    refine swp_ret ?_
    refine then_r ?_
    have hA : A = none := by cases A <;> simp_all
    subst hA
    have h0 : xs = [] := by
      cases xs with
      | nil => rfl
      | cons x l => obtain ⟨b, o, c, h, _⟩ := hv.pos (by simp); cases h
    subst h0
    exact done_retE [own 3 1 (.slice none 0 0) 0 [], ro μ] (.tmp rfl .nil) rfl own_nil_ent
  · skip   -- 4 F
    refine swp_skip ?_
    refine then_n ?_
    refine swp_seq ?_
    refine swp_region ?_
    refine s_ef (ef_bldS (qs := []) rfl rfl rfl) ?_
    intro b5
    refine s_pu (pu_move rfl) ?_
    refine swl_ent (own_empty (n := 1)) ?_
    refine s_ef (ef_append_ro hv rfl rfl (by repeat (first | exact Split.nil | (apply Split.cons; (repeat (first | with_reducible exact Take.here | apply Take.there))))) (icsk_one _) (by simp only [maxLen]; omega) (by omega)) ?_
    rintro v7 -
    rw [Nat.zero_add, List.nil_append]
    refine s_pu (pu_assign rfl) ?_
    refine swl_sub _ (.cons (t := 2) rfl .nil) ?_
    refine swl_nil ?_
    refine then_n ?_
    refine swp_ret ?_
    exact done_ret [own 3 1 v7 xs.length (xs.flatMap (icsk .i64)), ro μ] (.tmp rfl .nil) rfl (by repeat (first | exact Split.nil | (apply Split.cons; (repeat (first | with_reducible exact Take.here | apply Take.there)))))
end SX
namespace SX
open Go Go.Proofs

/-- the library's sort does what it says -/
def SortOk : Prop := ∀ (v : Value) (xs : List Int), xs.length ≤ 17592186043904 → Spec Try.prog 33 [v] [own 3 1 v xs.length (xs.flatMap (icsk .i64))] (fun r L => r = .tuple #[] ∧ L = [own 3 1 v xs.length ((srt xs).flatMap (icsk .i64))])
theorem sorted_spec (hS : SortOk) (μ : PH) (b : Nat) (v : Value) (xs : List Int) (hb : CellAt μ b 0 v) (hv : Row μ v 1 xs.length (xs.flatMap (icsk .i64))) (hl : xs.length ≤ 17592186043904) :
    Spec Try.prog 30 [.func (.func 34) #[] #[.pointer (some ⟨b, 0, none⟩)]] [ro μ] (fun r L => L = [own 3 1 r xs.length ((srt xs).flatMap (icsk .i64)), ro μ]) := by
  refine Spec.of 9 Try.func30 rfl rfl rfl ?_
  refine swp_seq ?_
  refine swp_region ?_
  refine s_pu (pu_assign rfl) ?_
  refine swl_sub _ (.cons (t := 0) rfl .nil) ?_
  refine swl_nil ?_
  refine then_n ?_
  refine swp_seq ?_
  refine swp_region ?_
  refine s_pu (pu_move rfl) ?_
  refine s_ef (ef_fn (collect_spec μ b v xs hb hv hl) rfl rfl (by repeat (first | exact Split.nil | (apply Split.cons; (repeat (first | with_reducible exact Take.here | apply Take.there)))))) ?_
  rintro v5 L1 rfl
  refine swl_app ?_
  refine s_pu (pu_assign rfl) ?_
  refine swl_sub _ (.cons (t := 3) rfl .nil) ?_
  refine swl_nil ?_
  refine then_n ?_
  refine swp_seq ?_
  refine swp_region ?_
  refine s_pu (pu_move rfl) ?_
  refine s_ef (ef_fn (hS v5 xs hl) rfl rfl (by repeat (first | exact Split.nil | (apply Split.cons; (repeat (first | with_reducible exact Take.here | apply Take.there)))))) ?_
  rintro v7 L1 ⟨rfl, rfl⟩
  refine swl_app ?_
  refine swl_sub _ (.cons (t := 3) rfl .nil) ?_
  refine swl_nil ?_
  refine then_n ?_
  refine swp_seq ?_
  refine swp_region ?_
  refine s_pu (pu_move rfl) ?_
  refine s_pu (pu_assign rfl) ?_
  refine swl_sub _ (.cons (t := 2) rfl .nil) ?_
  refine swl_nil ?_
  refine then_n ?_
  refine swp_ret ?_
  exact done_ret [own 3 1 v5 xs.length ((srt xs).flatMap (icsk .i64)), ro μ] (.tmp rfl .nil) rfl (by repeat (first | exact Split.nil | (apply Split.cons; (repeat (first | with_reducible exact Take.here | apply Take.there)))))
set_option maxHeartbeats 1000000 in
theorem fit_spec (hS : SortOk) (μ : PH) (v : Value) (xs : List Int) (n : Nat) (hv : Row μ v 1 xs.length (xs.flatMap (icsk .i64))) (hl : xs.length ≤ 17592186043904) (_hn : n ≤ 1099511627776) :
    Spec Try.prog 28 [v, .int .i64 (n : Nat)] [ro μ] (fun r L => r = .bool (okRow n xs) ∧ ∃ μ', Le μ μ' ∧ L = [ro μ']) := by
  rw [← okRow_perm (srt_perm xs)]
  have hsl := srt_len xs
  refine Spec.of 39 Try.func28 rfl rfl rfl ?_
  refine swp_seq ?_
  refine swp_region ?_
  refine s_pu (pu_assign rfl) ?_
  refine swl_sub _ (.cons (t := 0) rfl (.cons (t := 1) rfl .nil)) ?_
  refine swl_nil ?_
  refine then_n ?_
  refine swp_seq ?_
  refine swp_region ?_
  refine s_pu (pu_move rfl) ?_
  refine s_ef (ef_fn (values_spec μ v (by obtain ⟨A, c, h⟩ := hv.sl; exact ⟨A, _, c, h⟩)) rfl rfl (by repeat (first | exact Split.nil | (apply Split.cons; (repeat (first | with_reducible exact Take.here | apply Take.there)))))) ?_
  rintro v9 L1 ⟨b, μ', rfl, h1, hb, rfl⟩
  refine swl_app ?_
  refine s_ef (ef_fn (sorted_spec hS μ' b v xs hb (hv.le h1) hl) rfl rfl (by repeat (first | exact Split.nil | (apply Split.cons; (repeat (first | with_reducible exact Take.here | apply Take.there)))))) ?_
  rintro v10 L1 rfl
  refine swl_app ?_
  rw [← hsl]
  generalize hys : srt xs = ys at *
  have hsort : ys.Pairwise (· ≤ ·) := hys ▸ mergeSort_le xs
  refine swl_fact (fun m h => own_shape .here h) fun hsh => ?_
  have hform : ∃ A cap, v10 = .slice A ys.length cap := by
    rcases hsh with ⟨h1, h2⟩ | ⟨b, cap, h1, _⟩
    · exact ⟨none, 0, by rw [h1, h2]⟩
    · exact ⟨_, _, h1⟩
  refine s_pu (pu_assign rfl) ?_
  refine swl_sub _ (.cons (t := 1) rfl (.cons (t := 5) rfl .nil)) ?_
  refine swl_nil ?_
  refine then_n ?_
  refine swp_seq ?_
  refine swp_seq ?_
  refine swp_region ?_
  refine s_pu (pu_move rfl) ?_
  refine s_pu (pu_len_own hform rfl) ?_
  refine s_pu (pu_move rfl) ?_
  refine swl_sub _ (.cons (t := 1) rfl (.cons (t := 5) rfl (.cons (t := 11) rfl (.cons (t := 12) rfl (.cons (t := 13) rfl .nil))))) ?_
  refine swl_nil ?_
  refine then_n ?_
  refine swp_block ?_
  refine swp_loop (ι := Nat) (fun i env L => env = [(1, .int .i64 (n : Nat)), (5, v10), (11, v10), (12, .int .i64 (ys.length : Nat)), (13, .int .i64 (i : Nat))] ∧ L = [own 3 1 v10 ys.length (ys.flatMap (icsk .i64)), ro μ'] ∧ i ≤ ys.length ∧ ∀ (j : Nat) (p : Int), j < i → ys[j]? = some p → 0 ≤ p ∧ p < n ∧ (0 < j → ys[j - 1]? ≠ some p)) (fun i => ys.length - i) 0 ⟨rfl, rfl, Nat.zero_le _, fun j p h => by omega⟩ ?_
  rintro i env L ⟨rfl, rfl, hi, hok⟩
  refine swp_seq ?_
  refine swp_region ?_
  refine s_pu (pu_lss rfl rfl) ?_
  refine swl_sub _ (.cons (t := 1) rfl (.cons (t := 5) rfl (.cons (t := 11) rfl (.cons (t := 12) rfl (.cons (t := 13) rfl (.cons (t := 14) rfl .nil)))))) ?_
  refine swl_nil ?_
  refine then_n ?_
  refine swp_seq ?_
  refine swp_cond (b := _) rfl (fun h14 => ?_) (fun h14 => ?_)
  · skip   -- 14 T
    have h14' : i < ys.length := by have := of_decide_eq_true h14; omega
    obtain ⟨x, hx⟩ : ∃ x, ys[i]? = some x := ⟨_, List.getElem?_eq_getElem h14'⟩
    obtain ⟨bb, cc, hv10⟩ : ∃ b cap, v10 = .slice (some ⟨b, 0, none⟩) ys.length cap := by
      rcases hsh with ⟨_, h2⟩ | ⟨b, cap, h1, _⟩
      · omega
      · exact ⟨b, cap, h1⟩
    subst hv10
    have hget : ∀ (j : Nat) (y : Int), ys[j]? = some y → (ys.flatMap (icsk .i64))[j]? = some (.int .i64 y) := fun j y hy => by
      have := flat_get (icsk_len .i64) ys [] j y hy 0 (.int .i64 y) rfl
      rwa [List.append_nil, Nat.mul_one] at this
    refine swp_skip ?_
    refine then_n ?_
    refine swp_seq ?_
    refine swp_block ?_
    refine swp_seq ?_
    refine swp_region ?_
    refine s_pu (pu_move rfl) ?_
    refine s_pu (pu_indexAddr i rfl rfl (by omega) (by omega) (by omega)) ?_
    refine s_rd (rd_of_ld rfl (ld_own .here (hget i x hx))) ?_
    refine s_pu (pu_assign rfl) ?_
    refine s_pu (pu_assign rfl) ?_
    refine swl_sub _ (.cons (t := 1) rfl (.cons (t := 5) rfl (.cons (t := 6) rfl (.cons (t := 7) rfl (.cons (t := 11) rfl (.cons (t := 12) rfl (.cons (t := 13) rfl .nil))))))) ?_
    refine swl_nil ?_
    refine then_n ?_
    refine swp_seq ?_
    refine swp_region ?_
    refine s_pu (pu_move rfl) ?_
    refine s_pu (pu_lss rfl rfl) ?_
    refine s_pu (pu_move rfl) ?_
    refine s_split 20 rfl (fun h20 => ?_) (fun h20 => ?_)
    · skip   -- 20 T
      refine s_off rfl rfl rfl ?_
      refine s_off rfl rfl rfl ?_
      refine s_off rfl rfl rfl ?_
      first | refine s_pu (pu_pick_t rfl rfl) ?_ | refine s_pu (pu_pick_f rfl rfl) ?_
      refine s_pu (pu_move rfl) ?_
      refine s_split 25 rfl (fun h25 => ?_) (fun h25 => by cases h25)
      refine s_off rfl rfl rfl ?_
      refine s_off rfl rfl rfl ?_
      refine s_off rfl rfl rfl ?_
      refine s_off rfl rfl rfl ?_
      refine s_off rfl rfl rfl ?_
      refine s_off rfl rfl rfl ?_
      refine s_off rfl rfl rfl ?_
      refine s_off rfl rfl rfl ?_
      refine s_off rfl rfl rfl ?_
      refine s_off rfl rfl rfl ?_
      refine s_off rfl rfl rfl ?_
      first | refine s_pu (pu_pick_t rfl rfl) ?_ | refine s_pu (pu_pick_f rfl rfl) ?_
      refine swl_sub _ (.cons (t := 1) rfl (.cons (t := 5) rfl (.cons (t := 11) rfl (.cons (t := 12) rfl (.cons (t := 13) rfl (.cons (t := 37) rfl .nil)))))) ?_
      refine swl_nil ?_
      refine then_n ?_
      refine swp_cond (b := _) rfl (fun h37 => ?_) (fun h37 => by cases h37)
      refine swp_seq ?_
      refine swp_region ?_
      refine s_pu (pu_assign rfl) ?_
      refine swl_sub _ (.cons (t := 4) rfl .nil) ?_
      refine swl_nil ?_
      refine then_n ?_
      refine swp_ret ?_
      refine block_r ?_
      refine then_r ?_
      refine then_r ?_
      refine block_r ?_
      refine then_r ?_
      exact done_ret [ro μ'] (.tmp rfl .nil) ⟨by rw [sorted_not n hx (.inl (of_decide_eq_true h20))]; rfl, μ', h1, rfl⟩ (by repeat (first | exact Split.nil | (apply Split.cons; (repeat (first | with_reducible exact Take.here | apply Take.there)))))
    · skip   -- 20 F
      refine s_on rfl rfl ?_
      refine s_pu (pu_move rfl) ?_
      refine s_on rfl rfl ?_
      refine s_pu (pu_move rfl) ?_
      refine s_on rfl rfl ?_
      refine s_pu (pu_geq rfl rfl) ?_
      first | refine s_pu (pu_pick_t rfl rfl) ?_ | refine s_pu (pu_pick_f rfl rfl) ?_
      refine s_pu (pu_move rfl) ?_
      refine s_split 25 rfl (fun h25 => ?_) (fun h25 => ?_)
      · skip   -- 25 T
        refine s_off rfl rfl rfl ?_
        refine s_off rfl rfl rfl ?_
        refine s_off rfl rfl rfl ?_
        refine s_off rfl rfl rfl ?_
        refine s_off rfl rfl rfl ?_
        refine s_off rfl rfl rfl ?_
        refine s_off rfl rfl rfl ?_
        refine s_off rfl rfl rfl ?_
        refine s_off rfl rfl rfl ?_
        refine s_off rfl rfl rfl ?_
        refine s_off rfl rfl rfl ?_
        first | refine s_pu (pu_pick_t rfl rfl) ?_ | refine s_pu (pu_pick_f rfl rfl) ?_
        refine swl_sub _ (.cons (t := 1) rfl (.cons (t := 5) rfl (.cons (t := 11) rfl (.cons (t := 12) rfl (.cons (t := 13) rfl (.cons (t := 37) rfl .nil)))))) ?_
        refine swl_nil ?_
        refine then_n ?_
        refine swp_cond (b := _) rfl (fun h37 => ?_) (fun h37 => by cases h37)
        refine swp_seq ?_
        refine swp_region ?_
        refine s_pu (pu_assign rfl) ?_
        refine swl_sub _ (.cons (t := 4) rfl .nil) ?_
        refine swl_nil ?_
        refine then_n ?_
        refine swp_ret ?_
        refine block_r ?_
        refine then_r ?_
        refine then_r ?_
        refine block_r ?_
        refine then_r ?_
        exact done_ret [ro μ'] (.tmp rfl .nil) ⟨by rw [sorted_not n hx (.inr (.inl (of_decide_eq_true h25)))]; rfl, μ', h1, rfl⟩ (by repeat (first | exact Split.nil | (apply Split.cons; (repeat (first | with_reducible exact Take.here | apply Take.there)))))
      · skip   -- 25 F
        refine s_on rfl rfl ?_
        refine s_pu (pu_move rfl) ?_
        refine s_on rfl rfl ?_
        refine s_pu (pu_gtr rfl rfl) ?_
        refine s_on rfl rfl ?_
        refine s_pu (pu_move rfl) ?_
        refine s_split 28 rfl (fun h28 => ?_) (fun h28 => ?_)
        · skip   -- 28 T
          have h28' : 0 < i := by have := of_decide_eq_true h28; omega
          obtain ⟨y, hy⟩ : ∃ y, ys[i - 1]? = some y := ⟨_, List.getElem?_eq_getElem (by omega)⟩
          refine s_on rfl rfl ?_
          refine s_pu (pu_move rfl) ?_
          refine s_on rfl rfl ?_
          refine s_pu (pu_move rfl) ?_
          refine s_on rfl rfl ?_
          refine s_pu (pu_move rfl) ?_
          refine s_on rfl rfl ?_
          refine s_pu (pu_sub_as ((i - 1 : Nat) : Int) rfl rfl (by omega) (by omega) (by omega)) ?_
          refine s_on rfl rfl ?_
          refine s_pu (pu_indexAddr (i - 1) rfl rfl (by omega) (by omega) (by omega)) ?_
          refine s_on rfl rfl ?_
          refine s_rd (rd_of_ld rfl (ld_own .here (hget (i - 1) y hy))) ?_
          refine s_on rfl rfl ?_
          refine s_pu (pu_eql rfl rfl) ?_
          refine s_on rfl rfl ?_
          first | refine s_pu (pu_pick_t rfl rfl) ?_ | refine s_pu (pu_pick_f rfl rfl) ?_
          first | refine s_pu (pu_pick_t rfl rfl) ?_ | refine s_pu (pu_pick_f rfl rfl) ?_
          refine swl_sub _ (.cons (t := 1) rfl (.cons (t := 5) rfl (.cons (t := 11) rfl (.cons (t := 12) rfl (.cons (t := 13) rfl (.cons (t := 37) rfl .nil)))))) ?_
          refine swl_nil ?_
          refine then_n ?_
          refine swp_cond (b := _) rfl (fun h37 => ?_) (fun h37 => ?_)
          · skip   -- 37 T
            refine swp_seq ?_
            refine swp_region ?_
            refine s_pu (pu_assign rfl) ?_
            refine swl_sub _ (.cons (t := 4) rfl .nil) ?_
            refine swl_nil ?_
            refine then_n ?_
            refine swp_ret ?_
            refine block_r ?_
            refine then_r ?_
            refine then_r ?_
            refine block_r ?_
            refine then_r ?_
            have h37' := of_decide_eq_true h37
            exact done_ret [ro μ'] (.tmp rfl .nil) ⟨by rw [sorted_not n hx (.inr (.inr ⟨h28', by rw [hy, h37']⟩))]; rfl, μ', h1, rfl⟩ (by repeat (first | exact Split.nil | (apply Split.cons; (repeat (first | with_reducible exact Take.here | apply Take.there)))))
          · skip   -- 37 F
            refine swp_skip ?_
            refine block_n ?_
            refine then_n ?_
            refine swp_region ?_
            refine s_pu (pu_add_as ((i + 1 : Nat) : Int) rfl rfl (by omega) (by omega) (by omega)) ?_
            refine s_pu (pu_move rfl) ?_
            refine swl_sub _ (.cons (t := 1) rfl (.cons (t := 5) rfl (.cons (t := 11) rfl (.cons (t := 12) rfl (.cons (t := 13) rfl .nil))))) ?_
            refine swl_nil ?_
            have h20' := of_decide_eq_false h20
            have h25' := of_decide_eq_false h25
            have h37' := of_decide_eq_false h37
            exact then_n ⟨i + 1, ⟨rfl, rfl, h14', fun j p hj hp => by
              by_cases e : j = i
              · subst e
                rw [hx] at hp
                obtain rfl := Option.some.inj hp
                exact ⟨by omega, by omega, fun _ h => by rw [hy] at h; exact h37' (Option.some.inj h).symm⟩
              · exact hok j p (by omega) hp⟩, by omega⟩
        · skip   -- 28 F
          refine s_off rfl rfl rfl ?_
          refine s_off rfl rfl rfl ?_
          refine s_off rfl rfl rfl ?_
          refine s_off rfl rfl rfl ?_
          refine s_off rfl rfl rfl ?_
          refine s_off rfl rfl rfl ?_
          refine s_off rfl rfl rfl ?_
          refine s_on rfl rfl ?_
          first | refine s_pu (pu_pick_t rfl rfl) ?_ | refine s_pu (pu_pick_f rfl rfl) ?_
          first | refine s_pu (pu_pick_t rfl rfl) ?_ | refine s_pu (pu_pick_f rfl rfl) ?_
          refine swl_sub _ (.cons (t := 1) rfl (.cons (t := 5) rfl (.cons (t := 11) rfl (.cons (t := 12) rfl (.cons (t := 13) rfl (.cons (t := 37) rfl .nil)))))) ?_
          refine swl_nil ?_
          refine then_n ?_
          refine swp_cond (b := _) rfl (fun h37 => by cases h37) (fun h37 => ?_)
          refine swp_skip ?_
          refine block_n ?_
          refine then_n ?_
          refine swp_region ?_
          refine s_pu (pu_add_as ((i + 1 : Nat) : Int) rfl rfl (by omega) (by omega) (by omega)) ?_
          refine s_pu (pu_move rfl) ?_
          refine swl_sub _ (.cons (t := 1) rfl (.cons (t := 5) rfl (.cons (t := 11) rfl (.cons (t := 12) rfl (.cons (t := 13) rfl .nil))))) ?_
          refine swl_nil ?_
          have h20' := of_decide_eq_false h20
          have h25' := of_decide_eq_false h25
          have h28' := of_decide_eq_false h28
          exact then_n ⟨i + 1, ⟨rfl, rfl, h14', fun j p hj hp => by
            by_cases e : j = i
            · subst e
              rw [hx] at hp
              obtain rfl := Option.some.inj hp
              exact ⟨by omega, by omega, fun h => by omega⟩
            · exact hok j p (by omega) hp⟩, by omega⟩
  · skip   -- 14 F
    have h14' := of_decide_eq_false h14
    obtain rfl : i = ys.length := by omega
    refine swp_exit ?_
    refine then_x ?_
    refine then_x ?_
    refine block_hit rfl ?_
    refine then_n ?_
    refine swp_seq ?_
    refine swp_region ?_
    refine s_pu (pu_assign rfl) ?_
    refine swl_sub _ (.cons (t := 4) rfl .nil) ?_
    refine swl_nil ?_
    refine then_n ?_
    refine swp_ret ?_
    exact done_ret [ro μ'] (.tmp rfl .nil) ⟨by rw [sorted_ok n hsort fun j p hp => hok j p (List.getElem?_eq_some_iff.1 hp).1 hp]; rfl, μ', h1, rfl⟩ (by repeat (first | exact Split.nil | (apply Split.cons; (repeat (first | with_reducible exact Take.here | apply Take.there)))))
end SX
namespace SX
open Go Go.Proofs

def AnsG (μ : PH) (E : Int) (l : List Int) (r : Value) (L : List Assn) : Prop := ∃ lv μ', r = .tuple #[lv, .int .i64 E] ∧ Le μ μ' ∧ L = [own 3 1 lv l.length (l.flatMap (icsk .i64)), ro μ']
set_option maxHeartbeats 2000000 in
theorem more_spec (hS : SortOk) (μ : PH) (vk vg : Value) (K : List Int) (G : List (Value × List Int)) (hk : Row μ vk 1 K.length (K.flatMap (icsk .i64))) (hG : Graph μ vg G) (hl : K.length ≤ 1048576) (hn : G.length ≤ 1048576) (hrows : ∀ x ∈ G, x.2.length ≤ 17592186043904) :
    Spec Try.prog 22 [vk, vg] [ro μ] (AnsG μ (moreE K (nums G)) (moreL K (nums G))) := by
  have hln : (nums G).length = G.length := List.length_map _
  refine Spec.of 50 Try.func22 rfl rfl rfl ?_
  refine swp_seq ?_
  refine swp_region ?_
  refine s_pu (pu_assign rfl) ?_
  refine s_pu (pu_assign rfl) ?_
  refine swl_sub _ (.cons (t := 0) rfl (.cons (t := 1) rfl .nil)) ?_
  refine swl_nil ?_
  refine then_n ?_
  refine swp_seq ?_
  refine swp_region ?_
  refine s_pu (pu_move rfl) ?_
  refine s_ef (ef_fn (clone_ro μ vk K hk (by omega)) rfl rfl (by repeat (first | exact Split.nil | (apply Split.cons; (repeat (first | with_reducible exact Take.here | apply Take.there)))))) ?_
  rintro v13 L1 rfl
  refine swl_app ?_
  refine s_pu (pu_assign rfl) ?_
  refine swl_sub _ (.cons (t := 0) rfl (.cons (t := 1) rfl (.cons (t := 6) rfl .nil))) ?_
  refine swl_nil ?_
  refine then_n ?_
  refine swp_seq ?_
  refine swp_seq ?_
  refine swp_region ?_
  refine s_pu (pu_move rfl) ?_
  refine s_pu (pu_len_row hG.1 rfl) ?_
  refine s_pu (pu_move rfl) ?_
  refine swl_sub _ (.cons (t := 0) rfl (.cons (t := 6) rfl (.cons (t := 14) rfl (.cons (t := 15) rfl (.cons (t := 16) rfl .nil))))) ?_
  refine swl_nil ?_
  refine then_n ?_
  refine swp_block ?_
  refine swp_loop (ι := Nat × Value × List Int × PH) (fun k env L => env = [(0, vk), (6, k.2.1), (14, vg), (15, .int .i64 (G.length : Nat)), (16, .int .i64 (k.1 : Nat))] ∧ L = [own 3 1 k.2.1 k.2.2.1.length (k.2.2.1.flatMap (icsk .i64)), ro k.2.2.2] ∧ k.1 ≤ G.length ∧ Le μ k.2.2.2 ∧ moreG K ((nums G).take k.1) = some k.2.2.1) (fun k => G.length - k.1) (0, v13, K, μ) ⟨rfl, rfl, Nat.zero_le _, Le.refl _, rfl⟩ ?_
  rintro ⟨i, v6, a, μi⟩ env L ⟨rfl, rfl, hi, hle, ha⟩
  dsimp only at hi hle ha ⊢
  have hal := (moreG_len ha).1
  rw [List.length_take, hln, Nat.min_eq_left hi] at hal
  refine swp_fact (fun m h => own_shape .here h) fun hsh => ?_
  have hform : ∃ A cap, v6 = .slice A a.length cap := by
    rcases hsh with ⟨h1, h2⟩ | ⟨b, cap, h1, _⟩
    · exact ⟨none, 0, by rw [h1, h2]⟩
    · exact ⟨_, _, h1⟩
  refine swp_seq ?_
  refine swp_region ?_
  refine s_pu (pu_lss rfl rfl) ?_
  refine swl_sub _ (.cons (t := 0) rfl (.cons (t := 6) rfl (.cons (t := 14) rfl (.cons (t := 15) rfl (.cons (t := 16) rfl (.cons (t := 17) rfl .nil)))))) ?_
  refine swl_nil ?_
  refine then_n ?_
  refine swp_seq ?_
  refine swp_cond (b := _) rfl (fun h17 => ?_) (fun h17 => ?_)
  · skip   -- 17 T
    have h17' : i < G.length := by have := of_decide_eq_true h17; omega
    obtain ⟨gb, off, cap, x, hv, hx, hxc, hxr, hnx⟩ := row_at (hG.le hle) h17'
    have hxl := hrows x (List.mem_of_getElem? hx)
    have hnext := moreG_at ha hnx
    refine swp_skip ?_
    refine then_n ?_
    refine swp_seq ?_
    refine swp_block ?_
    refine swp_seq ?_
    refine swp_region ?_
    refine s_pu (pu_indexAddr (off + i * 1) (congrArg some hv) rfl (by omega) (by omega) (by rw [Int.toNat_natCast])) ?_
    refine s_rd (rd_ro rfl hxc) ?_
    refine s_pu (pu_assign rfl) ?_
    refine swl_sub _ (.cons (t := 0) rfl (.cons (t := 6) rfl (.cons (t := 8) rfl (.cons (t := 14) rfl (.cons (t := 15) rfl (.cons (t := 16) rfl .nil)))))) ?_
    refine swl_nil ?_
    refine then_n ?_
    refine swp_seq ?_
    refine swp_seq ?_
    refine swp_region ?_
    refine s_pu (pu_move rfl) ?_
    refine s_pu (pu_move rfl) ?_
    refine s_pu (pu_len_own hform rfl) ?_
    refine s_ef (ef_fn (fit_spec hS μi x.1 x.2 a.length hxr (by omega) (by omega)) rfl rfl (by repeat (first | exact Split.nil | (apply Split.cons; (repeat (first | with_reducible exact Take.here | apply Take.there)))))) ?_
    rintro v23 L1 ⟨rfl, μj, hij, rfl⟩
    refine swl_app ?_
    refine s_pu (pu_not rfl) ?_
    refine swl_sub _ (.cons (t := 0) rfl (.cons (t := 6) rfl (.cons (t := 8) rfl (.cons (t := 14) rfl (.cons (t := 15) rfl (.cons (t := 16) rfl (.cons (t := 24) rfl .nil))))))) ?_
    refine swl_nil ?_
    refine then_n ?_
    refine swp_cond (b := _) rfl (fun h24 => ?_) (fun h24 => ?_)
    · skip   -- 24 T
      refine swp_seq ?_
      refine swp_region ?_
      refine s_pu (pu_assign rfl) ?_
      refine s_pu (pu_assign rfl) ?_
      refine swl_sub _ (.cons (t := 4) rfl (.cons (t := 5) rfl .nil)) ?_
      refine swl_nil ?_
      refine then_n ?_
      refine swp_ret ?_
      refine then_r ?_
      refine block_r ?_
      refine then_r ?_
      refine then_r ?_
      refine block_r ?_
      refine then_r ?_
      have h24' : okRow a.length x.2 = false := by simpa using h24
      rw [if_neg (by rw [h24']; simp)] at hnext
      have hno := moreL_none (moreG_none hnext)
      rw [hno.1, hno.2]
      exact done_retE [own 3 1 (.slice none 0 0) 0 [], ro μj] (.tmp rfl (.tmp rfl .nil)) ⟨_, μj, rfl, hle.trans hij, rfl⟩ ((Split.ent' (K := [ro μj]) (by repeat (first | exact Split.nil | (apply Split.cons; (repeat (first | with_reducible exact Take.here | apply Take.there)))))).trans own_nil_ent)
    · skip   -- 24 F
      have h24' : okRow a.length x.2 = true := by simpa using h24
      rw [if_pos h24'] at hnext
      have hin := (okRow_iff.1 h24').1
      have hxrj := hxr.le hij
      have hxs := hxrj.small
      refine swp_skip ?_
      refine then_n ?_
      refine swp_seq ?_
      refine swp_region ?_
      refine s_pu (pu_assign rfl) ?_
      refine swl_sub _ (.cons (t := 0) rfl (.cons (t := 6) rfl (.cons (t := 8) rfl (.cons (t := 9) rfl (.cons (t := 14) rfl (.cons (t := 15) rfl (.cons (t := 16) rfl .nil))))))) ?_
      refine swl_ent (own_nil_ent (e := 3) (n := 1)) ?_
      refine swl_nil ?_
      refine then_n ?_
      refine swp_seq ?_
      refine swp_seq ?_
      refine swp_region ?_
      refine s_pu (pu_move rfl) ?_
      refine s_pu (pu_len_row hxrj rfl) ?_
      refine s_pu (pu_move rfl) ?_
      refine swl_sub _ (.cons (t := 0) rfl (.cons (t := 6) rfl (.cons (t := 9) rfl (.cons (t := 14) rfl (.cons (t := 15) rfl (.cons (t := 16) rfl (.cons (t := 25) rfl (.cons (t := 26) rfl (.cons (t := 27) rfl .nil))))))))) ?_
      refine swl_ent (Split.ent' (K := [own 3 1 (.slice none 0 0) 0 [], own 3 1 v6 a.length (a.flatMap (icsk .i64)), ro μj]) (by repeat (first | exact Split.nil | (apply Split.cons; (repeat (first | with_reducible exact Take.here | apply Take.there)))))) ?_
      refine swl_nil ?_
      refine then_n ?_
      refine swp_block ?_
      refine swp_sub _ (.cons (t := 0) rfl (.cons (t := 6) rfl (.cons (t := 9) rfl (.cons (t := 14) rfl (.cons (t := 15) rfl (.cons (t := 16) rfl (.cons (t := 25) rfl (.cons (t := 26) rfl (.cons (t := 27) rfl .nil))))))))) ?_
      refine swp_loop (ι := Nat × Value) (fun k env L => env = [(0, vk), (6, v6), (9, k.2), (14, vg), (15, .int .i64 (G.length : Nat)), (16, .int .i64 (i : Nat)), (25, x.1), (26, .int .i64 (x.2.length : Nat)), (27, .int .i64 (k.1 : Nat))] ∧ L = [own 3 1 k.2 k.1 ((valsG a (x.2.take k.1)).flatMap (icsk .i64)), own 3 1 v6 a.length (a.flatMap (icsk .i64)), ro μj] ∧ k.1 ≤ x.2.length) (fun k => x.2.length - k.1) (0, .slice none 0 0) ⟨rfl, rfl, Nat.zero_le _⟩ ?_
      rintro ⟨j, v9⟩ env L ⟨rfl, rfl, hj⟩
      dsimp only at hj ⊢
      refine swp_seq ?_
      refine swp_region ?_
      refine s_pu (pu_lss rfl rfl) ?_
      refine swl_sub _ (.cons (t := 0) rfl (.cons (t := 6) rfl (.cons (t := 9) rfl (.cons (t := 14) rfl (.cons (t := 15) rfl (.cons (t := 16) rfl (.cons (t := 25) rfl (.cons (t := 26) rfl (.cons (t := 27) rfl (.cons (t := 28) rfl .nil)))))))))) ?_
      refine swl_nil ?_
      refine then_n ?_
      refine swp_seq ?_
      refine swp_cond (b := _) rfl (fun h28 => ?_) (fun h28 => ?_)
      · skip   -- 28 T
        have h28' : j < x.2.length := by have := of_decide_eq_true h28; omega
        obtain ⟨y, hy⟩ : ∃ y, x.2[j]? = some y := ⟨_, List.getElem?_eq_getElem h28'⟩
        obtain ⟨yb, yo, yc, hyv, hyc⟩ := hxrj.at_ hy
        have hyin := hin y (List.mem_of_getElem? hy)
        obtain ⟨ky, rfl⟩ : ∃ k : Nat, y = k := ⟨y.toNat, by omega⟩
        obtain ⟨z, hz⟩ : ∃ z, a[ky]? = some z := ⟨_, List.getElem?_eq_getElem (by omega)⟩
        obtain ⟨ab, ac, hv6⟩ : ∃ b cap, v6 = .slice (some ⟨b, 0, none⟩) a.length cap := by
          rcases hsh with ⟨_, h2⟩ | ⟨b, cap, h1, _⟩
          · omega
          · exact ⟨b, cap, h1⟩
        have hget : (a.flatMap (icsk .i64))[ky]? = some (.int .i64 z) := by
          have := flat_get (icsk_len .i64) a [] ky z hz 0 (.int .i64 z) rfl
          rwa [List.append_nil, Nat.mul_one] at this
        subst hv6
        refine swp_skip ?_
        refine then_n ?_
        refine swp_seq ?_
        refine swp_block ?_
        refine swp_seq ?_
        refine swp_region ?_
        refine s_pu (pu_indexAddr (yo + j * 1) (congrArg some hyv) rfl (by omega) (by omega) (by rw [Int.toNat_natCast])) ?_
        refine s_rd (rd_ro rfl hyc) ?_
        refine s_pu (pu_assign rfl) ?_
        refine swl_sub _ (.cons (t := 0) rfl (.cons (t := 6) rfl (.cons (t := 9) rfl (.cons (t := 11) rfl (.cons (t := 14) rfl (.cons (t := 15) rfl (.cons (t := 16) rfl (.cons (t := 25) rfl (.cons (t := 26) rfl (.cons (t := 27) rfl .nil)))))))))) ?_
        refine swl_nil ?_
        refine then_n ?_
        refine swp_region ?_
        refine s_pu (pu_move rfl) ?_
        refine s_pu (pu_move rfl) ?_
        refine s_pu (pu_move rfl) ?_
        refine s_pu (pu_indexAddr ky rfl rfl (by omega) (by omega) (by omega)) ?_
        refine s_rd (rd_of_ld rfl (ld_own (by repeat (first | with_reducible exact Take.here | apply Take.there)) hget)) ?_
        refine s_ef (ef_bldS (qs := [(0, _)]) rfl rfl rfl) ?_
        intro b36
        refine s_ef (ef_append_lit (l := j) (m := 1) rfl rfl (by repeat (first | exact Split.nil | (apply Split.cons; (repeat (first | with_reducible exact Take.here | apply Take.there))))) (by simp only [maxLen]; omega) (by omega)) ?_
        rintro v' hv'
        skip
        refine s_pu (pu_assign rfl) ?_
        refine swl_sub _ (.cons (t := 0) rfl (.cons (t := 6) rfl (.cons (t := 9) rfl (.cons (t := 14) rfl (.cons (t := 15) rfl (.cons (t := 16) rfl (.cons (t := 25) rfl (.cons (t := 26) rfl (.cons (t := 27) rfl .nil))))))))) ?_
        have e1 : (valsG a (x.2.take j)).flatMap (icsk .i64) ++ [.int .i64 z] = (valsG a (x.2.take (j + 1))).flatMap (icsk .i64) := by
          rw [List.take_add_one, hy]
          show _ = (valsG a (x.2.take j ++ [(ky : Int)])).flatMap (icsk .i64)
          rw [valsG_append, Int.toNat_natCast, List.getD_eq_getElem?_getD, hz, List.flatMap_append]; rfl
        rw [e1]
        refine swl_nil ?_
        refine block_n ?_
        refine then_n ?_
        refine swp_region ?_
        refine s_pu (pu_add_as ((j + 1 : Nat) : Int) rfl rfl (by omega) (by omega) (by omega)) ?_
        refine s_pu (pu_move rfl) ?_
        refine swl_sub _ (.cons (t := 0) rfl (.cons (t := 6) rfl (.cons (t := 9) rfl (.cons (t := 14) rfl (.cons (t := 15) rfl (.cons (t := 16) rfl (.cons (t := 25) rfl (.cons (t := 26) rfl (.cons (t := 27) rfl .nil))))))))) ?_
        refine swl_nil ?_
        exact then_n ⟨(j + 1, v'), ⟨rfl, rfl, h28'⟩, by show x.2.length - (j + 1) < x.2.length - j; omega⟩
      · skip   -- 28 F
        have h28' := of_decide_eq_false h28
        obtain rfl : j = x.2.length := by omega
        rw [List.take_length]
        have hvl : (valsG a x.2).length = x.2.length := List.length_map _
        rw [← hvl]
        refine swp_fact (fun m h => own_shape .here h) fun hsh9 => ?_
        refine swp_exit ?_
        refine then_x ?_
        refine then_x ?_
        refine block_hit rfl ?_
        refine then_n ?_
        refine swp_region ?_
        refine s_pu (pu_move rfl) ?_
        refine s_pu (pu_move rfl) ?_
        refine s_ef (ef_fn (next_spec v9 (valsG a x.2) [own 3 1 v9 (valsG a x.2).length ((valsG a x.2).flatMap (icsk .i64))] (ints_own hsh9 .here)) rfl rfl (by repeat (first | exact Split.nil | (apply Split.cons; (repeat (first | with_reducible exact Take.here | apply Take.there)))))) ?_
        rintro v41 L1 ⟨rfl, rfl⟩
        refine swl_app ?_
        refine s_ef (ef_bldS (qs := [(0, _)]) rfl rfl rfl) ?_
        intro b42
        refine s_ef (ef_append_lit (l := a.length) (m := 1) rfl rfl (by repeat (first | exact Split.nil | (apply Split.cons; (repeat (first | with_reducible exact Take.here | apply Take.there))))) (by simp only [maxLen]; omega) (by omega)) ?_
        rintro v43 hv43
        skip
        refine s_pu (pu_assign rfl) ?_
        refine swl_sub _ (.cons (t := 0) rfl (.cons (t := 6) rfl (.cons (t := 14) rfl (.cons (t := 15) rfl (.cons (t := 16) rfl .nil))))) ?_
        rw [show a.flatMap (icsk .i64) ++ [Value.int .i64 (nxt (valsG a x.2))] = (a ++ [nxt (valsG a x.2)]).flatMap (icsk .i64) by rw [List.flatMap_append]; rfl]
        refine swl_ent (Split.ent' (K := [own 3 1 v43 (a.length + 1) ((a ++ [nxt (valsG a x.2)]).flatMap (icsk .i64)), ro μj]) (by repeat (first | exact Split.nil | (apply Split.cons; (repeat (first | with_reducible exact Take.here | apply Take.there)))))) ?_
        refine swl_nil ?_
        refine block_n ?_
        refine then_n ?_
        refine swp_region ?_
        refine s_pu (pu_add_as ((i + 1 : Nat) : Int) rfl rfl (by omega) (by omega) (by omega)) ?_
        refine s_pu (pu_move rfl) ?_
        refine swl_sub _ (.cons (t := 0) rfl (.cons (t := 6) rfl (.cons (t := 14) rfl (.cons (t := 15) rfl (.cons (t := 16) rfl .nil))))) ?_
        refine swl_nil ?_
        exact then_n ⟨(i + 1, v43, a ++ [nxt (valsG a x.2)], μj), ⟨rfl, by rw [List.length_append]; rfl, h17', hle.trans hij, hnext⟩, by show G.length - (i + 1) < G.length - i; omega⟩
  · skip   -- 17 F
    have h17' := of_decide_eq_false h17
    obtain rfl : i = G.length := by omega
    rw [List.take_of_length_le (by rw [hln]; exact Nat.le_refl _)] at ha
    refine swp_share_own (μ := μi) (by repeat (first | exact Split.nil | (apply Split.cons; (repeat (first | with_reducible exact Take.here | apply Take.there))))) fun μ' h' ra => ?_
    obtain ⟨vd, hrd, hpu⟩ := Row.lo (P := Try.prog) (t := 22) ra K.length (by omega)
    rw [icells_drop, show a.length - K.length = (a.drop K.length).length by rw [List.length_drop]] at hrd
    have hyes := moreL_some ha
    refine swp_exit ?_
    refine then_x ?_
    refine then_x ?_
    refine block_hit rfl ?_
    refine then_n ?_
    refine swp_seq ?_
    refine swp_region ?_
    refine s_pu (pu_move rfl) ?_
    refine s_pu (pu_move rfl) ?_
    refine s_pu (pu_len_row (hk.le (hle.trans h')) rfl) ?_
    refine s_pu (hpu _ _ _ .i64 _ rfl rfl rfl) ?_
    refine s_ef (ef_fn (clone_ro μ' vd (a.drop K.length) hrd (by rw [List.length_drop]; omega)) rfl rfl (by repeat (first | exact Split.nil | (apply Split.cons; (repeat (first | with_reducible exact Take.here | apply Take.there)))))) ?_
    rintro v49 L1 rfl
    refine swl_app ?_
    refine s_pu (pu_assign rfl) ?_
    refine s_pu (pu_assign rfl) ?_
    refine swl_sub _ (.cons (t := 4) rfl (.cons (t := 5) rfl .nil)) ?_
    refine swl_nil ?_
    refine then_n ?_
    refine swp_ret ?_
    rw [hyes.1, hyes.2]
    exact done_ret [own 3 1 v49 (a.drop K.length).length ((a.drop K.length).flatMap (icsk .i64)), ro μ'] (.tmp rfl (.tmp rfl .nil)) ⟨_, μ', rfl, hle.trans h', rfl⟩ (by repeat (first | exact Split.nil | (apply Split.cons; (repeat (first | with_reducible exact Take.here | apply Take.there)))))
theorem all_spec (hS : SortOk) (μ : PH) (vg : Value) (G : List (Value × List Int)) (hG : Graph μ vg G) (hn : G.length ≤ 1048576) (hrows : ∀ x ∈ G, x.2.length ≤ 17592186043904) :
    Spec Try.prog 18 [vg] [ro μ] (AnsG μ (moreE [] (nums G)) (moreL [] (nums G))) := by
  refine Spec.of 8 Try.func18 rfl rfl rfl ?_
  refine swp_seq ?_
  refine swp_region ?_
  refine s_pu (pu_assign rfl) ?_
  refine s_pu (pu_assign rfl) ?_
  refine swl_sub _ (.cons (t := 0) rfl .nil) ?_
  refine swl_nil ?_
  refine then_n ?_
  refine swp_seq ?_
  refine swp_region ?_
  refine s_pu (pu_move rfl) ?_
  refine s_ef (ef_fn (more_spec hS μ (.slice none 0 0) vg [] G (Row.nil μ 1) hG (by simp) hn hrows) rfl rfl (by repeat (first | exact Split.nil | (apply Split.cons; (repeat (first | with_reducible exact Take.here | apply Take.there)))))) ?_
  rintro v5 L1 ⟨lv, μ', rfl, h1, rfl⟩
  refine swl_app ?_
  first | refine s_pu (pu_extractL rfl) ?_ | refine s_pu (pu_extract rfl rfl) ?_
  first | refine s_pu (pu_extractL rfl) ?_ | refine s_pu (pu_extract rfl rfl) ?_
  refine s_pu (pu_assign rfl) ?_
  refine s_pu (pu_assign rfl) ?_
  refine swl_sub _ (.cons (t := 2) rfl (.cons (t := 3) rfl .nil)) ?_
  refine swl_nil ?_
  refine then_n ?_
  refine swp_ret ?_
  exact done_ret [own 3 1 lv (moreL [] (nums G)).length ((moreL [] (nums G)).flatMap (icsk .i64)), ro μ'] (.tmp rfl (.tmp rfl .nil)) ⟨_, μ', rfl, h1, rfl⟩ (by repeat (first | exact Split.nil | (apply Split.cons; (repeat (first | with_reducible exact Take.here | apply Take.there)))))
end SX
namespace Go.Proofs
open Go.Shelf
def Try.lays189_ren : Go.Shelf.Ren := ⟨fun | 189 => 33 | 125 => 37 | 257 => 36 | 128 => 47 | 129 => 48 | 294 => 38 | 295 => 39 | 296 => 40 | 297 => 41 | 298 => 42 | 299 => 43 | 216 => 44 | 300 => 45 | 301 => 46 | 328 => 49 | 329 => 50 | 330 => 51 | 331 => 52 | 332 => 53 | 215 => 54 | 343 => 55 | n => n, fun | 28 => 22 | 3 => 3 | 46 => 58 | 0 => 0 | 51 => 68 | 53 => 70 | 4 => 4 | 183 => 61 | 182 => 60 | 131 => 65 | 5 => 5 | 9 => 9 | 218 => 71 | 222 => 75 | 228 => 77 | 229 => 78 | n => n, fun | n => n⟩
theorem Try.lays189 : Go.Proofs.Lays.n189 Try.prog Try.lays189_ren := {
  mixed := by kernel_rfl
  f125 := Try.func37.trans (congrArg some (by kernel_rfl))
  f128 := Try.func47.trans (congrArg some (by kernel_rfl))
  f129 := Try.func48.trans (congrArg some (by kernel_rfl))
  f189 := Try.func33.trans (congrArg some (by kernel_rfl))
  f215 := Try.func54.trans (congrArg some (by kernel_rfl))
  f216 := Try.func44.trans (congrArg some (by kernel_rfl))
  f257 := Try.func36.trans (congrArg some (by kernel_rfl))
  f294 := Try.func38.trans (congrArg some (by kernel_rfl))
  f295 := Try.func39.trans (congrArg some (by kernel_rfl))
  f296 := Try.func40.trans (congrArg some (by kernel_rfl))
  f297 := Try.func41.trans (congrArg some (by kernel_rfl))
  f298 := Try.func42.trans (congrArg some (by kernel_rfl))
  f299 := Try.func43.trans (congrArg some (by kernel_rfl))
  f300 := Try.func45.trans (congrArg some (by kernel_rfl))
  f301 := Try.func46.trans (congrArg some (by kernel_rfl))
  f328 := Try.func49.trans (congrArg some (by kernel_rfl))
  f329 := Try.func50.trans (congrArg some (by kernel_rfl))
  f330 := Try.func51.trans (congrArg some (by kernel_rfl))
  f331 := Try.func52.trans (congrArg some (by kernel_rfl))
  f332 := Try.func53.trans (congrArg some (by kernel_rfl))
  f343 := Try.func55.trans (congrArg some (by kernel_rfl))
  t0 := Try.underlying0
  a0 := Try.isAgg0
  z0 := Try.sizeOf0
  v0 := Try.zeroValue0
  t3 := Try.underlying3
  a3 := Try.isAgg3
  z3 := Try.sizeOf3
  v3 := Try.zeroValue3
  t4 := Try.underlying4
  a4 := Try.isAgg4
  z4 := Try.sizeOf4
  v4 := Try.zeroValue4
  t5 := Try.underlying5
  a5 := Try.isAgg5
  z5 := Try.sizeOf5
  v5 := Try.zeroValue5
  t9 := Try.underlying9
  a9 := Try.isAgg9
  z9 := Try.sizeOf9
  v9 := Try.zeroValue9
  t28 := Try.underlying22
  a28 := Try.isAgg22
  z28 := Try.sizeOf22
  v28 := Try.zeroValue22
  t46 := Try.underlying58
  a46 := Try.isAgg58
  z46 := Try.sizeOf58
  v46 := Try.zeroValue58
  t51 := Try.underlying68
  a51 := Try.isAgg68
  z51 := Try.sizeOf68
  v51 := Try.zeroValue68
  t53 := Try.underlying70
  a53 := Try.isAgg70
  z53 := Try.sizeOf70
  v53 := Try.zeroValue70
  t131 := Try.underlying65
  a131 := Try.isAgg65
  z131 := Try.sizeOf65
  v131 := Try.zeroValue65
  t182 := Try.underlying60
  a182 := Try.isAgg60
  z182 := Try.sizeOf60
  v182 := Try.zeroValue60
  t183 := Try.underlying61
  a183 := Try.isAgg61
  z183 := Try.sizeOf61
  v183 := Try.zeroValue61
  t218 := Try.underlying71
  a218 := Try.isAgg71
  z218 := Try.sizeOf71
  v218 := Try.zeroValue71
  t222 := Try.underlying75
  a222 := Try.isAgg75
  z222 := Try.sizeOf75
  v222 := Try.zeroValue75
  t228 := Try.underlying77
  a228 := Try.isAgg77
  z228 := Try.sizeOf77
  v228 := Try.zeroValue77
  t229 := Try.underlying78
  a229 := Try.isAgg78
  z229 := Try.sizeOf78
  v229 := Try.zeroValue78 }
open Go.Sort Go.RowKit in
theorem Try.slices_Sort_int (blk off cap : Nat) (zs : List Int) (w : World) (hH : Holds (Value.int .i64) w blk off zs.toArray) (hblk : blk < w.heap.size) (hsz : zs.length < 4611686018427387904) :
    Calls Try.prog 33 #[.slice (some ⟨blk, off, none⟩) zs.length cap] w fun e w' =>
      e = .returned (.tuple #[]) ∧ ∃ n os, w' = grow (putRow (Value.int .i64) (Sort.ahead w n) blk off (zs.mergeSort fun x y => decide (x ≤ y)).toArray) os := Any.slices_Sort_int Try.lays189 blk off cap zs w hH hblk hsz
open Go.RowKit Go.Sort in
/-- .. and plain. (LAID: no walk: one application.) -/
theorem Try.slices_Sort_int_none (p : Option Addr) (cap : Nat) (w : World) :
    Calls Try.prog 33 #[.slice p 0 cap] w fun e w' => e = .returned (.tuple #[]) ∧ w' = w := Any.slices_Sort_int_none Try.lays189 p cap w
end Go.Proofs
namespace SX
open Go Go.Proofs
theorem sort_ok : SortOk := fun v xs hl => sort_ints (e := 3) (fun blk off cap zs w h1 h2 h3 => Try.slices_Sort_int blk off cap zs w h1 h2 h3) (fun p cap w => Try.slices_Sort_int_none p cap w) v xs hl
end SX
namespace SX
open Go Go.Proofs

theorem samelist_i (u v : Value) (xs ys : List Int) (L0 : List Assn) (hu : Ints Try.prog 3 L0 u xs) (hv : Ints Try.prog 3 L0 v ys) : Spec Try.prog 14 [u, v] L0 (fun r L => r = .bool (decide (xs = ys)) ∧ L = L0) := by
  obtain ⟨A, ca, rfl, hla, ha⟩ := hu
  obtain ⟨B, cb, rfl, hlb, hb⟩ := hv
  refine Spec.of 26 Try.func14 rfl rfl rfl ?_
  refine swp_seq ?_
  refine swp_region ?_
  refine s_pu (pu_assign rfl) ?_
  refine swl_sub _ (.cons (t := 0) rfl (.cons (t := 1) rfl .nil)) ?_
  refine swl_nil ?_
  refine then_n ?_
  refine swp_seq ?_
  refine swp_seq ?_
  refine swp_region ?_
  refine s_pu (pu_move rfl) ?_
  refine s_pu (pu_len rfl) ?_
  refine s_pu (pu_move rfl) ?_
  refine s_pu (pu_len rfl) ?_
  refine s_pu (pu_neq rfl rfl) ?_
  refine swl_sub _ (.cons (t := 0) rfl (.cons (t := 1) rfl (.cons (t := 10) rfl .nil))) ?_
  refine swl_nil ?_
  refine then_n ?_
  refine swp_cond (b := _) rfl (fun h10 => ?_) (fun h10 => ?_)
  · skip   -- 10 T
    refine swp_seq ?_
    refine swp_region ?_
    refine s_pu (pu_assign rfl) ?_
    refine swl_sub _ (.cons (t := 4) rfl .nil) ?_
    refine swl_nil ?_
    refine then_n ?_
    refine swp_ret ?_
    refine then_r ?_
    simp only [Bool.not_eq_true', decide_eq_false_iff_not] at h10
    exact done_ret _ (.tmp rfl .nil) ⟨by rw [decide_eq_false (fun e => h10 (by rw [e]))]; rfl, rfl⟩ Split.all
  · skip   -- 10 F
    refine swp_skip ?_
    refine then_n ?_
    refine swp_seq ?_
    refine swp_seq ?_
    refine swp_region ?_
    refine s_pu (pu_assign rfl) ?_
    refine swl_sub _ (.cons (t := 0) rfl (.cons (t := 1) rfl (.cons (t := 5) rfl .nil))) ?_
    refine swl_nil ?_
    refine then_n ?_
    refine swp_block ?_
    have hlen : xs.length = ys.length := by
      simp only [Bool.not_eq_false', decide_eq_true_eq] at h10; omega
    refine swp_sub _ (.cons (t := 0) rfl (.cons (t := 1) rfl (.cons (t := 5) rfl .nil))) ?_
    refine swp_loop (ι := Nat) (fun i env L => env = [(0, .slice A xs.length ca), (1, .slice B ys.length cb), (5, .int .i64 (i : Nat))] ∧ L = L0 ∧ i ≤ xs.length ∧ ∀ j, j < i → xs[j]? = ys[j]?) (fun i => xs.length - i) 0 ⟨rfl, rfl, Nat.zero_le _, fun j h => by omega⟩ ?_
    rintro i env L ⟨rfl, rfl, hi, hlo⟩
    refine swp_seq ?_
    refine swp_seq ?_
    refine swp_region ?_
    refine s_pu (pu_move rfl) ?_
    refine s_pu (pu_move rfl) ?_
    refine s_pu (pu_len rfl) ?_
    refine s_pu (pu_lss rfl rfl) ?_
    refine swl_sub _ (.cons (t := 0) rfl (.cons (t := 1) rfl (.cons (t := 5) rfl (.cons (t := 14) rfl .nil)))) ?_
    refine swl_nil ?_
    refine then_n ?_
    refine swp_cond (b := _) rfl (fun h14 => ?_) (fun h14 => ?_)
    · skip   -- 14 T
      have h14' : i < xs.length := by have := of_decide_eq_true h14; omega
      obtain ⟨x, hx⟩ : ∃ x, xs[i]? = some x := ⟨_, List.getElem?_eq_getElem h14'⟩
      obtain ⟨y, hy⟩ : ∃ y, ys[i]? = some y := ⟨_, List.getElem?_eq_getElem (by omega)⟩
      obtain ⟨ab, ao, rfl, hxl⟩ := ha (by omega)
      obtain ⟨bb, bo, rfl, hyl⟩ := hb (by omega)
      refine swp_skip ?_
      refine then_n ?_
      refine swp_seq ?_
      refine swp_block ?_
      refine swp_seq ?_
      refine swp_draw [3, 7] _ [] (by simp only [List.append_nil]; exact Ent.refl _) (by kernel_rfl) ?_
      refine d_pu 0 rfl (pu_move rfl) (by kernel_rfl) (by kernel_rfl) (by kernel_rfl) ?_
      refine d_pu 1 rfl (pu_move rfl) (by kernel_rfl) (by kernel_rfl) (by kernel_rfl) ?_
      refine d_pu 2 rfl (pu_indexAddr (ao + i * 1) rfl rfl (by omega) (by omega) (by rw [Int.toNat_natCast])) (by kernel_rfl) (by kernel_rfl) (by kernel_rfl) ?_
      refine d_rd 3 rfl (rd_of_ld rfl (by rw [Nat.mul_one]; exact hxl i x hx)) rfl (by kernel_rfl) (by kernel_rfl) (by kernel_rfl) ?_
      refine d_pu 4 rfl (pu_move rfl) (by kernel_rfl) (by kernel_rfl) (by kernel_rfl) ?_
      refine d_pu 5 rfl (pu_move rfl) (by kernel_rfl) (by kernel_rfl) (by kernel_rfl) ?_
      refine d_pu 6 rfl (pu_indexAddr (bo + i * 1) rfl rfl (by omega) (by omega) (by rw [Int.toNat_natCast])) (by kernel_rfl) (by kernel_rfl) (by kernel_rfl) ?_
      refine d_rd 7 rfl (rd_of_ld rfl (by rw [Nat.mul_one]; exact hyl i y hy)) rfl (by kernel_rfl) (by kernel_rfl) (by kernel_rfl) ?_
      refine d_pu 8 rfl (pu_neq rfl rfl) (by kernel_rfl) (by kernel_rfl) (by kernel_rfl) ?_
      refine d_sub _ (.cons (t := 0) rfl (.cons (t := 1) rfl (.cons (t := 5) rfl (.cons (t := 25) rfl .nil)))) ?_
      first | refine d_nilt (by kernel_rfl) ?_ | refine d_nilf (by kernel_rfl) ?_
      refine then_n ?_
      refine swp_cond (b := _) rfl (fun h25 => ?_) (fun h25 => ?_)
      · skip   -- 25 T
        refine swp_seq ?_
        refine swp_region ?_
        refine s_pu (pu_assign rfl) ?_
        refine swl_sub _ (.cons (t := 4) rfl .nil) ?_
        refine swl_nil ?_
        refine then_n ?_
        refine swp_ret ?_
        refine block_r ?_
        refine then_r ?_
        refine then_r ?_
        refine block_r ?_
        refine then_r ?_
        simp only [Bool.not_eq_true', decide_eq_false_iff_not] at h25
        exact done_ret _ (.tmp rfl .nil) ⟨by rw [decide_eq_false (fun e => h25 (by subst e; rw [hx] at hy; exact Option.some.inj hy))]; rfl, rfl⟩ Split.all
      · skip   -- 25 F
        refine swp_skip ?_
        refine block_n ?_
        refine then_n ?_
        refine swp_region ?_
        refine s_pu (pu_move rfl) ?_
        refine s_pu (pu_add_as ((i + 1 : Nat) : Int) rfl rfl (by omega) (by omega) (by omega)) ?_
        refine s_pu (pu_assign rfl) ?_
        refine swl_sub _ (.cons (t := 0) rfl (.cons (t := 1) rfl (.cons (t := 5) rfl .nil))) ?_
        refine swl_nil ?_
        simp only [Bool.not_eq_false', decide_eq_true_eq] at h25
        exact then_n ⟨i + 1, ⟨rfl, rfl, h14', fun j hj => by
          by_cases e : j = i
          · subst e; rw [hx, hy, h25]
          · exact hlo j (by omega)⟩, by omega⟩
    · skip   -- 14 F
      have h14' := of_decide_eq_false h14
      obtain rfl : i = xs.length := by omega
      refine swp_exit ?_
      refine then_x ?_
      refine then_x ?_
      refine block_hit rfl ?_
      refine then_n ?_
      refine swp_seq ?_
      refine swp_region ?_
      refine s_pu (pu_assign rfl) ?_
      refine swl_sub _ (.cons (t := 4) rfl .nil) ?_
      refine swl_nil ?_
      refine then_n ?_
      refine swp_ret ?_
      exact done_ret _ (.tmp rfl .nil) ⟨by rw [decide_eq_true (List.ext_getElem? fun j => by
        by_cases hj : j < xs.length
        · exact hlo j hj
        · rw [List.getElem?_eq_none (by omega), List.getElem?_eq_none (by omega)])]; rfl, rfl⟩ Split.all
end SX
namespace SX
open Go Go.Proofs

end SX
namespace SX
open Go Go.Proofs

theorem ints_lit {L : List Assn} {b : Nat} {xs : List Int} {cs : List Value} {n : Nat} [hb : InB b L 3 cs] (hc : cs = xs.flatMap (icsk .i64)) (hn : n = xs.length) (hs : xs.length ≤ 17592186043904) : Ints Try.prog 3 L (.slice (some ⟨b, 0, none⟩) n n) xs := by
  subst hc hn
  exact ints_blk rfl (by omega)
theorem counts_all : moreL [] [[], [0], [0], [1, 2]] = [1, 2, 2, 3] ∧ moreE [] [[], [0], [0], [1, 2]] = 0 := by decide +kernel
set_option maxHeartbeats 1000000 in
theorem counts_spec (μ : PH) : Spec Try.prog 10 [] [ro μ] (fun r L => r = .bool true ∧ ∃ μ', Le μ μ' ∧ L = [ro μ']) := by
  refine Spec.of 30 Try.func10 rfl rfl rfl ?_
  refine swp_seq ?_
  refine swp_region ?_
  refine s_pu (pu_assign rfl) ?_
  refine swl_sub _ .nil ?_
  refine swl_nil ?_
  refine then_n ?_
  refine swp_seq ?_
  refine swp_region ?_
  refine s_ef (ef_bldS (qs := [(0, _)]) rfl rfl rfl) ?_
  intro b4
  refine s_ef (ef_bldS (qs := [(0, _)]) rfl rfl rfl) ?_
  intro b5
  refine s_ef (ef_bldS (qs := [(0, _), (1, _)]) rfl rfl rfl) ?_
  intro b6
  refine s_ef (ef_bldS (qs := [(0, _), (1, _), (2, _), (3, _)]) rfl rfl rfl) ?_
  intro b7
  refine swl_share (b := b4) (μ := μ) (by repeat (first | exact Split.nil | (apply Split.cons; (repeat (first | with_reducible exact Take.here | apply Take.there))))) fun μ1 h1 k1 => ?_
  refine swl_share (b := b5) (μ := μ1) (by repeat (first | exact Split.nil | (apply Split.cons; (repeat (first | with_reducible exact Take.here | apply Take.there))))) fun μ2 h2 k2 => ?_
  refine swl_share (b := b6) (μ := μ2) (by repeat (first | exact Split.nil | (apply Split.cons; (repeat (first | with_reducible exact Take.here | apply Take.there))))) fun μ3 h3 k3 => ?_
  refine swl_share (b := b7) (μ := μ3) (by repeat (first | exact Split.nil | (apply Split.cons; (repeat (first | with_reducible exact Take.here | apply Take.there))))) fun μ4 h4 k4 => ?_
  have r1 := (row_of_blk (n := 1) (l := 1) (cs := [0].flatMap (icsk .i64)) k1 (by rfl) (by decide)).le (h2.trans (h3.trans h4))
  have r2 := (row_of_blk (n := 1) (l := 1) (cs := [0].flatMap (icsk .i64)) k2 (by rfl) (by decide)).le (h3.trans h4)
  have r3 := (row_of_blk (n := 1) (l := 2) (cs := [1, 2].flatMap (icsk .i64)) k3 (by rfl) (by decide)).le h4
  have hG : Graph μ4 (.slice (some ⟨b7, 0, none⟩) 4 4) [(.slice none 0 0, []), (.slice (some ⟨b4, 0, none⟩) 1 1, [0]), (.slice (some ⟨b5, 0, none⟩) 1 1, [0]), (.slice (some ⟨b6, 0, none⟩) 2 2, [1, 2])] := by
    refine ⟨row_of_blk k4 (by rfl) (by decide), fun x hx => ?_⟩
    rcases List.mem_cons.1 hx with rfl | hx
    · exact Row.nil _ _
    rcases List.mem_cons.1 hx with rfl | hx
    · exact r1
    rcases List.mem_cons.1 hx with rfl | hx
    · exact r2
    obtain rfl := List.mem_singleton.1 hx
    exact r3
  refine s_ef (ef_fn (all_spec sort_ok μ4 _ _ hG (by simp) (fun x hx => by simp at hx; rcases hx with rfl | rfl | rfl | rfl <;> simp)) rfl rfl (by repeat (first | exact Split.nil | (apply Split.cons; (repeat (first | with_reducible exact Take.here | apply Take.there)))))) ?_
  rintro v8 L1 ⟨lv, μ5, rfl, h5, rfl⟩
  rw [show nums [(Value.slice none 0 0, ([] : List Int)), (Value.slice (some ⟨b4, 0, none⟩) 1 1, [0]), (Value.slice (some ⟨b5, 0, none⟩) 1 1, [0]), (Value.slice (some ⟨b6, 0, none⟩) 2 2, [1, 2])] = [[], [0], [0], [1, 2]] from rfl, counts_all.1, counts_all.2]
  refine swl_app ?_
  refine swl_fact (fun m h => own_shape .here h) fun hs => ?_
  refine s_pu (pu_move rfl) ?_
  first | refine s_pu (pu_extractL rfl) ?_ | refine s_pu (pu_extract rfl rfl) ?_
  first | refine s_pu (pu_extractL rfl) ?_ | refine s_pu (pu_extract rfl rfl) ?_
  refine s_pu (pu_assign rfl) ?_
  refine s_pu (pu_assign rfl) ?_
  refine swl_sub _ (.cons (t := 1) rfl (.cons (t := 2) rfl .nil)) ?_
  refine swl_nil ?_
  refine then_n ?_
  refine swp_seq ?_
  refine swp_region ?_
  refine s_pu (pu_move rfl) ?_
  refine s_pu (pu_eql rfl rfl) ?_
  refine s_pu (pu_move rfl) ?_
  refine s_on rfl rfl ?_
  refine s_pu (pu_move rfl) ?_
  refine s_on rfl rfl ?_
  refine s_ef (ef_bldS (qs := [(0, _), (1, _), (2, _), (3, _)]) rfl rfl rfl) ?_
  intro b15
  refine s_on rfl rfl ?_
  refine s_ef (ef_fn (samelist_i lv _ ([1, 2, 2, 3] : List Int) ([1, 2, 2, 3] : List Int) _ (ints_own hs (by repeat (first | with_reducible exact Take.here | apply Take.there))) (ints_lit rfl rfl (by decide))) rfl rfl Split.all) ?_
  rintro v16 L1 ⟨rfl, rfl⟩
  refine swl_app ?_
  first | refine s_pu (pu_pick_t rfl rfl) ?_ | refine s_pu (pu_pick_f rfl rfl) ?_
  refine s_pu (pu_move rfl) ?_
  refine s_on rfl rfl ?_
  refine s_ef (ef_bldS (qs := [(0, _), (1, _)]) rfl rfl rfl) ?_
  intro b19
  refine s_on rfl rfl ?_
  refine s_ef (ef_fn (next_spec _ ([3, 7] : List Int) _ (ints_lit rfl rfl (by decide))) rfl rfl Split.all) ?_
  rintro v20 L1 ⟨rfl, rfl⟩
  refine swl_app ?_
  refine s_on rfl rfl ?_
  refine s_pu (pu_eql rfl rfl) ?_
  first | refine s_pu (pu_pick_t rfl rfl) ?_ | refine s_pu (pu_pick_f rfl rfl) ?_
  refine s_pu (pu_move rfl) ?_
  refine s_on rfl rfl ?_
  refine s_ef (ef_fn (may_spec 3 2) rfl rfl Split.nil) ?_
  rintro v24 L1 ⟨rfl, rfl⟩
  refine swl_app ?_
  first | refine s_pu (pu_pick_t rfl rfl) ?_ | refine s_pu (pu_pick_f rfl rfl) ?_
  refine s_pu (pu_move rfl) ?_
  refine s_on rfl rfl ?_
  refine s_ef (ef_fn (may_spec 2 2) rfl rfl Split.nil) ?_
  rintro v27 L1 ⟨rfl, rfl⟩
  refine swl_app ?_
  refine s_on rfl rfl ?_
  refine s_pu (pu_not rfl) ?_
  first | refine s_pu (pu_pick_t rfl rfl) ?_ | refine s_pu (pu_pick_f rfl rfl) ?_
  refine s_pu (pu_assign rfl) ?_
  refine swl_sub _ (.cons (t := 0) rfl .nil) ?_
  refine swl_nil ?_
  refine then_n ?_
  refine swp_ret ?_
  exact done_ret [ro μ5] (.tmp rfl .nil) ⟨rfl, μ5, h1.trans (h2.trans (h3.trans (h4.trans h5))), rfl⟩ (by repeat (first | exact Split.nil | (apply Split.cons; (repeat (first | with_reducible exact Take.here | apply Take.there)))))
abbrev LawOk (μ : PH) (r : Value) (L : List Assn) : Prop := r = .bool true ∧ ∃ μ' R, Le μ μ' ∧ L = ro μ' :: R
end SX
namespace SX
open Go Go.Proofs

theorem more0_chk (g : List (List Int)) : (moreE [] g = 0) ↔ chkFrom 0 g = 0 := by
  have h : (moreG [] g).isSome = true ↔ chkFrom 0 g = 0 := moreG_chk (all := [])
  rw [← h]
  unfold moreE
  cases moreG [] g <;> simp
end SX
namespace SX
open Go Go.Proofs

end SX
namespace SX
open Go Go.Proofs

end SX
namespace SX
open Go Go.Proofs

set_option maxHeartbeats 4000000 in
theorem genpieces_spec (μ : PH) (v vc : Value) (G : List (Value × List Int)) (cs : List Int) (hG : Graph μ v G) (hn : G.length ≤ 17592186043904) (hrows : ∀ x ∈ G, x.2.length ≤ 17592186043904)
    (hc : Row μ vc 1 cs.length (cs.flatMap (icsk .u8))) (hcs : cs.length ≤ 140737488351232) (hcw : ∀ c ∈ cs, 0 ≤ c ∧ c ≤ 255) : Spec Try.prog 7 [v, vc] [ro μ] (LawOk μ) := by
  refine Spec.of 137 Try.func7 rfl rfl rfl ?_
  refine swp_seq ?_
  refine swp_region ?_
  refine s_pu (pu_assign rfl) ?_
  refine swl_sub _ (.cons (t := 0) rfl (.cons (t := 1) rfl .nil)) ?_
  refine swl_nil ?_
  refine then_n ?_
  refine swp_seq ?_
  refine swp_seq ?_
  refine swp_region ?_
  refine s_ef (ef_fn (counts_spec μ) rfl rfl (by repeat (first | exact Split.nil | (apply Split.cons; (repeat (first | with_reducible exact Take.here | apply Take.there)))))) ?_
  rintro v19 L1 ⟨rfl, μ1, h1, rfl⟩
  refine swl_app ?_
  refine s_pu (pu_not rfl) ?_
  refine swl_sub _ (.cons (t := 0) rfl (.cons (t := 1) rfl (.cons (t := 20) rfl .nil))) ?_
  refine swl_nil ?_
  refine then_n ?_
  refine swp_cond (b := _) rfl (fun h20 => by cases h20) (fun h20 => ?_)
  refine swp_skip ?_
  refine then_n ?_
  refine swp_seq ?_
  obtain ⟨v', hG1, hsl⟩ := graph_take (P := Try.prog) (tG := 30) (hG.le h1) (min G.length 2000) (Nat.min_le_left _ _)
  have hmn : (min (G.length : Int) 2000) = ((min G.length 2000 : Nat) : Int) := by omega
  have hrows1 : ∀ x ∈ G.take (min G.length 2000), x.2.length ≤ 17592186043904 := fun x hx => hrows x (List.mem_of_mem_take hx)
  have hlen1 : (G.take (min G.length 2000)).length ≤ 2000 := by rw [List.length_take]; omega
  generalize G.take (min G.length 2000) = Gm at *
  refine swp_region ?_
  refine s_pu (pu_move rfl) ?_
  refine s_pu (pu_move rfl) ?_
  refine s_pu (pu_len_row hG.1 rfl) ?_
  refine s_pu (pu_min2 rfl rfl) ?_
  rw [hmn]
  refine s_pu (hsl _ _ _ .i64 _ rfl rfl rfl) ?_
  refine s_pu (pu_assign rfl) ?_
  refine swl_sub _ (.cons (t := 0) rfl (.cons (t := 1) rfl .nil)) ?_
  refine swl_nil ?_
  refine then_n ?_
  refine swp_seq ?_
  refine swp_region ?_
  refine s_pu (pu_move rfl) ?_
  refine s_ef (ef_fn (all_spec sort_ok μ1 v' Gm hG1 (by omega) hrows1) rfl rfl (by repeat (first | exact Split.nil | (apply Split.cons; (repeat (first | with_reducible exact Take.here | apply Take.there)))))) ?_
  rintro v28 L1 ⟨lv, μ3, rfl, h3, rfl⟩
  refine swl_app ?_
  have hG3 := hG1.le h3
  have hec := more0_chk (nums Gm)
  refine s_pu (pu_move rfl) ?_
  first | refine s_pu (pu_extractL rfl) ?_ | refine s_pu (pu_extract rfl rfl) ?_
  first | refine s_pu (pu_extractL rfl) ?_ | refine s_pu (pu_extract rfl rfl) ?_
  refine s_pu (pu_assign rfl) ?_
  refine s_pu (pu_assign rfl) ?_
  refine swl_sub _ (.cons (t := 0) rfl (.cons (t := 1) rfl (.cons (t := 5) rfl (.cons (t := 6) rfl .nil)))) ?_
  refine swl_nil ?_
  refine then_n ?_
  refine swp_seq ?_
  refine swp_seq ?_
  refine swp_region ?_
  refine s_pu (pu_move rfl) ?_
  refine s_ef (ef_fn (rcheck_spec μ3 v' Gm hG3 (by omega)) rfl rfl (by repeat (first | exact Split.nil | (apply Split.cons; (repeat (first | with_reducible exact Take.here | apply Take.there)))))) ?_
  rintro v32 L1 ⟨rfl, rfl⟩
  refine swl_app ?_
  refine s_pu (pu_neq rfl rfl) ?_
  refine swl_sub _ (.cons (t := 0) rfl (.cons (t := 1) rfl (.cons (t := 5) rfl (.cons (t := 6) rfl (.cons (t := 33) rfl .nil))))) ?_
  refine swl_nil ?_
  refine then_n ?_
  refine swp_cond (b := _) rfl (fun h33 => ?_) (fun h33 => ?_)
  · skip   -- 33 T
    have hc0 : ¬ chkFrom 0 (nums Gm) = 0 := by simpa using h33
    have hE : moreE [] (nums Gm) = 1 ∧ moreL [] (nums Gm) = [] := by
      have := fun h => hc0 (hec.1 h)
      unfold moreE at this ⊢
      cases hm : moreG [] (nums Gm) with
      | none => exact ⟨rfl, (moreL_none hm).1⟩
      | some a => rw [hm] at this; exact absurd rfl this
    rw [hE.1, hE.2]
    refine swp_fact (fun m h => own_shape (by repeat (first | with_reducible exact Take.here | apply Take.there)) h) fun hs1 => ?_
    have hform := shape_len hs1
    refine swp_seq ?_
    refine swp_region ?_
    refine s_pu (pu_move rfl) ?_
    refine s_pu (pu_eql rfl rfl) ?_
    refine s_pu (pu_move rfl) ?_
    refine s_on rfl rfl ?_
    refine s_pu (pu_move rfl) ?_
    refine s_on rfl rfl ?_
    refine s_pu (pu_len_own hform rfl) ?_
    refine s_on rfl rfl ?_
    refine s_pu (pu_eql rfl rfl) ?_
    first | refine s_pu (pu_pick_t rfl rfl) ?_ | refine s_pu (pu_pick_f rfl rfl) ?_
    refine s_pu (pu_assign rfl) ?_
    refine swl_sub _ (.cons (t := 4) rfl .nil) ?_
    refine swl_nil ?_
    refine then_n ?_
    refine swp_ret ?_
    refine then_r ?_
    exact done_ret [ro μ3] (.tmp rfl .nil) ⟨rfl, μ3, [], h1.trans h3, rfl⟩ (by repeat (first | exact Split.nil | (apply Split.cons; (repeat (first | with_reducible exact Take.here | apply Take.there)))))
  · skip   -- 33 F
    have hc0 : chkFrom 0 (nums Gm) = 0 := by simpa using h33
    obtain ⟨gs, ha⟩ : ∃ a, moreG [] (nums Gm) = some a := by
      have hs : (moreG [] (nums Gm)).isSome = true ↔ chkFrom 0 (nums Gm) = 0 := moreG_chk (all := [])
      exact Option.isSome_iff_exists.1 (hs.2 hc0)
    have hln : (nums Gm).length = Gm.length := List.length_map _
    have hal : gs.length = Gm.length := by rw [gens_len ha, hln]
    have hyes := moreL_some ha
    rw [hyes.1, hyes.2, show gs.drop ([] : List Int).length = gs from rfl]
    refine swp_share_own (v := lv) (μ := μ3) (by repeat (first | exact Split.nil | (apply Split.cons; (repeat (first | with_reducible exact Take.here | apply Take.there))))) fun μ4 h4 ra => ?_
    have hG4 := hG3.le h4
    have hc4 := hc.le (h1.trans (h3.trans h4))
    refine swp_skip ?_
    refine then_n ?_
    refine swp_seq ?_
    refine swp_seq ?_
    refine swp_region ?_
    refine s_pu (pu_move rfl) ?_
    refine s_pu (pu_neq rfl rfl) ?_
    refine s_pu (pu_move rfl) ?_
    refine s_on rfl rfl ?_
    refine s_pu (pu_move rfl) ?_
    refine s_on rfl rfl ?_
    refine s_pu (pu_len_row ra rfl) ?_
    refine s_on rfl rfl ?_
    refine s_pu (pu_move rfl) ?_
    refine s_on rfl rfl ?_
    refine s_pu (pu_len_row hG4.1 rfl) ?_
    refine s_on rfl rfl ?_
    refine s_pu (pu_neq rfl rfl) ?_
    first | refine s_pu (pu_pick_t rfl rfl) ?_ | refine s_pu (pu_pick_f rfl rfl) ?_
    refine swl_sub _ (.cons (t := 0) rfl (.cons (t := 1) rfl (.cons (t := 5) rfl (.cons (t := 49) rfl .nil)))) ?_
    refine swl_nil ?_
    refine then_n ?_
    refine swp_cond (b := _) rfl (fun h49 => by exfalso; rw [hal] at h49; simp at h49) (fun h49 => ?_)
    refine swp_skip ?_
    refine then_n ?_
    refine swp_seq ?_
    refine swp_region ?_
    refine s_pu (pu_assign rfl) ?_
    refine swl_sub _ (.cons (t := 0) rfl (.cons (t := 1) rfl (.cons (t := 5) rfl (.cons (t := 7) rfl .nil)))) ?_
    refine swl_nil ?_
    refine then_n ?_
    refine swp_seq ?_
    refine swp_seq ?_
    refine swp_region ?_
    refine s_pu (pu_move rfl) ?_
    refine s_pu (pu_len_row hc4 rfl) ?_
    refine s_pu (pu_move rfl) ?_
    refine swl_sub _ (.cons (t := 0) rfl (.cons (t := 5) rfl (.cons (t := 7) rfl (.cons (t := 50) rfl (.cons (t := 51) rfl (.cons (t := 52) rfl .nil)))))) ?_
    refine swl_ent (own_nil_ent (e := 3) (n := 1)) ?_
    refine swl_nil ?_
    refine then_n ?_
    refine swp_block ?_
    refine swp_loop (ι := Nat × Value × List Int × PH) (fun k env L => env = [(0, v'), (5, lv), (7, k.2.1), (50, vc), (51, .int .i64 (cs.length : Nat)), (52, .int .i64 (k.1 : Nat))] ∧ L = [own 3 1 k.2.1 k.2.2.1.length (k.2.2.1.flatMap (icsk .i64)), ro k.2.2.2] ∧ k.1 ≤ cs.length ∧ k.2.2.1.length ≤ Gm.length ∧ Le μ4 k.2.2.2 ∧ moreG [] ((nums Gm).take k.2.2.1.length) = some k.2.2.1) (fun k => cs.length - k.1) (0, .slice none 0 0, [], μ4) ⟨rfl, rfl, Nat.zero_le _, Nat.zero_le _, Le.refl _, rfl⟩ ?_
    rintro ⟨i, kv, a, μk⟩ env L ⟨rfl, rfl, hi, hla, hle, hak⟩
    dsimp only at hi hla hle hak ⊢
    have hGk := hG4.le hle
    refine swp_seq ?_
    refine swp_region ?_
    refine s_pu (pu_lss rfl rfl) ?_
    refine swl_sub _ (.cons (t := 0) rfl (.cons (t := 5) rfl (.cons (t := 7) rfl (.cons (t := 50) rfl (.cons (t := 51) rfl (.cons (t := 52) rfl (.cons (t := 53) rfl .nil))))))) ?_
    refine swl_nil ?_
    refine then_n ?_
    refine swp_seq ?_
    refine swp_cond (b := _) rfl (fun h53 => ?_) (fun h53 => ?_)
    · skip   -- 53 T
      have h53' : i < cs.length := by have := of_decide_eq_true h53; omega
      obtain ⟨cb, co, cc, hcv, hcc⟩ := (hc4.le hle).atk (List.getElem?_eq_getElem h53')
      have hcr := hcw _ (List.getElem_mem h53')
      generalize cs[i] = ci at *
      obtain ⟨ci, rfl⟩ : ∃ k : Nat, ci = k := ⟨ci.toNat, by omega⟩
      obtain ⟨n, hnn⟩ : ∃ n, n = min ci (Gm.length - a.length) := ⟨_, rfl⟩
      have hmin : min (ci : Int) ((Gm.length - a.length : Nat) : Int) = (n : Int) := by omega
      obtain ⟨vs, hGs, hsm⟩ := graph_mid (P := Try.prog) (tG := 30) hGk a.length n (by omega)
      obtain ⟨a', p1, p2, p3, p4⟩ := more_piece ha hak n
      have hdm : nums ((Gm.drop a.length).take n) = ((nums Gm).drop a.length).take n := by unfold nums; rw [List.map_take, List.map_drop]
      have hsn : ((Gm.drop a.length).take n).length = n := by rw [List.length_take, List.length_drop]; omega
      have hsr : ∀ x ∈ (Gm.drop a.length).take n, x.2.length ≤ 17592186043904 := fun x hx => hrows1 x (List.mem_of_mem_drop (List.mem_of_mem_take hx))
      rw [← hdm] at p2 p3
      have p3' : a'.length = a.length + n := by rw [p3, List.length_map, hsn]
      generalize (Gm.drop a.length).take n = Gs at *
      refine swp_skip ?_
      refine then_n ?_
      refine swp_seq ?_
      refine swp_block ?_
      refine swp_seq ?_
      refine swp_region ?_
      refine s_pu (pu_indexAddr (co + i * 1) (congrArg some hcv) rfl (by omega) (by omega) (by rw [Int.toNat_natCast])) ?_
      refine s_rd (rd_ro rfl hcc) ?_
      refine s_pu (pu_assign rfl) ?_
      refine swl_sub _ (.cons (t := 0) rfl (.cons (t := 5) rfl (.cons (t := 7) rfl (.cons (t := 9) rfl (.cons (t := 50) rfl (.cons (t := 51) rfl (.cons (t := 52) rfl .nil))))))) ?_
      refine swl_nil ?_
      refine then_n ?_
      refine swp_seq ?_
      refine swp_region ?_
      refine swl_lend_own (v := kv) (μ := μk) (by repeat (first | exact Split.nil | (apply Split.cons; (repeat (first | with_reducible exact Take.here | apply Take.there))))) fun μ5 h5 rk hback => ?_
      refine s_pu (pu_move rfl) ?_
      refine s_pu (pu_conv_i64 rfl (by omega) (by omega)) ?_
      refine s_pu (pu_move rfl) ?_
      refine s_pu (pu_len_row hGk.1 rfl) ?_
      refine s_pu (pu_move rfl) ?_
      refine s_pu (pu_len_row rk rfl) ?_
      refine s_pu (pu_sub_as ((Gm.length - a.length : Nat) : Int) rfl rfl (by omega) (by omega) (by omega)) ?_
      refine s_pu (pu_min2 rfl rfl) ?_
      rw [hmin]
      refine s_pu (pu_assign rfl) ?_
      refine swl_sub _ (.cons (t := 0) rfl (.cons (t := 5) rfl (.cons (t := 7) rfl (.cons (t := 10) rfl (.cons (t := 50) rfl (.cons (t := 51) rfl (.cons (t := 52) rfl .nil))))))) ?_
      refine swl_nil ?_
      refine then_n ?_
      refine swp_seq ?_
      refine swp_region ?_
      refine s_pu (pu_move rfl) ?_
      refine s_pu (pu_move rfl) ?_
      refine s_pu (pu_move rfl) ?_
      refine s_pu (pu_len_row rk rfl) ?_
      refine s_pu (pu_move rfl) ?_
      refine s_pu (pu_len_row rk rfl) ?_
      refine s_pu (pu_move rfl) ?_
      refine s_pu (pu_add_as ((a.length + n : Nat) : Int) rfl rfl (by omega) (by omega) (by omega)) ?_
      refine s_pu (hsm _ _ _ _ .i64 .i64 _ _ rfl rfl rfl rfl rfl) ?_
      refine s_ef (ef_fn (more_spec sort_ok μ5 kv vs a Gs rk (hGs.le h5) (by omega) (by omega) hsr) rfl rfl (by repeat (first | exact Split.nil | (apply Split.cons; (repeat (first | with_reducible exact Take.here | apply Take.there)))))) ?_
      rintro v74 L1 ⟨pv, μ6, rfl, h6, rfl⟩
      refine swl_app ?_
      obtain ⟨μ7, h7, hb⟩ := hback μ6 h6
      have hy2 := moreL_some p2
      rw [hy2.1, hy2.2]
      refine swl_ent (Split.ent' (K := [ro μ6, own 3 1 pv (a'.drop a.length).length ((a'.drop a.length).flatMap (icsk .i64))]) (by repeat (first | exact Split.nil | (apply Split.cons; (repeat (first | with_reducible exact Take.here | apply Take.there)))))) ?_
      refine swl_ent (hb _) ?_
      refine swl_share_own (v := pv) (μ := μ7) (by repeat (first | exact Split.nil | (apply Split.cons; (repeat (first | with_reducible exact Take.here | apply Take.there))))) fun μ8 h8 r8 => ?_
      refine s_pu (pu_move rfl) ?_
      first | refine s_pu (pu_extractL rfl) ?_ | refine s_pu (pu_extract rfl rfl) ?_
      first | refine s_pu (pu_extractL rfl) ?_ | refine s_pu (pu_extract rfl rfl) ?_
      refine s_pu (pu_assign rfl) ?_
      refine s_pu (pu_assign rfl) ?_
      refine swl_sub _ (.cons (t := 0) rfl (.cons (t := 5) rfl (.cons (t := 7) rfl (.cons (t := 10) rfl (.cons (t := 11) rfl (.cons (t := 12) rfl (.cons (t := 50) rfl (.cons (t := 51) rfl (.cons (t := 52) rfl .nil))))))))) ?_
      refine swl_nil ?_
      refine then_n ?_
      refine swp_seq ?_
      refine swp_seq ?_
      refine swp_region ?_
      refine s_pu (pu_move rfl) ?_
      refine s_pu (pu_neq rfl rfl) ?_
      refine s_pu (pu_move rfl) ?_
      refine s_on rfl rfl ?_
      refine s_pu (pu_move rfl) ?_
      refine s_on rfl rfl ?_
      refine s_pu (pu_len_row r8 rfl) ?_
      refine s_on rfl rfl ?_
      refine s_pu (pu_move rfl) ?_
      refine s_on rfl rfl ?_
      refine s_pu (pu_neq rfl rfl) ?_
      first | refine s_pu (pu_pick_t rfl rfl) ?_ | refine s_pu (pu_pick_f rfl rfl) ?_
      refine swl_sub _ (.cons (t := 0) rfl (.cons (t := 5) rfl (.cons (t := 7) rfl (.cons (t := 11) rfl (.cons (t := 50) rfl (.cons (t := 51) rfl (.cons (t := 52) rfl (.cons (t := 84) rfl .nil)))))))) ?_
      refine swl_nil ?_
      refine then_n ?_
      refine swp_cond (b := _) rfl (fun h84 => by exfalso; rw [List.length_drop, p3', Nat.add_sub_cancel_left] at h84; simp at h84) (fun h84 => ?_)
      refine swp_skip ?_
      refine then_n ?_
      refine swp_region ?_
      refine s_pu (pu_move rfl) ?_
      refine s_pu (pu_move rfl) ?_
      refine s_ef (ef_append_ro r8 rfl rfl (by repeat (first | exact Split.nil | (apply Split.cons; (repeat (first | with_reducible exact Take.here | apply Take.there))))) (icsk_one _) (by simp only [maxLen]; rw [List.length_drop]; omega) (by rw [List.length_drop]; omega)) ?_
      rintro v87 -
      rw [← List.flatMap_append, p4, show a.length + (a'.drop a.length).length = a'.length by rw [List.length_drop]; omega]
      refine s_pu (pu_assign rfl) ?_
      refine swl_sub _ (.cons (t := 0) rfl (.cons (t := 5) rfl (.cons (t := 7) rfl (.cons (t := 50) rfl (.cons (t := 51) rfl (.cons (t := 52) rfl .nil)))))) ?_
      refine swl_nil ?_
      refine block_n ?_
      refine then_n ?_
      refine swp_region ?_
      refine s_pu (pu_add_as ((i + 1 : Nat) : Int) rfl rfl (by omega) (by omega) (by omega)) ?_
      refine s_pu (pu_move rfl) ?_
      refine swl_sub _ (.cons (t := 0) rfl (.cons (t := 5) rfl (.cons (t := 7) rfl (.cons (t := 50) rfl (.cons (t := 51) rfl (.cons (t := 52) rfl .nil)))))) ?_
      refine swl_nil ?_
      exact then_n ⟨(i + 1, v87, a', μ8), ⟨rfl, rfl, h53', by show a'.length ≤ _; omega, hle.trans (h7.trans h8), by show moreG [] ((nums Gm).take a'.length) = _; rw [p3']; exact p1⟩, by show cs.length - (i + 1) < cs.length - i; omega⟩
    · skip   -- 53 F
      obtain ⟨vs, hGs, hsm⟩ := graph_drop (P := Try.prog) (tG := 30) hGk a.length hla
      obtain ⟨a', p1, p2, p3, p4⟩ := more_piece ha hak (Gm.length - a.length)
      have p5 : a' = gs := by
        rw [List.take_of_length_le (by rw [List.length_map]; omega), ha] at p1
        exact (Option.some.inj p1).symm
      subst p5
      have hdm : nums (Gm.drop a.length) = ((nums Gm).drop a.length).take (Gm.length - a.length) := by unfold nums; rw [List.map_drop, List.take_of_length_le (by rw [List.length_drop, List.length_map]; omega)]
      have hsn : (Gm.drop a.length).length ≤ 2000 := by rw [List.length_drop]; omega
      have hsr : ∀ x ∈ Gm.drop a.length, x.2.length ≤ 17592186043904 := fun x hx => hrows1 x (List.mem_of_mem_drop hx)
      rw [← hdm] at p2 p3
      generalize Gm.drop a.length = Gs at *
      refine swp_lend_own (v := kv) (μ := μk) (by repeat (first | exact Split.nil | (apply Split.cons; (repeat (first | with_reducible exact Take.here | apply Take.there))))) fun μ5 h5 rk hback => ?_
      refine swp_exit ?_
      refine then_x ?_
      refine then_x ?_
      refine block_hit rfl ?_
      refine then_n ?_
      refine swp_seq ?_
      refine swp_region ?_
      refine s_pu (pu_move rfl) ?_
      refine s_pu (pu_move rfl) ?_
      refine s_pu (pu_move rfl) ?_
      refine s_pu (pu_len_row rk rfl) ?_
      refine s_pu (hsm _ _ _ .i64 _ rfl rfl rfl) ?_
      refine s_ef (ef_fn (more_spec sort_ok μ5 kv vs a Gs rk (hGs.le h5) (by omega) (by omega) hsr) rfl rfl (by repeat (first | exact Split.nil | (apply Split.cons; (repeat (first | with_reducible exact Take.here | apply Take.there)))))) ?_
      rintro v95 L1 ⟨pv, μ6, rfl, h6, rfl⟩
      refine swl_app ?_
      obtain ⟨μ7, h7, hb⟩ := hback μ6 h6
      have hy2 := moreL_some p2
      rw [hy2.1, hy2.2]
      refine swl_ent (Split.ent' (K := [ro μ6, own 3 1 pv (a'.drop a.length).length ((a'.drop a.length).flatMap (icsk .i64))]) (by repeat (first | exact Split.nil | (apply Split.cons; (repeat (first | with_reducible exact Take.here | apply Take.there)))))) ?_
      refine swl_ent (hb _) ?_
      refine swl_share_own (v := pv) (μ := μ7) (by repeat (first | exact Split.nil | (apply Split.cons; (repeat (first | with_reducible exact Take.here | apply Take.there))))) fun μ8 h8 r8 => ?_
      refine s_pu (pu_move rfl) ?_
      first | refine s_pu (pu_extractL rfl) ?_ | refine s_pu (pu_extract rfl rfl) ?_
      first | refine s_pu (pu_extractL rfl) ?_ | refine s_pu (pu_extract rfl rfl) ?_
      refine s_pu (pu_assign rfl) ?_
      refine s_pu (pu_assign rfl) ?_
      refine swl_sub _ (.cons (t := 0) rfl (.cons (t := 5) rfl (.cons (t := 6) rfl (.cons (t := 7) rfl (.cons (t := 13) rfl .nil))))) ?_
      refine swl_nil ?_
      refine then_n ?_
      refine swp_seq ?_
      refine swp_seq ?_
      refine swp_region ?_
      refine s_pu (pu_move rfl) ?_
      refine s_pu (pu_neq rfl rfl) ?_
      refine s_pu (pu_move rfl) ?_
      refine s_on rfl rfl ?_
      refine s_pu (pu_move rfl) ?_
      refine s_on rfl rfl ?_
      refine s_pu (pu_move rfl) ?_
      refine s_on rfl rfl ?_
      refine s_ef (ef_append_ro r8 rfl rfl (by repeat (first | exact Split.nil | (apply Split.cons; (repeat (first | with_reducible exact Take.here | apply Take.there))))) (icsk_one _) (by simp only [maxLen]; rw [List.length_drop]; omega) (by rw [List.length_drop]; omega)) ?_
      rintro v103 -
      rw [← List.flatMap_append, p4, show a.length + (a'.drop a.length).length = a'.length by rw [List.length_drop]; omega]
      refine swl_fact (fun m h => own_shape .here h) fun hs1 => ?_
      have hle8 := hle.trans (h7.trans h8)
      refine s_on rfl rfl ?_
      refine s_pu (pu_move rfl) ?_
      refine s_on rfl rfl ?_
      refine s_ef (ef_fn (samelist_i v103 lv a' a' [own 3 1 v103 a'.length (a'.flatMap (icsk .i64)), ro μ8] (ints_own hs1 .here) (Ints.row (ra.le hle8))) rfl rfl (by repeat (first | exact Split.nil | (apply Split.cons; (repeat (first | with_reducible exact Take.here | apply Take.there)))))) ?_
      rintro v105 L1 ⟨rfl, rfl⟩
      refine swl_app ?_
      refine s_on rfl rfl ?_
      refine s_pu (pu_not rfl) ?_
      first | refine s_pu (pu_pick_t rfl rfl) ?_ | refine s_pu (pu_pick_f rfl rfl) ?_
      refine swl_sub _ (.cons (t := 0) rfl (.cons (t := 5) rfl (.cons (t := 107) rfl .nil))) ?_
      refine swl_nil ?_
      refine then_n ?_
      refine swp_cond (b := _) rfl (fun h107 => by exfalso; simp at h107) (fun h107 => ?_)
      refine swp_skip ?_
      refine then_n ?_
      refine swp_seq ?_
      refine swp_seq ?_
      refine swp_ent (Split.ent' (K := [ro μ8]) (by repeat (first | exact Split.nil | (apply Split.cons; (repeat (first | with_reducible exact Take.here | apply Take.there)))))) ?_
      have hG8 := hG4.le hle8
      have ra8 := ra.le hle8
      refine swp_region ?_
      refine s_pu (pu_move rfl) ?_
      refine s_pu (pu_len_row hG8.1 rfl) ?_
      refine s_pu (pu_move rfl) ?_
      refine swl_sub _ (.cons (t := 5) rfl (.cons (t := 108) rfl (.cons (t := 109) rfl (.cons (t := 110) rfl .nil)))) ?_
      refine swl_nil ?_
      refine then_n ?_
      refine swp_block ?_
      refine swp_loop (ι := Nat) (fun c env L => env = [(5, lv), (108, v'), (109, .int .i64 (Gm.length : Nat)), (110, .int .i64 (c : Nat))] ∧ L = [ro μ8] ∧ c ≤ Gm.length) (fun c => Gm.length - c) 0 ⟨rfl, rfl, Nat.zero_le _⟩ ?_
      rintro c env L ⟨rfl, rfl, hcl⟩
      refine swp_seq ?_
      refine swp_region ?_
      refine s_pu (pu_lss rfl rfl) ?_
      refine swl_sub _ (.cons (t := 5) rfl (.cons (t := 108) rfl (.cons (t := 109) rfl (.cons (t := 110) rfl (.cons (t := 111) rfl .nil))))) ?_
      refine swl_nil ?_
      refine then_n ?_
      refine swp_seq ?_
      refine swp_cond (b := _) rfl (fun h111 => ?_) (fun h111 => ?_)
      · skip   -- 111 T
        have h111' : c < Gm.length := by have := of_decide_eq_true h111; omega
        obtain ⟨gb, off, cap, x, hv, hx, hxc, hxr, hnx⟩ := row_at hG8 h111'
        have hxl := hrows1 x (List.mem_of_getElem? hx)
        have hgc := gens_min ha hnx
        have hgo := (okRow_iff.1 (gens_at ha hnx).2).1
        obtain ⟨ab, ao, ac, hav, hac⟩ := ra8.at_ hgc
        refine swp_skip ?_
        refine then_n ?_
        refine swp_seq ?_
        refine swp_block ?_
        refine swp_seq ?_
        refine swp_region ?_
        refine s_pu (pu_move rfl) ?_
        refine s_pu (pu_indexAddr (off + c * 1) (congrArg some hv) rfl (by omega) (by omega) (by rw [Int.toNat_natCast])) ?_
        refine s_rd (rd_ro rfl hxc) ?_
        refine s_pu (pu_assign rfl) ?_
        refine s_pu (pu_assign rfl) ?_
        refine swl_sub _ (.cons (t := 5) rfl (.cons (t := 14) rfl (.cons (t := 15) rfl (.cons (t := 108) rfl (.cons (t := 109) rfl (.cons (t := 110) rfl .nil)))))) ?_
        refine swl_nil ?_
        refine then_n ?_
        refine swp_seq ?_
        refine swp_region ?_
        refine s_pu (pu_assign rfl) ?_
        refine swl_sub _ (.cons (t := 5) rfl (.cons (t := 14) rfl (.cons (t := 15) rfl (.cons (t := 16) rfl (.cons (t := 108) rfl (.cons (t := 109) rfl (.cons (t := 110) rfl .nil))))))) ?_
        refine swl_nil ?_
        refine then_n ?_
        refine swp_seq ?_
        refine swp_seq ?_
        refine swp_region ?_
        refine s_pu (pu_move rfl) ?_
        refine s_pu (pu_len_row hxr rfl) ?_
        refine s_pu (pu_move rfl) ?_
        refine swl_sub _ (.cons (t := 5) rfl (.cons (t := 14) rfl (.cons (t := 16) rfl (.cons (t := 108) rfl (.cons (t := 109) rfl (.cons (t := 110) rfl (.cons (t := 115) rfl (.cons (t := 116) rfl (.cons (t := 117) rfl .nil))))))))) ?_
        refine swl_nil ?_
        refine then_n ?_
        refine swp_block ?_
        refine swp_loop (ι := Nat) (fun j env L => env = [(5, lv), (14, .int .i64 (c : Nat)), (16, .int .i64 (hiG (valsG a' (x.2.take j)))), (108, v'), (109, .int .i64 (Gm.length : Nat)), (110, .int .i64 (c : Nat)), (115, x.1), (116, .int .i64 (x.2.length : Nat)), (117, .int .i64 (j : Nat))] ∧ L = [ro μ8] ∧ j ≤ x.2.length) (fun j => x.2.length - j) 0 ⟨rfl, rfl, Nat.zero_le _⟩ ?_
        rintro j env L ⟨rfl, rfl, hj⟩
        refine swp_seq ?_
        refine swp_region ?_
        refine s_pu (pu_lss rfl rfl) ?_
        refine swl_sub _ (.cons (t := 5) rfl (.cons (t := 14) rfl (.cons (t := 16) rfl (.cons (t := 108) rfl (.cons (t := 109) rfl (.cons (t := 110) rfl (.cons (t := 115) rfl (.cons (t := 116) rfl (.cons (t := 117) rfl (.cons (t := 118) rfl .nil)))))))))) ?_
        refine swl_nil ?_
        refine then_n ?_
        refine swp_seq ?_
        refine swp_cond (b := _) rfl (fun h118 => ?_) (fun h118 => ?_)
        · skip   -- 118 T
          have h118' : j < x.2.length := by have := of_decide_eq_true h118; omega
          obtain ⟨pb, po, pc, hpv, hpc⟩ := hxr.at_ (List.getElem?_eq_getElem h118')
          have hpo := hgo _ (List.getElem_mem h118')
          have htk : x.2.take (j + 1) = x.2.take j ++ [x.2[j]] := by rw [List.take_add_one, List.getElem?_eq_getElem h118']; rfl
          generalize x.2[j] = p at *
          obtain ⟨p, rfl⟩ : ∃ q : Nat, p = q := ⟨p.toNat, by omega⟩
          have hpl : p < a'.length := by omega
          obtain ⟨qb, qo, qc, hqv, hqc⟩ := ra8.at_ (List.getElem?_eq_getElem hpl)
          have hqr := gens_range ha p _ (List.getElem?_eq_getElem hpl)
          have hst : max (hiG (valsG a' (x.2.take j))) a'[p] = hiG (valsG a' (x.2.take (j + 1))) := by
            rw [htk, valsG_append, hiG_append, Int.toNat_natCast, List.getD_eq_getElem?_getD, List.getElem?_eq_getElem hpl]
            show _ = max _ (cnt a'[p])
            rw [cnt_id (by omega) (by omega)]
          refine swp_skip ?_
          refine then_n ?_
          refine swp_seq ?_
          refine swp_block ?_
          refine swp_seq ?_
          refine swp_region ?_
          refine s_pu (pu_indexAddr (po + j * 1) (congrArg some hpv) rfl (by omega) (by omega) (by rw [Int.toNat_natCast])) ?_
          refine s_rd (rd_ro rfl hpc) ?_
          refine s_pu (pu_assign rfl) ?_
          refine swl_sub _ (.cons (t := 5) rfl (.cons (t := 14) rfl (.cons (t := 16) rfl (.cons (t := 18) rfl (.cons (t := 108) rfl (.cons (t := 109) rfl (.cons (t := 110) rfl (.cons (t := 115) rfl (.cons (t := 116) rfl (.cons (t := 117) rfl .nil)))))))))) ?_
          refine swl_nil ?_
          refine then_n ?_
          refine swp_region ?_
          refine s_pu (pu_move rfl) ?_
          refine s_pu (pu_move rfl) ?_
          refine s_pu (pu_move rfl) ?_
          refine s_pu (pu_indexAddr (qo + p * 1) (congrArg some hqv) rfl (by omega) (by omega) (by rw [Int.toNat_natCast])) ?_
          refine s_rd (rd_ro rfl hqc) ?_
          refine s_pu (pu_max2 rfl rfl) ?_
          rw [hst]
          refine s_pu (pu_assign rfl) ?_
          refine swl_sub _ (.cons (t := 5) rfl (.cons (t := 14) rfl (.cons (t := 16) rfl (.cons (t := 108) rfl (.cons (t := 109) rfl (.cons (t := 110) rfl (.cons (t := 115) rfl (.cons (t := 116) rfl (.cons (t := 117) rfl .nil))))))))) ?_
          refine swl_nil ?_
          refine block_n ?_
          refine then_n ?_
          refine swp_region ?_
          refine s_pu (pu_add_as ((j + 1 : Nat) : Int) rfl rfl (by omega) (by omega) (by omega)) ?_
          refine s_pu (pu_move rfl) ?_
          refine swl_sub _ (.cons (t := 5) rfl (.cons (t := 14) rfl (.cons (t := 16) rfl (.cons (t := 108) rfl (.cons (t := 109) rfl (.cons (t := 110) rfl (.cons (t := 115) rfl (.cons (t := 116) rfl (.cons (t := 117) rfl .nil))))))))) ?_
          refine swl_nil ?_
          exact then_n ⟨j + 1, ⟨rfl, rfl, h118'⟩, by omega⟩
        · skip   -- 118 F
          have h118' := of_decide_eq_false h118
          obtain rfl : j = x.2.length := by omega
          rw [List.take_length]
          have hhr := hiG_range (valsG a' x.2)
          refine swp_exit ?_
          refine then_x ?_
          refine then_x ?_
          refine block_hit rfl ?_
          refine then_n ?_
          refine swp_seq ?_
          refine swp_region ?_
          refine s_pu (pu_move rfl) ?_
          refine s_pu (pu_move rfl) ?_
          refine s_pu (pu_indexAddr (ao + c * 1) (congrArg some hav) rfl (by omega) (by omega) (by rw [Int.toNat_natCast])) ?_
          refine s_rd (rd_ro rfl hac) ?_
          refine s_pu (pu_move rfl) ?_
          refine s_pu (pu_add_as (hiG (valsG a' x.2) + 1) rfl rfl (by omega) (by omega) (by omega)) ?_
          refine s_pu (pu_min2 rfl rfl) ?_
          refine s_pu (pu_neq rfl rfl) ?_
          refine swl_sub _ (.cons (t := 5) rfl (.cons (t := 108) rfl (.cons (t := 109) rfl (.cons (t := 110) rfl (.cons (t := 135) rfl .nil))))) ?_
          refine swl_nil ?_
          refine then_n ?_
          refine swp_cond (b := _) rfl (fun h135 => by exfalso; simp at h135) (fun h135 => ?_)
          refine swp_skip ?_
          refine block_n ?_
          refine then_n ?_
          refine swp_region ?_
          refine s_pu (pu_add_as ((c + 1 : Nat) : Int) rfl rfl (by omega) (by omega) (by omega)) ?_
          refine s_pu (pu_move rfl) ?_
          refine swl_sub _ (.cons (t := 5) rfl (.cons (t := 108) rfl (.cons (t := 109) rfl (.cons (t := 110) rfl .nil)))) ?_
          refine swl_nil ?_
          exact then_n ⟨c + 1, ⟨rfl, rfl, h111'⟩, by omega⟩
      · skip   -- 111 F
        refine swp_exit ?_
        refine then_x ?_
        refine then_x ?_
        refine block_hit rfl ?_
        refine then_n ?_
        refine swp_seq ?_
        refine swp_region ?_
        refine s_pu (pu_assign rfl) ?_
        refine swl_sub _ (.cons (t := 4) rfl .nil) ?_
        refine swl_nil ?_
        refine then_n ?_
        refine swp_ret ?_
        exact done_ret [ro μ8] (.tmp rfl .nil) ⟨rfl, μ8, [], h1.trans (h3.trans (h4.trans hle8)), rfl⟩ (by repeat (first | exact Split.nil | (apply Split.cons; (repeat (first | with_reducible exact Take.here | apply Take.there)))))
end SX
