/- A part of the proof: walks of the program's functions, and the rules by which they go. -/
import Derived.Test.YtakdmomhhjnolaaB0046e5f0
import Derived.Shelf.Sort.Plain
import Derived.JoinedCond
import Derived.LaidMore
import Derived.Test.YtakdmomhhjnolaaProg
import Derived.Ground.Names2Prog
import Derived.Shelf.Slices.In.SortNone
import Derived.Ground.SlgnProg
namespace SX
open Go
variable {P : Program} {Q : Post} {N : Nat} {env : Env} {L : List Assn}

theorem YSp.ent {l : Nat} {args : List Value} {pre pre' : List Assn} {post post' : Value → List Assn → Prop} (h : YSp P l args pre post) (h1 : Ent pre' pre) (h2 : ∀ v L, post v L → ∃ L', Ent L L' ∧ post' v L') : YSp P l args pre' post' := fun E w hw => by
  obtain ⟨f, t, a, b, r1, r2⟩ := h E w (hw.ent h1)
  exact ⟨f, t, a, b, r1, fun ro => (r2 ro).mono fun e w' ⟨v, L', e1, p, k⟩ => let ⟨L2, e2, p2⟩ := h2 v L' p; ⟨v, L2, e1, p2, k.ent e2⟩⟩

/-- an iterator's contract: of its own A it shows Sh at a yield, and Bk comes back; K is what it leaves -/
def IterG {α : Type} (P : Program) (f : FuncId) (ca : List Value) (enc : α → List Value) (ok : List α → α → Prop) (fin : List α → Prop) (A : List Assn) (Sh Bk : List α → α → Assn) (K : List α → Assn) : Prop :=
  ∀ (l : Nat) (I : List α → Assn) (X R : Assn), Ent [R] [I []] →
    (∀ pre x, ok pre x → YSp P l (enc x) [I pre, Sh pre x] (fun v L' => (v = .bool true ∧ L' = [I (pre ++ [x]), Bk pre x]) ∨ (v = .bool false ∧ L' = [X]))) →
    Spec P f (yv l :: ca) (A ++ [R]) (fun _ L' => (∃ ys, fin ys ∧ L' = [I ys, K ys]) ∨ L' = [X])

theorem star2 {A B : Assn} : Ent [star [A, B]] [A, B] := star_ent (L := [])
theorem star_in {A B C : Assn} : Ent [star [A, B], C] [star [A, star [B, C]]] :=
  (star_ent (K := [A, B]) (L := [C])).trans ((Ent.cons star_close1).trans star_close1)
theorem star_out {A B C : Assn} : Ent [star [A, star [B, C]]] [star [A, B], C] :=
  (star_ent (K := [A, star [B, C]]) (L := [])).trans ((Ent.cons (star_ent (K := [B, C]) (L := []))).trans (star_close (K := [A, B]) (L := [C])))

theorem swp_rangeG {α : Type} {g : Operand} {ps : List Tmp} {assign body : Code} {f : FuncId} [hbf : Body P f] {ca : List Value} {enc : α → List Value} {ok : List α → α → Prop} {fin : List α → Prop} {A B : List Assn} {Sh Bk : List α → α → Assn} {K : List α → Assn}
    (it : IterG P f ca enc ok fin A Sh Bk K) (C : List α → Assn) (Cr : Assn) (Cx : Nat → Assn)
    (hg : evalE env g = some (.func (.func f) #[] ca.toArray)) (hps : ps.all (Nat.blt · N) = true) (hlen : ∀ x, (enc x).length = ps.length)
    (hL : Ent L (A ++ B)) (h0 : Ent B [C []])
    (round : ∀ l pre x, ok pre x → swp P (some l) assign (SThen (fun env' L' => swp P (some l) body (RndQ (star [C (pre ++ [x]), Bk pre x]) Cr Cx) N env' L') (fun _ _ _ => False)) N (bindE ps (enc x) env) [star [C pre, Sh pre x]])
    (kn : ∀ ys, fin ys → Q .normal env [C ys, K ys]) (kr : swp P none .ret Q N env [Cr]) (kx : ∀ i, swp P none (.exit i) Q N env [Cx i]) :
    swp P none (.rangeFunc g ps.toArray assign body) Q N env L := by
  intro E D a w hd hf hh
  refine wpIn_rangeFunc fun fn _ => ?_
  obtain ⟨rec, hr⟩ : ∃ rec : LoopState → Option Code → Loop, rec = fun st pe => { state := st, pending := pe, fn, tmps := a.tmps, params := ps.toArray, assign, body, defers := w.heap.size } := ⟨_, rfl⟩
  have hrec : RecOf rec N env ps assign body := ⟨fn, a.tmps, w.heap.size, ⟨hf.1, hf.2⟩, hr⟩
  have hW1 := (hh.alloc (.deferred (some []))).alloc (.loop (rec .ready none))
  rw [World.size_alloc] at hW1
  have hE := hf.ev _ _ hg
  refine ⟨w.heap.size + 1, [mark w.heap.size], (w.alloc (.deferred (some []))).alloc (.loop (rec .ready none)), { target := .fn (.func f) ca.toArray, args := #[yv (w.heap.size + 1)] }, (w.alloc (.deferred (some []))).alloc (.loop (rec .ready none)), f, #[yv (w.heap.size + 1)] ++ ca.toArray, (w.alloc (.deferred (some []))).alloc (.loop (rec .ready none)),
    by rw [hr]; exact run_enterLoop_outer _ _ _ _ _, ?_, fun _ _ => trivial, ?_, fun hd => (by cases hd), ?_⟩
  · simp only [resolve, hE]
    simp [go_sem, yv]
  · simp [invoke, go_sem, run_callFunc]
  · have hs := it (w.heap.size + 1) (fun pre => star [lp rec (w.heap.size + 1) .ready none, C pre]) (Left rec (w.heap.size + 1) Cr Cx) (star (lp rec (w.heap.size + 1) .ready none :: B))
      ((star_ent (L := [])).trans (Ent.trans (L2 := lp rec (w.heap.size + 1) .ready none :: [C []]) (by rw [List.append_nil]; exact Ent.cons h0) star_close1))
      (fun pre x hok => (ysp_round hrec (hlen x) hps (round _ pre x hok)).ent star_in (fun v L' hp => by
        rcases hp with ⟨rfl, rfl⟩ | ⟨rfl, rfl⟩
        · exact ⟨_, star_out, .inl ⟨rfl, rfl⟩⟩
        · exact ⟨_, Ent.refl _, .inr ⟨rfl, rfl⟩⟩))
    have hE2 : H (E.add (w.heap.size :: D)) ((w.alloc (.deferred (some []))).alloc (.loop (rec .ready none))) (A ++ [star (lp rec (w.heap.size + 1) .ready none :: B)]) := by
      have b1 : H (E.add (w.heap.size :: D)) ((w.alloc (.deferred (some []))).alloc (.loop (rec .ready none))) (lp rec (w.heap.size + 1) .ready none :: L) := by
        refine ⟨hW1.1, hW1.2.1, hW1.2.2.1, hW1.2.2.2.1, Sat.perm ?_ _ hW1.2.2.2.2⟩
        show ((dfr D ++ E.X) ++ (_ :: one _ _ :: L)).Perm ((one _ _ :: (dfr D ++ E.X)) ++ (_ :: L))
        exact (List.Perm.append_left _ (.swap _ _ _)).trans List.perm_middle
      refine b1.ent ((Ent.cons hL).trans ?_)
      refine Ent.trans ?_ ((star_close (K := lp rec (w.heap.size + 1) .ready none :: B) (L := A)).trans (Ent.perm (List.perm_append_comm (l₁ := [_]))))
      exact Ent.perm (List.Perm.cons _ List.perm_append_comm)
    have hc := hs _ _ hE2
    have ha : (yv (w.heap.size + 1) :: ca).toArray = #[yv (w.heap.size + 1)] ++ ca.toArray := by simp
    rw [ha] at hc
    refine fw_calls (hc.mono fun e w3 ⟨v, L', he, hp, h3⟩ => ?_)
    subst he
    have hd2 : Dfs P ({ a with defers := [mark w.heap.size] ++ a.defers } : Act).defers (w.heap.size :: D) := .mark hd _
    have fin2 : ∀ {st : LoopState} {pe : Option Code} {M : List Assn}, st ≠ .busy → H (E.add (w.heap.size :: D)) w3 (lp rec (w.heap.size + 1) st pe :: M) →
        ∃ w4, (Instr.endLoop (w.heap.size + 1)).run P w3 = .ok pe w4 ∧ H (E.add (w.heap.size :: D)) w4 M := by
      intro st pe M hst h4
      rw [hr] at h4
      exact ⟨_, run_endLoop (h4.one_get .here) hst, (h4.loop).ent Ent.drop⟩
    rcases hp with ⟨ys, hy, rfl⟩ | rfl
    · obtain ⟨w4, r4, h4⟩ := fin2 (by decide) (h3.ent (star_ent (L := [K ys])))
      exact ⟨none, w4, r4, _, env, _, hd2, ⟨hf.1, hf.2⟩, h4, kn ys hy⟩
    · have h5 : H (E.add (w.heap.size :: D)) w3 [lp rec (w.heap.size + 1) .done (some .ret), Cr] ∨ ∃ i, H (E.add (w.heap.size :: D)) w3 [lp rec (w.heap.size + 1) .done (some (.exit i)), Cx i] := by
        obtain ⟨q1, q2, q3, q4, q5⟩ := h3
        obtain ⟨m1, m2, z1, z2, z3, z4, z5⟩ := Sat.perm (List.perm_append_comm) _ q5
        rcases z1 with z1 | ⟨i, z1⟩
        · exact .inl ⟨q1, q2, q3, q4, Sat.perm (List.perm_append_comm) _ (star_open ⟨m1, m2, z1, z2, z3, z4, z5⟩)⟩
        · exact .inr ⟨i, q1, q2, q3, q4, Sat.perm (List.perm_append_comm) _ (star_open ⟨m1, m2, z1, z2, z3, z4, z5⟩)⟩
      rcases h5 with h5 | ⟨i, h5⟩
      · obtain ⟨w4, r4, h4⟩ := fin2 (by decide) h5
        exact ⟨some .ret, w4, r4, kr E _ _ w4 hd2 ⟨hf.1, hf.2⟩ h4⟩
      · obtain ⟨w4, r4, h4⟩ := fin2 (by decide) h5
        exact ⟨some (.exit i), w4, r4, kx i E _ _ w4 hd2 ⟨hf.1, hf.2⟩ h4⟩
end SX
namespace SX
open Go Go.Sort
theorem H.grow {E : Ctx} {w : World} {L : List Assn} (h : H E w L) (os : Array Obj) : H E (Go.Sort.grow w os) L := by
  obtain ⟨h1, h2, h3, h4, h5⟩ := h
  refine ⟨h1, h2, h3, by simp only [Go.Sort.grow, Array.size_append]; omega, h5.mono fun b o hb => ?_⟩
  have hlt : b < w.heap.size := (Array.getElem?_eq_some_iff.1 hb).1
  show (w.heap ++ os)[b]? = some o
  rw [Array.getElem?_append_left hlt]; exact hb
section
variable {α : Type} [Inhabited α] {enc : α → Value}
theorem putCells_front (d : List α) (zs ex : List Value) (hl : zs.length = d.length) : putCells enc 0 d.toArray (zs ++ ex).toArray = (d.map enc ++ ex).toArray := by
  apply Array.ext_getElem?
  intro k
  unfold putCells
  rw [Array.getElem?_mapIdx]
  simp only [List.getElem?_toArray, List.size_toArray, Nat.zero_add, Nat.sub_zero, Nat.zero_le, true_and]
  by_cases hk : k < d.length
  · rw [List.getElem?_append_left (by omega), List.getElem?_append_left (by rw [List.length_map]; exact hk), List.getElem?_map, List.getElem?_eq_getElem hk, List.getElem?_eq_getElem (by omega)]
    simp [hk]
  · rw [List.getElem?_append_right (by omega), List.getElem?_append_right (by rw [List.length_map]; omega), List.length_map, hl]
    cases ex[k - d.length]? <;> simp [hk]
theorem holds_front {w : World} {b e : Nat} {d : List α} {ex : List Value} (h : w.heap[b]? = some (.cells (d.map enc ++ ex).toArray e (0, 0))) : Holds enc w b 0 d.toArray := by
  intro j hj
  have hj' : j < d.length := by simpa using hj
  rw [Nat.zero_add]
  refine ⟨?_, by simp [World.frozen?, h]⟩
  simp only [World.cell?, h]
  show (d.map enc ++ ex).toArray[j]? = _
  rw [List.getElem?_toArray, List.getElem?_append_left (by rw [List.length_map]; exact hj'), List.getElem?_map, List.getElem?_eq_getElem hj']
  simp [hj']
theorem H.sorted {E : Ctx} {w : World} {L : List Assn} {b e n : Nat} {d d' : List α} {ex : List Value} {os : Array Obj} (h : H E w (blk b e (d.map enc ++ ex) :: L)) (hl : d'.length = d.length) :
    H E (Go.Sort.grow (putRow enc (Go.Sort.ahead w n) b 0 d'.toArray) os) (blk b e (d'.map enc ++ ex) :: L) := by
  refine H.grow ?_ os
  have hb := h.one_get .here
  refine H.upd (o' := .cells (d'.map enc ++ ex).toArray e (0, 0)) h .here _ rfl rfl rfl ?_ ?_ ?_
  · simp [putRow, mapBlock, Go.Sort.ahead]
  · show ((Go.Sort.ahead w n).heap.modify b (onCells (putCells enc 0 d'.toArray)))[b]? = _
    rw [Array.getElem?_modify]
    have : (Go.Sort.ahead w n).heap[b]? = some (.cells (d.map enc ++ ex).toArray e (0, 0)) := hb
    rw [if_pos rfl, this]
    show some (Obj.cells (putCells enc 0 d'.toArray (d.map enc ++ ex).toArray) e (0, 0)) = _
    rw [putCells_front d' (d.map enc) ex (by rw [List.length_map]; exact hl.symm)]
  · intro k hk
    show ((Go.Sort.ahead w n).heap.modify b _)[k]? = _
    rw [Array.getElem?_modify, if_neg (fun e => hk e.symm)]
    rfl
end
theorem icsk_map (xs : List Int) : xs.flatMap (icsk .i64) = xs.map (Value.int .i64) := by
  induction xs with
  | nil => rfl
  | cons a l ih => rw [List.flatMap_cons, List.map_cons, ih]; rfl
theorem sort_ints {P : Program} {f : FuncId} {e : TypeId}
    (h : ∀ (blk off cap : Nat) (zs : List Int) (w : World), Holds (Value.int .i64) w blk off zs.toArray → blk < w.heap.size → zs.length < 4611686018427387904 →
      Calls P f #[.slice (some ⟨blk, off, none⟩) zs.length cap] w fun x w' => x = .returned (.tuple #[]) ∧ ∃ n os, w' = Go.Sort.grow (putRow (Value.int .i64) (Go.Sort.ahead w n) blk off (zs.mergeSort fun x y => decide (x ≤ y)).toArray) os)
    (h0 : ∀ (p : Option Addr) (cap : Nat) (w : World), Calls P f #[.slice p 0 cap] w fun x w' => x = .returned (.tuple #[]) ∧ w' = w)
    (v : Value) (xs : List Int) (hl : xs.length ≤ 17592186043904) : Spec P f [v] [own e 1 v xs.length (xs.flatMap (icsk .i64))] (fun r L => r = .tuple #[] ∧ L = [own e 1 v xs.length ((srt xs).flatMap (icsk .i64))]) := by
  refine Spec.own_cases (L := []) (fun hv h1 _ => ?_) (fun b cap ex hv h1 h2 h3 h4 => ?_)
  · subst hv
    obtain rfl := List.eq_nil_of_length_eq_zero h1
    intro E w hh
    refine (h0 none 0 w).mono fun x w' ⟨e1, e2⟩ => ?_
    subst e1 e2
    have e : srt [] = [] := List.eq_nil_of_length_eq_zero (by rw [srt_len]; rfl)
    rw [e]
    exact ⟨_, _, rfl, ⟨rfl, rfl⟩, hh.ent own_nil_ent⟩
  · subst hv
    intro E w hh
    rw [icsk_map] at hh
    have hb := hh.one_get .here
    refine (h b 0 cap xs w (holds_front hb) (Array.getElem?_eq_some_iff.1 hb).1 (by omega)).mono fun x w' ⟨e1, n, os, e2⟩ => ?_
    subst e1 e2
    refine ⟨_, _, rfl, ⟨rfl, rfl⟩, ?_⟩
    have := H.sorted (n := n) (os := os) (d' := srt xs) hh (srt_len xs)
    rw [← icsk_map] at this
    exact this.ent (own_close (n := 1) (by rw [flat_length (icsk_len .i64), srt_len]) h4 h1 h2)
end SX
namespace SX
end SX
namespace SX
open Go
section
variable {P : Program} {env : Env} {μ : PH} {L : List Assn} {rn : Option Nat} {Q : Post} {N : Nat}
end
section
variable {P : Program} {tG : Nat}
end
end SX
namespace SX
open Go
end SX
namespace SX
open Go Go.ChangeShapes
section
variable {H : Type} {enc : TypeId × Value → H}
theorem returns_sized {a : Assume} {C : Checked} {os : Os} {f : FuncId} {fn : Func} {s : ChangeSpec} {conds : List PathCond} {apart fresh handsOn again : Bool}
    (own : ownKnob C.prog.godebug = none) (started : os.Started) (noInit : C.prog.inits.idxOf? f = none) (hfn : C.prog.funcs[f]? = some fn)
    (witness : ∃ (w : World) (tape : Tape) (i : Input), w.os = os ∧ (w.forCall tape i).Shaped C.prog ∧ i.vars = [] ∧ Input.okWide C.prog (w.forCall tape i) .any w.heap.size f i ∧
      s.pre6 enc C.prog fn conds apart (w.forCall tape i).memory i.args ∧ a.holds C.prog (lone (Frame.enter C.prog f i.args .normal) [] (w.forCall tape i)))
    (contract : ∀ (W : World) (base : Nat) (args : Array Value) (ds gs : List (DataW H)) (before : List MemPlace),
      (∀ (j : Nat) t v, fn.params[j]? = some t → args[j]? = some v → Value.okWide C.prog W .any base t v) →
      DataW.Whole enc C.prog fn.params.toList s.vars apart W args.toList ds gs before →
      (DataW.weightsEach C.prog (fn.params.toList ++ s.plain.varTypes C.prog) (ds ++ gs)).all (· ≤ reachBytes) = true →
      Calls C.prog f args W fun e W' => ∃ v, e = .returned v ∧ s.post enc C.prog fn apart fresh handsOn again W args v W') :
    ReturnsInHanded a C os f .any (s.pre6 enc C.prog fn conds apart) (s.post enc C.prog fn apart fresh handsOn again) := by
  refine returnsInHanded_of_calls own started noInit witness ?_
  intro w tape i _ _ _ hok hpre _
  obtain ⟨_, _, _, fn', hfn', _, _, _, _, hval⟩ := hok
  have e : fn' = fn := Option.some.inj (hfn'.symm.trans hfn)
  subst e
  obtain ⟨⟨ds, gs, before, hw, _⟩, hz⟩ := hpre
  have hw' := DataW.Whole.of_heap (w' := w.forCall tape i) (by rfl) hw
  refine (contract (w.forCall tape i) w.heap.size i.args ds gs before hval hw' (hz.weights hw)).mono fun e W' ⟨v, he, hp⟩ => ?_
  subst he
  exact ChangeSpec.post_blind hp
end
section
variable {H : Type} {P : Program}
theorem weights_at : ∀ {ts : List TypeId} {ds : List (DataW H)} {i : Nat} {t : TypeId} {d : DataW H}, ts[i]? = some t → ds[i]? = some d → (DataW.weightsEach P ts ds).all (· ≤ reachBytes) = true → (d.weights P t).all (· ≤ reachBytes) = true
  | t0 :: ts, d0 :: ds, 0, t, d, ht, hd, h => by
    obtain rfl := Option.some.inj ht
    obtain rfl := Option.some.inj hd
    rw [DataW.weightsEach, List.all_append, Bool.and_eq_true] at h
    exact h.1
  | t0 :: ts, d0 :: ds, i + 1, t, d, ht, hd, h => by
    rw [DataW.weightsEach, List.all_append, Bool.and_eq_true] at h
    exact weights_at (i := i) (by simpa using ht) (by simpa using hd) h.2
theorem weights_in {e : TypeId} : ∀ {ds : List (DataW H)} {d : DataW H}, d ∈ ds → (DataW.weightsAll P e ds).all (· ≤ reachBytes) = true → (d.weights P e).all (· ≤ reachBytes) = true
  | x :: ds, d, hd, h => by
    rw [DataW.weightsAll, List.all_append, Bool.and_eq_true] at h
    rcases List.mem_cons.1 hd with rfl | hd
    · exact h.1
    · exact weights_in hd h.2
/-- a slice: its length, and what is in it -/
theorem slice_sized {t e : TypeId} (ht : P.underlying t = some (.slice e)) (hb : 8 ≤ P.bytesOf e) {Ds sp : List (DataW H)} (h : ((DataW.slice Ds sp : DataW H).weights P t).all (· ≤ reachBytes) = true) : Ds.length ≤ 17592186043904 ∧ (DataW.weightsAll P e Ds).all (· ≤ reachBytes) = true := by
  rw [DataW.weights, ht] at h
  dsimp only at h
  rw [List.all_cons, List.all_append, Bool.and_eq_true, Bool.and_eq_true] at h
  have h1 : (Ds.length + sp.length) * P.bytesOf e ≤ reachBytes := of_decide_eq_true h.1
  have h2 : (Ds.length + sp.length) * 8 ≤ (Ds.length + sp.length) * P.bytesOf e := Nat.mul_le_mul_left _ hb
  have h3 : reachBytes = 140737488351232 := rfl
  exact ⟨by omega, h.2.1⟩
theorem ints_sized {t e : TypeId} (ht : P.underlying t = some (.slice e)) (hb : 8 ≤ P.bytesOf e) {xs : List Int} {d : DataW H} (h : (d.weights P t).all (· ≤ reachBytes) = true)
    (hd : (d = .nil ∧ xs = []) ∨ ∃ (Ds sp : List (DataW H)), d = .slice Ds sp ∧ Ds.length = xs.length) : xs.length ≤ 17592186043904 := by
  rcases hd with ⟨_, rfl⟩ | ⟨Ds, sp, rfl, hl⟩
  · exact Nat.zero_le _
  · rw [← hl]; exact (slice_sized ht hb h).1
theorem graph_sized {t q e : TypeId} (ht : P.underlying t = some (.slice q)) (hb : 8 ≤ P.bytesOf q) (hq : P.underlying q = some (.slice e)) (he : 8 ≤ P.bytesOf e) {xs : List (Value × List Int)} {d : DataW H} (h : (d.weights P t).all (· ≤ reachBytes) = true)
    (hd : (d = .nil ∧ xs = []) ∨ ∃ (Ds sp : List (DataW H)), d = .slice Ds sp ∧ Ds.length = xs.length ∧ ∀ (i : Nat) (a : Value × List Int) (D : DataW H), xs[i]? = some a → Ds[i]? = some D → (D = .nil ∧ a.2 = []) ∨ ∃ (Ds sp : List (DataW H)), D = .slice Ds sp ∧ Ds.length = a.2.length) :
    xs.length ≤ 17592186043904 ∧ ∀ x ∈ xs, x.2.length ≤ 17592186043904 := by
  rcases hd with ⟨_, rfl⟩ | ⟨Ds, sp, rfl, hl, hr⟩
  · exact ⟨Nat.zero_le _, fun x hx => by cases hx⟩
  · obtain ⟨h1, h2⟩ := slice_sized ht hb h
    refine ⟨by rw [← hl]; exact h1, fun x hx => ?_⟩
    obtain ⟨i, hi⟩ := List.getElem?_of_mem hx
    obtain ⟨D, hD⟩ : ∃ D, Ds[i]? = some D := ⟨_, List.getElem?_eq_getElem (by rw [hl]; exact (List.getElem?_eq_some_iff.1 hi).1)⟩
    exact ints_sized hq he (weights_in (List.mem_of_getElem? hD) h2) (hr i x D hi hD)
end
end SX
namespace SX
open Go Go.Proofs
instance : Body Try.prog 2 := ⟨_, Try.func2, rfl, by decide⟩
instance : Body Try.prog 3 := ⟨_, Try.func3, rfl, by decide⟩
instance : Body Try.prog 4 := ⟨_, Try.func4, rfl, by decide⟩
instance : Body Try.prog 5 := ⟨_, Try.func5, rfl, by decide⟩
instance : Body Try.prog 6 := ⟨_, Try.func6, rfl, by decide⟩
instance : Body Try.prog 7 := ⟨_, Try.func7, rfl, by decide⟩
instance : Body Try.prog 8 := ⟨_, Try.func8, rfl, by decide⟩
instance : Body Try.prog 9 := ⟨_, Try.func9, rfl, by decide⟩
instance : Body Try.prog 10 := ⟨_, Try.func10, rfl, by decide⟩
instance : Body Try.prog 11 := ⟨_, Try.func11, rfl, by decide⟩
instance : Body Try.prog 12 := ⟨_, Try.func12, rfl, by decide⟩
instance : Body Try.prog 13 := ⟨_, Try.func13, rfl, by decide⟩
instance : Body Try.prog 14 := ⟨_, Try.func14, rfl, by decide⟩
instance : Body Try.prog 15 := ⟨_, Try.func15, rfl, by decide⟩
instance : Body Try.prog 16 := ⟨_, Try.func16, rfl, by decide⟩
instance : Body Try.prog 17 := ⟨_, Try.func17, rfl, by decide⟩
instance : Body Try.prog 18 := ⟨_, Try.func18, rfl, by decide⟩
instance : Body Try.prog 19 := ⟨_, Try.func19, rfl, by decide⟩
instance : Body Try.prog 20 := ⟨_, Try.func20, rfl, by decide⟩
instance : Body Try.prog 21 := ⟨_, Try.func21, rfl, by decide⟩
instance : Body Try.prog 22 := ⟨_, Try.func22, rfl, by decide⟩
instance : Body Try.prog 23 := ⟨_, Try.func23, rfl, by decide⟩
instance : Body Try.prog 24 := ⟨_, Try.func24, rfl, by decide⟩
instance : Body Try.prog 25 := ⟨_, Try.func25, rfl, by decide⟩
instance : Body Try.prog 26 := ⟨_, Try.func26, rfl, by decide⟩
instance : Body Try.prog 27 := ⟨_, Try.func27, rfl, by decide⟩
instance : Body Try.prog 28 := ⟨_, Try.func28, rfl, by decide⟩
instance : Body Try.prog 29 := ⟨_, Try.func29, rfl, by decide⟩
instance : Body Try.prog 30 := ⟨_, Try.func30, rfl, by decide⟩
instance : Body Try.prog 31 := ⟨_, Try.func31, rfl, by decide⟩
instance : Body Try.prog 32 := ⟨_, Try.func32, rfl, by decide⟩
instance : Body Try.prog 33 := ⟨_, Try.func33, rfl, by decide⟩
instance : Body Try.prog 34 := ⟨_, Try.func34, rfl, by decide⟩
instance : Body Try.prog 35 := ⟨_, Try.func35, rfl, by decide⟩
instance : Body Try.prog 36 := ⟨_, Try.func36, rfl, by decide⟩
instance : Body Try.prog 37 := ⟨_, Try.func37, rfl, by decide⟩
instance : Body Try.prog 38 := ⟨_, Try.func38, rfl, by decide⟩
instance : Body Try.prog 39 := ⟨_, Try.func39, rfl, by decide⟩
instance : Body Try.prog 40 := ⟨_, Try.func40, rfl, by decide⟩
instance : Body Try.prog 41 := ⟨_, Try.func41, rfl, by decide⟩
instance : Body Try.prog 42 := ⟨_, Try.func42, rfl, by decide⟩
instance : Body Try.prog 43 := ⟨_, Try.func43, rfl, by decide⟩
instance : Body Try.prog 44 := ⟨_, Try.func44, rfl, by decide⟩
instance : Body Try.prog 45 := ⟨_, Try.func45, rfl, by decide⟩
instance : Body Try.prog 46 := ⟨_, Try.func46, rfl, by decide⟩
instance : Body Try.prog 47 := ⟨_, Try.func47, rfl, by decide⟩
instance : Body Try.prog 48 := ⟨_, Try.func48, rfl, by decide⟩
instance : Body Try.prog 49 := ⟨_, Try.func49, rfl, by decide⟩
instance : Body Try.prog 50 := ⟨_, Try.func50, rfl, by decide⟩
instance : Body Try.prog 51 := ⟨_, Try.func51, rfl, by decide⟩
instance : Body Try.prog 52 := ⟨_, Try.func52, rfl, by decide⟩
instance : Body Try.prog 53 := ⟨_, Try.func53, rfl, by decide⟩
instance : Body Try.prog 54 := ⟨_, Try.func54, rfl, by decide⟩
instance : Body Try.prog 55 := ⟨_, Try.func55, rfl, by decide⟩
instance : TOne Try.prog 3 := ⟨by kernel_rfl, by kernel_rfl⟩
instance : TZero Try.prog 3 [(.int .i64 0)] := ⟨by kernel_rfl⟩
instance : TInt Try.prog 3 .i64 := ⟨Try.underlying3⟩
instance : TConc Try.prog 3 := ⟨_, Try.underlying3, rfl⟩
instance : TOne Try.prog 4 := ⟨by kernel_rfl, by kernel_rfl⟩
instance : TZero Try.prog 4 [(.bool false)] := ⟨by kernel_rfl⟩
instance : TBool Try.prog 4 := ⟨Try.underlying4⟩
instance : TConc Try.prog 4 := ⟨_, Try.underlying4, rfl⟩
instance : TOne Try.prog 5 := ⟨by kernel_rfl, by kernel_rfl⟩
instance : TZero Try.prog 5 [(.int .u8 0)] := ⟨by kernel_rfl⟩
instance : TInt Try.prog 5 .u8 := ⟨Try.underlying5⟩
instance : TConc Try.prog 5 := ⟨_, Try.underlying5, rfl⟩
instance : TOne Try.prog 9 := ⟨by kernel_rfl, by kernel_rfl⟩
instance : TZero Try.prog 9 [(.string ⟨#[]⟩)] := ⟨by kernel_rfl⟩
instance : TStr Try.prog 9 := ⟨Try.underlying9⟩
instance : TConc Try.prog 9 := ⟨_, Try.underlying9, rfl⟩
instance : TOne Try.prog 22 := ⟨by kernel_rfl, by kernel_rfl⟩
instance : TZero Try.prog 22 [(.slice none 0 0)] := ⟨by kernel_rfl⟩
instance : TSl Try.prog 22 3 1 8 := ⟨Try.underlying22, by kernel_rfl⟩
instance : TConc Try.prog 22 := ⟨_, Try.underlying22, rfl⟩
instance : TOne Try.prog 30 := ⟨by kernel_rfl, by kernel_rfl⟩
instance : TZero Try.prog 30 [(.slice none 0 0)] := ⟨by kernel_rfl⟩
instance : TSl Try.prog 30 22 1 24 := ⟨Try.underlying30, by kernel_rfl⟩
instance : TConc Try.prog 30 := ⟨_, Try.underlying30, rfl⟩
instance : TOne Try.prog 32 := ⟨by kernel_rfl, by kernel_rfl⟩
instance : TZero Try.prog 32 [(.int .i64 0)] := ⟨by kernel_rfl⟩
instance : TInt Try.prog 32 .i64 := ⟨Try.underlying32⟩
instance : TConc Try.prog 32 := ⟨_, Try.underlying32, rfl⟩
instance : TOne Try.prog 40 := ⟨by kernel_rfl, by kernel_rfl⟩
instance : TZero Try.prog 40 [(.slice none 0 0)] := ⟨by kernel_rfl⟩
instance : TSl Try.prog 40 5 1 1 := ⟨Try.underlying40, by kernel_rfl⟩
instance : TConc Try.prog 40 := ⟨_, Try.underlying40, rfl⟩
instance : TOne Try.prog 42 := ⟨by kernel_rfl, by kernel_rfl⟩
instance : TZero Try.prog 42 [(.slice none 0 0)] := ⟨by kernel_rfl⟩
instance : TSl Try.prog 42 4 1 1 := ⟨Try.underlying42, by kernel_rfl⟩
instance : TConc Try.prog 42 := ⟨_, Try.underlying42, rfl⟩
instance : TOne Try.prog 45 := ⟨by kernel_rfl, by kernel_rfl⟩
instance : TZero Try.prog 45 [(.int .u16 0)] := ⟨by kernel_rfl⟩
instance : TInt Try.prog 45 .u16 := ⟨Try.underlying45⟩
instance : TConc Try.prog 45 := ⟨_, Try.underlying45, rfl⟩
instance : TOne Try.prog 51 := ⟨by kernel_rfl, by kernel_rfl⟩
instance : TZero Try.prog 51 [.nilFunc] := ⟨by kernel_rfl⟩
instance : TFn Try.prog 51 := ⟨_, _, _, Try.underlying51⟩
instance : TConc Try.prog 51 := ⟨_, Try.underlying51, rfl⟩
instance : TOne Try.prog 54 := ⟨by kernel_rfl, by kernel_rfl⟩
instance : TZero Try.prog 54 [.nilFunc] := ⟨by kernel_rfl⟩
instance : TFn Try.prog 54 := ⟨_, _, _, Try.underlying54⟩
instance : TConc Try.prog 54 := ⟨_, Try.underlying54, rfl⟩
instance : TOne Try.prog 58 := ⟨by kernel_rfl, by kernel_rfl⟩
instance : TZero Try.prog 58 [(.int .u64 0)] := ⟨by kernel_rfl⟩
instance : TInt Try.prog 58 .u64 := ⟨Try.underlying58⟩
instance : TConc Try.prog 58 := ⟨_, Try.underlying58, rfl⟩
instance : TOne Try.prog 60 := ⟨by kernel_rfl, by kernel_rfl⟩
instance : TZero Try.prog 60 [(.int .i64 0)] := ⟨by kernel_rfl⟩
instance : TInt Try.prog 60 .i64 := ⟨Try.underlying60⟩
instance : TConc Try.prog 60 := ⟨_, Try.underlying60, rfl⟩
instance : TOne Try.prog 68 := ⟨by kernel_rfl, by kernel_rfl⟩
instance : TZero Try.prog 68 [(.int .u32 0)] := ⟨by kernel_rfl⟩
instance : TInt Try.prog 68 .u32 := ⟨Try.underlying68⟩
instance : TConc Try.prog 68 := ⟨_, Try.underlying68, rfl⟩
instance : TOne Try.prog 70 := ⟨by kernel_rfl, by kernel_rfl⟩
instance : TZero Try.prog 70 [(.int .u64 0)] := ⟨by kernel_rfl⟩
instance : TInt Try.prog 70 .u64 := ⟨Try.underlying70⟩
instance : TConc Try.prog 70 := ⟨_, Try.underlying70, rfl⟩
instance : TOne Try.prog 71 := ⟨by kernel_rfl, by kernel_rfl⟩
instance : TZero Try.prog 71 [(.int .u64 0)] := ⟨by kernel_rfl⟩
instance : TInt Try.prog 71 .u64 := ⟨Try.underlying71⟩
instance : TConc Try.prog 71 := ⟨_, Try.underlying71, rfl⟩
instance : TOne Try.prog 75 := ⟨by kernel_rfl, by kernel_rfl⟩
instance : TZero Try.prog 75 [(.pointer none)] := ⟨by kernel_rfl⟩
instance : TPtr Try.prog 75 := ⟨_, Try.underlying75⟩
instance : TConc Try.prog 75 := ⟨_, Try.underlying75, rfl⟩
instance : TOne Try.prog 77 := ⟨by kernel_rfl, by kernel_rfl⟩
instance : TZero Try.prog 77 [(.pointer none)] := ⟨by kernel_rfl⟩
instance : TPtr Try.prog 77 := ⟨_, Try.underlying77⟩
instance : TConc Try.prog 77 := ⟨_, Try.underlying77, rfl⟩
end SX
namespace SX
open Go Go.Proofs

set_option maxHeartbeats 1000000 in
theorem rcheck_spec (μ : PH) (v : Value) (G : List (Value × List Int)) (hG : Graph μ v G) (hbig : G.length ≤ 1099511627776) : Spec Try.prog 20 [v] [ro μ] (fun r L => r = .int .i64 (chkFrom 0 (nums G)) ∧ L = [ro μ]) := by
  obtain ⟨A, cap, hv⟩ := hG.1.sl
  subst hv
  refine Spec.of 49 Try.func20 rfl rfl rfl ?_
  refine swp_seq ?_
  refine swp_region ?_
  refine s_pu (pu_assign rfl) ?_
  refine swl_sub _ (.cons (t := 0) rfl .nil) ?_
  refine swl_nil ?_
  refine then_n ?_
  refine swp_seq ?_
  refine swp_seq ?_
  refine swp_region ?_
  refine s_pu (pu_assign rfl) ?_
  refine swl_sub _ (.cons (t := 0) rfl (.cons (t := 3) rfl .nil)) ?_
  refine swl_nil ?_
  refine then_n ?_
  refine swp_block ?_
  refine swp_loop (ι := Nat) (fun i env L => env = [(0, .slice A G.length cap), (3, .int .i64 (i : Nat))] ∧ L = [ro μ] ∧ i ≤ G.length ∧ chkFrom i ((nums G).drop i) = chkFrom 0 (nums G)) (fun i => G.length - i) 0 ⟨rfl, rfl, Nat.zero_le _, rfl⟩ ?_
  rintro i env L ⟨rfl, rfl, hi, hch⟩
  refine swp_seq ?_
  refine swp_seq ?_
  refine swp_region ?_
  refine s_pu (pu_move rfl) ?_
  refine s_pu (pu_move rfl) ?_
  refine s_pu (pu_len rfl) ?_
  refine s_pu (pu_lss rfl rfl) ?_
  refine swl_sub _ (.cons (t := 0) rfl (.cons (t := 3) rfl (.cons (t := 10) rfl .nil))) ?_
  refine swl_nil ?_
  refine then_n ?_
  refine swp_cond (b := _) rfl (fun h10 => ?_) (fun h10 => ?_)
  · skip   -- 10 T
    have h10' : i < G.length := by have := of_decide_eq_true h10; omega
    obtain ⟨gb, off, cap', hv, c1, c2, hr⟩ := hG.1.pos (by omega)
    simp only [Value.slice.injEq, true_and] at hv
    obtain ⟨rfl, rfl⟩ := hv
    obtain ⟨x, hx⟩ : ∃ x, G[i]? = some x := ⟨_, List.getElem?_eq_getElem h10'⟩
    have hrk := hr.elem gcs_len hx
    have hxr := hG.2 x (List.mem_of_getElem? hx)
    have hxs := hxr.small
    have hci := chkFrom_at (g := nums G) (i := i) (l := x.2) (by rw [List.getElem?_map, hx]; rfl)
    rw [hch] at hci
    refine swp_skip ?_
    refine then_n ?_
    refine swp_seq ?_
    refine swp_block ?_
    refine swp_seq ?_
    refine swp_region ?_
    refine s_pu (pu_assign rfl) ?_
    refine swl_sub _ (.cons (t := 0) rfl (.cons (t := 3) rfl (.cons (t := 4) rfl .nil))) ?_
    refine swl_nil ?_
    refine then_n ?_
    refine swp_seq ?_
    refine swp_seq ?_
    refine swp_region ?_
    refine s_pu (pu_move rfl) ?_
    refine s_pu (pu_move rfl) ?_
    refine s_pu (pu_indexAddr (off + i * 1) rfl rfl (by omega) (by omega) (by rw [Int.toNat_natCast])) ?_
    refine s_rd (rd_ro rfl hrk.cell) ?_
    refine s_pu (pu_len_row hxr rfl) ?_
    refine s_pu (pu_gtr rfl rfl) ?_
    refine swl_sub _ (.cons (t := 0) rfl (.cons (t := 3) rfl (.cons (t := 4) rfl (.cons (t := 18) rfl .nil)))) ?_
    refine swl_nil ?_
    refine then_n ?_
    refine swp_cond (b := _) rfl (fun h18 => ?_) (fun h18 => ?_)
    · skip   -- 18 T
      refine swp_region ?_
      refine s_pu (pu_move rfl) ?_
      refine s_ef (ef_make1 i rfl rfl rfl (by omega) (by simp only [maxLen]; omega)) ?_
      rintro b20
      skip
      refine s_pu (pu_assign rfl) ?_
      refine swl_sub _ (.cons (t := 0) rfl (.cons (t := 3) rfl (.cons (t := 4) rfl .nil))) ?_
      refine swl_nil ?_
      refine then_n ?_
      refine swp_seq ?_
      refine swp_region ?_
      refine s_pu (pu_assign rfl) ?_
      refine swl_sub _ (.cons (t := 0) rfl (.cons (t := 3) rfl (.cons (t := 4) rfl (.cons (t := 5) rfl .nil)))) ?_
      refine swl_nil ?_
      refine then_n ?_
      refine swp_block ?_
      refine swp_loop (ι := Nat) (fun j env L => env = [(0, .slice (some ⟨gb, off, none⟩) G.length cap), (3, .int .i64 (i : Nat)), (4, .slice (some ⟨b20, 0, none⟩) i i), (5, .int .i64 (j : Nat))] ∧ L = [blk b20 4 (rbs i fun k => decide ((k : Int) ∈ x.2.take j)), ro μ] ∧ j ≤ x.2.length ∧ rowErr i (x.2.take j) (x.2.drop j) = rowErr i [] x.2) (fun j => x.2.length - j) 0 ⟨rfl, ?_, Nat.zero_le _, rfl⟩ ?_
      · have e : rbs i (fun k => decide ((k : Int) ∈ x.2.take 0)) = List.replicate i (.bool false) := by
          apply List.ext_getElem?
          intro j
          simp [rbs, List.getElem?_replicate]
          split <;> simp_all
        rw [e]
      rintro j env L ⟨rfl, rfl, hj, hre⟩
      refine swp_seq ?_
      refine swp_seq ?_
      refine swp_region ?_
      refine s_pu (pu_move rfl) ?_
      refine s_pu (pu_move rfl) ?_
      refine s_pu (pu_move rfl) ?_
      refine s_pu (pu_indexAddr (off + i * 1) rfl rfl (by omega) (by omega) (by rw [Int.toNat_natCast])) ?_
      refine s_rd (rd_ro rfl hrk.cell) ?_
      refine s_pu (pu_len_row hxr rfl) ?_
      refine s_pu (pu_lss rfl rfl) ?_
      refine swl_sub _ (.cons (t := 0) rfl (.cons (t := 3) rfl (.cons (t := 4) rfl (.cons (t := 5) rfl (.cons (t := 27) rfl .nil))))) ?_
      refine swl_nil ?_
      refine then_n ?_
      refine swp_cond (b := _) rfl (fun h27 => ?_) (fun h27 => ?_)
      · skip   -- 27 T
        have h27' : j < x.2.length := by have := of_decide_eq_true h27; omega
        obtain ⟨pb, poff, pcap, hpv, p1, p2, hpr⟩ := hxr.pos (by omega)
        obtain ⟨p, hp⟩ : ∃ p, x.2[j]? = some p := ⟨_, List.getElem?_eq_getElem h27'⟩
        have hpk := hpr.elem (icsk_len .i64) hp
        rw [rowErr_at hp] at hre
        refine swp_skip ?_
        refine then_n ?_
        refine swp_seq ?_
        refine swp_block ?_
        refine swp_seq ?_
        refine swp_region ?_
        refine s_pu (pu_move rfl) ?_
        refine s_pu (pu_move rfl) ?_
        refine s_pu (pu_indexAddr (off + i * 1) rfl rfl (by omega) (by omega) (by rw [Int.toNat_natCast])) ?_
        refine s_rd (rd_ro rfl (hpv ▸ hrk.cell)) ?_
        refine s_pu (pu_move rfl) ?_
        refine s_pu (pu_indexAddr (poff + j * 1) rfl rfl (by omega) (by omega) (by rw [Int.toNat_natCast])) ?_
        refine s_rd (rd_ro rfl hpk.cell) ?_
        refine s_pu (pu_assign rfl) ?_
        refine swl_sub _ (.cons (t := 0) rfl (.cons (t := 3) rfl (.cons (t := 4) rfl (.cons (t := 5) rfl (.cons (t := 6) rfl .nil))))) ?_
        refine swl_nil ?_
        refine then_n ?_
        refine swp_seq ?_
        refine swp_seq ?_
        refine swp_region ?_
        refine s_pu (pu_move rfl) ?_
        refine s_pu (pu_lss rfl rfl) ?_
        refine swl_sub _ (.cons (t := 0) rfl (.cons (t := 3) rfl (.cons (t := 4) rfl (.cons (t := 5) rfl (.cons (t := 6) rfl (.cons (t := 38) rfl .nil)))))) ?_
        refine swl_nil ?_
        refine then_n ?_
        refine swp_cond (b := _) rfl (fun h38 => ?_) (fun h38 => ?_)
        · skip   -- 38 T
          rw [if_pos (of_decide_eq_true h38)] at hre
          refine swp_seq ?_
          refine swp_region ?_
          refine s_pu (pu_assign rfl) ?_
          refine swl_sub _ (.cons (t := 2) rfl .nil) ?_
          refine swl_nil ?_
          refine then_n ?_
          refine swp_ret ?_
          refine then_r ?_
          refine block_r ?_
          refine then_r ?_
          refine then_r ?_
          refine block_r ?_
          refine block_r ?_
          refine then_r ?_
          refine then_r ?_
          refine block_r ?_
          refine then_r ?_
          exact done_ret [ro μ] (.tmp rfl .nil) ⟨by rw [hci, ← hre, if_neg (by decide)]; rfl, rfl⟩ (by repeat (first | exact Split.nil | (apply Split.cons; (repeat (first | with_reducible exact Take.here | apply Take.there)))))
        · skip   -- 38 F
          rw [if_neg (of_decide_eq_false h38)] at hre
          have h38' := of_decide_eq_false h38
          refine swp_skip ?_
          refine then_n ?_
          refine swp_seq ?_
          refine swp_seq ?_
          refine swp_region ?_
          refine s_pu (pu_move rfl) ?_
          refine s_pu (pu_move rfl) ?_
          refine s_pu (pu_geq rfl rfl) ?_
          refine swl_sub _ (.cons (t := 0) rfl (.cons (t := 3) rfl (.cons (t := 4) rfl (.cons (t := 5) rfl (.cons (t := 6) rfl (.cons (t := 41) rfl .nil)))))) ?_
          refine swl_nil ?_
          refine then_n ?_
          refine swp_cond (b := _) rfl (fun h41 => ?_) (fun h41 => ?_)
          · skip   -- 41 T
            rw [if_pos (of_decide_eq_true h41)] at hre
            refine swp_seq ?_
            refine swp_region ?_
            refine s_pu (pu_assign rfl) ?_
            refine swl_sub _ (.cons (t := 2) rfl .nil) ?_
            refine swl_nil ?_
            refine then_n ?_
            refine swp_ret ?_
            refine then_r ?_
            refine block_r ?_
            refine then_r ?_
            refine then_r ?_
            refine block_r ?_
            refine block_r ?_
            refine then_r ?_
            refine then_r ?_
            refine block_r ?_
            refine then_r ?_
            exact done_ret [ro μ] (.tmp rfl .nil) ⟨by rw [hci, ← hre, if_neg (by decide)]; rfl, rfl⟩ (by repeat (first | exact Split.nil | (apply Split.cons; (repeat (first | with_reducible exact Take.here | apply Take.there)))))
          · skip   -- 41 F
            rw [if_neg (of_decide_eq_false h41)] at hre
            have h41' := of_decide_eq_false h41
            obtain ⟨k, rfl⟩ : ∃ k : Nat, p = k := ⟨p.toNat, by omega⟩
            refine swp_skip ?_
            refine then_n ?_
            refine swp_seq ?_
            refine swp_seq ?_
            refine swp_region ?_
            refine s_pu (pu_move rfl) ?_
            refine s_pu (pu_move rfl) ?_
            refine s_pu (pu_indexAddr k rfl rfl (by omega) (by omega) (by omega)) ?_
            refine s_rd (rd_load rfl (rbs_get _ (by omega))) ?_
            refine swl_sub _ (.cons (t := 0) rfl (.cons (t := 3) rfl (.cons (t := 4) rfl (.cons (t := 5) rfl (.cons (t := 6) rfl (.cons (t := 45) rfl .nil)))))) ?_
            refine swl_nil ?_
            refine then_n ?_
            refine swp_cond (b := _) rfl (fun h45 => ?_) (fun h45 => ?_)
            · skip   -- 45 T
              rw [if_pos (of_decide_eq_true h45)] at hre
              refine swp_seq ?_
              refine swp_region ?_
              refine s_pu (pu_assign rfl) ?_
              refine swl_sub _ (.cons (t := 2) rfl .nil) ?_
              refine swl_nil ?_
              refine then_n ?_
              refine swp_ret ?_
              refine then_r ?_
              refine block_r ?_
              refine then_r ?_
              refine then_r ?_
              refine block_r ?_
              refine block_r ?_
              refine then_r ?_
              refine then_r ?_
              refine block_r ?_
              refine then_r ?_
              exact done_ret [ro μ] (.tmp rfl .nil) ⟨by rw [hci, ← hre, if_neg (by decide)]; rfl, rfl⟩ (by repeat (first | exact Split.nil | (apply Split.cons; (repeat (first | with_reducible exact Take.here | apply Take.there)))))
            · skip   -- 45 F
              rw [if_neg (of_decide_eq_false h45)] at hre
              refine swp_skip ?_
              refine then_n ?_
              refine swp_region ?_
              refine s_pu (pu_move rfl) ?_
              refine s_pu (pu_move rfl) ?_
              refine s_pu (pu_indexAddr k rfl rfl (by omega) (by omega) (by omega)) ?_
              refine s_ef0 (ef_storeP rfl rfl rfl (by rw [rbs_len]; omega)) ?_
              refine swl_sub _ (.cons (t := 0) rfl (.cons (t := 3) rfl (.cons (t := 4) rfl (.cons (t := 5) rfl .nil)))) ?_
              rw [rbs_set (T := fun y => decide ((y : Int) ∈ x.2.take (j + 1))) (fun y hy => by
                rw [List.take_add_one, hp]
                by_cases e : y = k
                · subst e; simp
                · have : (y : Int) ≠ k := by omega
                  simp [e, this])]
              refine swl_nil ?_
              refine block_n ?_
              refine then_n ?_
              refine swp_region ?_
              refine s_pu (pu_move rfl) ?_
              refine s_pu (pu_add_as ((j + 1 : Nat) : Int) rfl rfl (by omega) (by omega) (by omega)) ?_
              refine s_pu (pu_assign rfl) ?_
              refine swl_sub _ (.cons (t := 0) rfl (.cons (t := 3) rfl (.cons (t := 4) rfl (.cons (t := 5) rfl .nil)))) ?_
              refine swl_nil ?_
              exact then_n ⟨j + 1, ⟨rfl, rfl, h27', hre⟩, by omega⟩
      · skip   -- 27 F
        have hz : chkFrom 0 (nums G) = chkFrom (i + 1) ((nums G).drop (i + 1)) := by
          first
          | (have h27' := of_decide_eq_false h27
             obtain rfl : j = x.2.length := by omega
             rw [List.drop_length] at hre
             have hz : rowErr i [] x.2 = 0 := hre.symm
             rw [if_pos hz] at hci
             exact hci)
          | (have hz : rowErr i [] x.2 = 0 := by rw [List.eq_nil_of_length_eq_zero hx0]; rfl
             rw [if_pos hz] at hci
             exact hci)
        refine swp_exit ?_
        refine then_x ?_
        refine then_x ?_
        refine block_hit rfl ?_
        refine block_n ?_
        refine then_n ?_
        refine swp_region ?_
        refine s_pu (pu_move rfl) ?_
        refine s_pu (pu_add_as ((i + 1 : Nat) : Int) rfl rfl (by omega) (by omega) (by omega)) ?_
        refine s_pu (pu_assign rfl) ?_
        refine swl_sub _ (.cons (t := 0) rfl (.cons (t := 3) rfl .nil)) ?_
        refine swl_ent (Split.ent' (K := [ro μ]) (by repeat (first | exact Split.nil | (apply Split.cons; (repeat (first | with_reducible exact Take.here | apply Take.there)))))) ?_
        refine swl_nil ?_
        exact then_n ⟨i + 1, ⟨rfl, rfl, h10', hz.symm⟩, by omega⟩
    · skip   -- 18 F
      have h18' := of_decide_eq_false h18
      have hx0 : x.2.length = 0 := by omega
      refine swp_skip ?_
      refine then_n ?_
      refine swp_seq ?_
      refine swp_region ?_
      refine s_pu (pu_assign rfl) ?_
      refine swl_sub _ (.cons (t := 0) rfl (.cons (t := 3) rfl (.cons (t := 4) rfl (.cons (t := 5) rfl .nil)))) ?_
      refine swl_nil ?_
      refine then_n ?_
      refine swp_block ?_
      refine swp_sub _ (.cons (t := 0) rfl (.cons (t := 3) rfl (.cons (t := 4) rfl (.cons (t := 5) rfl .nil)))) ?_
      refine swp_loop (ι := Nat) (fun j env L => env = [(0, .slice (some ⟨gb, off, none⟩) G.length cap), (3, .int .i64 (i : Nat)), (4, .slice none 0 0), (5, .int .i64 0)] ∧ L = [ro μ]) (fun j => j) 0 ⟨rfl, rfl⟩ ?_
      rintro j env L ⟨rfl, rfl⟩
      refine swp_seq ?_
      refine swp_seq ?_
      refine swp_region ?_
      refine s_pu (pu_move rfl) ?_
      refine s_pu (pu_move rfl) ?_
      refine s_pu (pu_move rfl) ?_
      refine s_pu (pu_indexAddr (off + i * 1) rfl rfl (by omega) (by omega) (by rw [Int.toNat_natCast])) ?_
      refine s_rd (rd_ro rfl hrk.cell) ?_
      refine s_pu (pu_len_row hxr rfl) ?_
      refine s_pu (pu_lss rfl rfl) ?_
      refine swl_sub _ (.cons (t := 0) rfl (.cons (t := 3) rfl (.cons (t := 4) rfl (.cons (t := 5) rfl (.cons (t := 27) rfl .nil))))) ?_
      refine swl_nil ?_
      refine then_n ?_
      refine swp_cond (b := _) rfl (fun h27 => by have := of_decide_eq_true h27; omega) (fun h27 => ?_)
      have hz : chkFrom 0 (nums G) = chkFrom (i + 1) ((nums G).drop (i + 1)) := by
        first
        | (have h27' := of_decide_eq_false h27
           obtain rfl : j = x.2.length := by omega
           rw [List.drop_length] at hre
           have hz : rowErr i [] x.2 = 0 := hre.symm
           rw [if_pos hz] at hci
           exact hci)
        | (have hz : rowErr i [] x.2 = 0 := by rw [List.eq_nil_of_length_eq_zero hx0]; rfl
           rw [if_pos hz] at hci
           exact hci)
      refine swp_exit ?_
      refine then_x ?_
      refine then_x ?_
      refine block_hit rfl ?_
      refine block_n ?_
      refine then_n ?_
      refine swp_region ?_
      refine s_pu (pu_move rfl) ?_
      refine s_pu (pu_add_as ((i + 1 : Nat) : Int) rfl rfl (by omega) (by omega) (by omega)) ?_
      refine s_pu (pu_assign rfl) ?_
      refine swl_sub _ (.cons (t := 0) rfl (.cons (t := 3) rfl .nil)) ?_
      refine swl_ent (Split.ent' (K := [ro μ]) (by repeat (first | exact Split.nil | (apply Split.cons; (repeat (first | with_reducible exact Take.here | apply Take.there)))))) ?_
      refine swl_nil ?_
      exact then_n ⟨i + 1, ⟨rfl, rfl, h10', hz.symm⟩, by omega⟩
  · skip   -- 10 F
    refine swp_exit ?_
    refine then_x ?_
    refine then_x ?_
    refine block_hit rfl ?_
    refine then_n ?_
    refine swp_seq ?_
    refine swp_region ?_
    refine s_pu (pu_assign rfl) ?_
    refine swl_sub _ (.cons (t := 2) rfl .nil) ?_
    refine swl_nil ?_
    refine then_n ?_
    refine swp_ret ?_
    have h10' := of_decide_eq_false h10
    have hd : (nums G).drop i = [] := List.drop_eq_nil_of_le (by rw [List.length_map]; omega)
    rw [hd] at hch
    exact done_ret [ro μ] (.tmp rfl .nil) ⟨by rw [← hch]; rfl, rfl⟩ (by repeat (first | exact Split.nil | (apply Split.cons; (repeat (first | with_reducible exact Take.here | apply Take.there)))))
set_option maxHeartbeats 1000000 in
theorem rup_spec (μ : PH) (v : Value) (G : List (Value × List Int)) (a : Nat) (hG : Graph μ v G) (hbig : G.length ≤ 1099511627776) (hg : Good (nums G)) (ha : a < G.length) : Spec Try.prog 24 [v, .int .i64 (a : Nat)] [ro μ]
    (fun r L => ∃ b, r = .slice (some ⟨b, 0, none⟩) G.length G.length ∧ L = [blk b 4 (rbs G.length (up (nums G) a)), ro μ]) := by
  obtain ⟨gb, off, cap, hv, c1, c2, hr⟩ := hG.1.pos (by omega)
  subst hv
  have hrow : ∀ c : Nat, c < G.length → ∃ x, G[c]? = some x ∧ CellAt μ gb (off + c * 1) x.1 ∧ Row μ x.1 1 x.2.length (x.2.flatMap (icsk .i64)) ∧ rowOf (nums G) c = x.2 ∧ ∀ p ∈ x.2, 0 ≤ p ∧ p < c := fun c hc => by
    have hx : G[c]? = some G[c] := List.getElem?_eq_getElem hc
    have hn : (nums G)[c]? = some G[c].2 := by rw [List.getElem?_map, hx]; rfl
    exact ⟨G[c], hx, (hr.elem gcs_len hx).cell, hG.2 _ (List.mem_of_getElem? hx), rowOf_at hn, hg c _ hn⟩
  refine Spec.of 42 Try.func24 rfl rfl rfl ?_
  refine swp_seq ?_
  refine swp_region ?_
  refine s_pu (pu_assign rfl) ?_
  refine swl_sub _ (.cons (t := 0) rfl (.cons (t := 1) rfl .nil)) ?_
  refine swl_nil ?_
  refine then_n ?_
  refine swp_seq ?_
  refine swp_region ?_
  refine s_pu (pu_move rfl) ?_
  refine s_pu (pu_len_row hG.1 rfl) ?_
  refine s_ef (ef_make1 G.length rfl rfl rfl (by omega) (by simp only [maxLen]; omega)) ?_
  rintro b10
  skip
  refine s_pu (pu_assign rfl) ?_
  refine swl_sub _ (.cons (t := 0) rfl (.cons (t := 1) rfl (.cons (t := 5) rfl .nil))) ?_
  refine swl_nil ?_
  refine then_n ?_
  refine swp_seq ?_
  refine swp_region ?_
  refine s_pu (pu_move rfl) ?_
  refine s_pu (pu_move rfl) ?_
  refine s_pu (pu_indexAddr a rfl rfl (by omega) (by omega) (by omega)) ?_
  refine s_ef0 (ef_storeP rfl rfl rfl (by rw [List.length_replicate]; omega)) ?_
  refine swl_sub _ (.cons (t := 0) rfl (.cons (t := 1) rfl (.cons (t := 5) rfl .nil))) ?_
  have e : (List.replicate G.length (Value.bool false)).set a (.bool true) = rbs G.length (fun j => decide (j = a)) := by
    have e0 : List.replicate G.length (Value.bool false) = rbs G.length (fun _ => false) := by
      apply List.ext_getElem?
      intro j
      simp [rbs, List.getElem?_replicate]
      split <;> simp_all
    rw [e0]
    exact rbs_set (fun j hj => by by_cases h : j = a <;> simp [h])
  rw [e]
  refine swl_nil ?_
  refine then_n ?_
  refine swp_seq ?_
  refine swp_seq ?_
  refine swp_region ?_
  refine s_pu (pu_move rfl) ?_
  refine s_pu (pu_assign rfl) ?_
  refine swl_sub _ (.cons (t := 0) rfl (.cons (t := 5) rfl (.cons (t := 6) rfl .nil))) ?_
  refine swl_nil ?_
  refine then_n ?_
  refine swp_block ?_
  refine swp_loop (ι := Nat × (Nat → Bool)) (fun k env L => env = [(0, .slice (some ⟨gb, off, none⟩) G.length cap), (5, .slice (some ⟨b10, 0, none⟩) G.length G.length), (6, .int .i64 ((k.1 : Nat) - 1 : Int))] ∧ L = [blk b10 4 (rbs G.length k.2), ro μ] ∧ k.1 ≤ a + 1 ∧ upF (nums G) k.1 k.2 = up (nums G) a) (fun k => k.1) (a + 1, fun j => decide (j = a)) ⟨?_, rfl, Nat.le_refl _, rfl⟩ ?_
  · rw [show (((a + 1 : Nat) : Int) - 1) = a by omega]
  rintro ⟨k, S⟩ env L ⟨rfl, rfl, hk, hup⟩
  dsimp only at hk hup ⊢
  refine swp_seq ?_
  refine swp_seq ?_
  refine swp_region ?_
  refine s_pu (pu_move rfl) ?_
  refine s_pu (pu_geq rfl rfl) ?_
  refine swl_sub _ (.cons (t := 0) rfl (.cons (t := 5) rfl (.cons (t := 6) rfl (.cons (t := 16) rfl .nil)))) ?_
  refine swl_nil ?_
  refine then_n ?_
  refine swp_cond (b := _) rfl (fun h16 => ?_) (fun h16 => ?_)
  · skip   -- 16 T
    have h16' := of_decide_eq_true h16
    obtain ⟨c, rfl⟩ : ∃ c, k = c + 1 := ⟨k - 1, by omega⟩
    rw [show (((c + 1 : Nat) : Int) - 1) = c by omega]
    obtain ⟨x, hx, hxc, hxr, hxo, hxg⟩ := hrow c (by omega)
    have hxs := hxr.small
    replace hup : upF (nums G) c (stepUp (nums G) c S) = up (nums G) a := hup
    refine swp_skip ?_
    refine then_n ?_
    refine swp_seq ?_
    refine swp_block ?_
    refine swp_seq ?_
    refine swp_region ?_
    refine s_pu (pu_move rfl) ?_
    refine s_pu (pu_move rfl) ?_
    refine s_pu (pu_indexAddr c rfl rfl (by omega) (by omega) (by omega)) ?_
    refine s_rd (rd_load rfl (rbs_get S (by omega))) ?_
    refine swl_sub _ (.cons (t := 0) rfl (.cons (t := 5) rfl (.cons (t := 6) rfl (.cons (t := 22) rfl .nil)))) ?_
    refine swl_nil ?_
    refine then_n ?_
    refine swp_cond (b := _) rfl (fun h22 => ?_) (fun h22 => ?_)
    · skip   -- 22 T
      refine swp_seq ?_
      refine swp_region ?_
      refine s_pu (pu_assign rfl) ?_
      refine swl_sub _ (.cons (t := 0) rfl (.cons (t := 5) rfl (.cons (t := 6) rfl (.cons (t := 7) rfl .nil)))) ?_
      refine swl_nil ?_
      refine then_n ?_
      refine swp_block ?_
      refine swp_sub _ (.cons (t := 0) rfl (.cons (t := 5) rfl (.cons (t := 6) rfl (.cons (t := 7) rfl .nil)))) ?_
      have e0 : rbs G.length S = rbs G.length (fun y => S y || decide ((y : Int) ∈ x.2.take 0)) := rbs_ext fun j _ => by simp
      rw [e0]
      refine swp_loop (ι := Nat) (fun j env L => env = [(0, .slice (some ⟨gb, off, none⟩) G.length cap), (5, .slice (some ⟨b10, 0, none⟩) G.length G.length), (6, .int .i64 (c : Nat)), (7, .int .i64 (j : Nat))] ∧ L = [blk b10 4 (rbs G.length (fun y => S y || decide ((y : Int) ∈ x.2.take j))), ro μ] ∧ j ≤ x.2.length) (fun j => x.2.length - j) 0 ⟨rfl, rfl, Nat.zero_le _⟩ ?_
      rintro j env L ⟨rfl, rfl, hj⟩
      refine swp_seq ?_
      refine swp_seq ?_
      refine swp_region ?_
      refine s_pu (pu_move rfl) ?_
      refine s_pu (pu_move rfl) ?_
      refine s_pu (pu_move rfl) ?_
      refine s_pu (pu_indexAddr (off + c * 1) rfl rfl (by omega) (by omega) (by rw [Int.toNat_natCast])) ?_
      refine s_rd (rd_ro rfl hxc) ?_
      refine s_pu (pu_len_row hxr rfl) ?_
      refine s_pu (pu_lss rfl rfl) ?_
      refine swl_sub _ (.cons (t := 0) rfl (.cons (t := 5) rfl (.cons (t := 6) rfl (.cons (t := 7) rfl (.cons (t := 29) rfl .nil))))) ?_
      refine swl_nil ?_
      refine then_n ?_
      refine swp_cond (b := _) rfl (fun h29 => ?_) (fun h29 => ?_)
      · skip   -- 29 T
        have h29' : j < x.2.length := by have := of_decide_eq_true h29; omega
        obtain ⟨pb, poff, pcap, hpv, p1, p2, hpr⟩ := hxr.pos (by omega)
        obtain ⟨p, hp⟩ : ∃ p, x.2[j]? = some p := ⟨_, List.getElem?_eq_getElem h29'⟩
        have hpk := hpr.elem (icsk_len .i64) hp
        have hpg := hxg p (List.mem_of_getElem? hp)
        obtain ⟨i, rfl⟩ : ∃ i : Nat, p = i := ⟨p.toNat, by omega⟩
        refine swp_skip ?_
        refine then_n ?_
        refine swp_seq ?_
        refine swp_block ?_
        refine swp_region ?_
        refine s_pu (pu_move rfl) ?_
        refine s_pu (pu_move rfl) ?_
        refine s_pu (pu_move rfl) ?_
        refine s_pu (pu_indexAddr (off + c * 1) rfl rfl (by omega) (by omega) (by rw [Int.toNat_natCast])) ?_
        refine s_rd (rd_ro rfl (hpv ▸ hxc)) ?_
        refine s_pu (pu_move rfl) ?_
        refine s_pu (pu_indexAddr (poff + j * 1) rfl rfl (by omega) (by omega) (by rw [Int.toNat_natCast])) ?_
        refine s_rd (rd_ro rfl hpk.cell) ?_
        refine s_pu (pu_indexAddr i rfl rfl (by omega) (by omega) (by omega)) ?_
        refine s_ef0 (ef_storeP rfl rfl rfl (by rw [rbs_len]; omega)) ?_
        refine swl_sub _ (.cons (t := 0) rfl (.cons (t := 5) rfl (.cons (t := 6) rfl (.cons (t := 7) rfl .nil)))) ?_
        rw [rbs_set (T := fun y => S y || decide ((y : Int) ∈ x.2.take (j + 1))) (fun y hy => by
          rw [List.take_add_one, hp]
          by_cases e : y = i
          · subst e; simp
          · have : (y : Int) ≠ i := by omega
            simp [e, this])]
        refine swl_nil ?_
        refine block_n ?_
        refine then_n ?_
        refine swp_region ?_
        refine s_pu (pu_move rfl) ?_
        refine s_pu (pu_add_as ((j + 1 : Nat) : Int) rfl rfl (by omega) (by omega) (by omega)) ?_
        refine s_pu (pu_assign rfl) ?_
        refine swl_sub _ (.cons (t := 0) rfl (.cons (t := 5) rfl (.cons (t := 6) rfl (.cons (t := 7) rfl .nil)))) ?_
        refine swl_nil ?_
        exact then_n ⟨j + 1, ⟨rfl, rfl, h29'⟩, by omega⟩
      · skip   -- 29 F
        have h29' := of_decide_eq_false h29
        obtain rfl : j = x.2.length := by omega
        have e1 : rbs G.length (fun y => S y || decide ((y : Int) ∈ x.2.take x.2.length)) = rbs G.length (stepUp (nums G) c S) := rbs_ext fun j _ => by
          unfold stepUp; rw [h22, hxo, List.take_length, Bool.true_and]
        rw [e1]
        refine swp_exit ?_
        refine then_x ?_
        refine then_x ?_
        refine block_hit rfl ?_
        refine block_n ?_
        refine then_n ?_
        refine swp_region ?_
        refine s_pu (pu_move rfl) ?_
        refine s_pu (pu_sub_as ((c : Nat) - 1 : Int) rfl rfl (by omega) (by omega) (by omega)) ?_
        refine s_pu (pu_assign rfl) ?_
        refine swl_sub _ (.cons (t := 0) rfl (.cons (t := 5) rfl (.cons (t := 6) rfl .nil))) ?_
        refine swl_nil ?_
        exact then_n ⟨(c, stepUp (nums G) c S), ⟨rfl, rfl, by omega, hup⟩, by show c < c + 1; omega⟩
    · skip   -- 22 F
      have e1 : rbs G.length S = rbs G.length (stepUp (nums G) c S) := rbs_ext fun j _ => by unfold stepUp; rw [h22, Bool.false_and, Bool.or_false]
      rw [e1]
      refine swp_skip ?_
      refine block_n ?_
      refine then_n ?_
      refine swp_region ?_
      refine s_pu (pu_move rfl) ?_
      refine s_pu (pu_sub_as ((c : Nat) - 1 : Int) rfl rfl (by omega) (by omega) (by omega)) ?_
      refine s_pu (pu_assign rfl) ?_
      refine swl_sub _ (.cons (t := 0) rfl (.cons (t := 5) rfl (.cons (t := 6) rfl .nil))) ?_
      refine swl_nil ?_
      exact then_n ⟨(c, stepUp (nums G) c S), ⟨rfl, rfl, by omega, hup⟩, by show c < c + 1; omega⟩
  · skip   -- 16 F
    refine swp_exit ?_
    refine then_x ?_
    refine then_x ?_
    refine block_hit rfl ?_
    refine then_n ?_
    refine swp_seq ?_
    refine swp_region ?_
    refine s_pu (pu_move rfl) ?_
    refine s_pu (pu_assign rfl) ?_
    refine swl_sub _ (.cons (t := 4) rfl .nil) ?_
    refine swl_nil ?_
    refine then_n ?_
    refine swp_ret ?_
    have h16' := of_decide_eq_false h16
    obtain rfl : k = 0 := by omega
    replace hup : S = up (nums G) a := hup
    subst hup
    exact done_ret [blk b10 4 (rbs G.length (up (nums G) a)), ro μ] (.tmp rfl .nil) ⟨b10, rfl, rfl⟩ (by repeat (first | exact Split.nil | (apply Split.cons; (repeat (first | with_reducible exact Take.here | apply Take.there)))))
end SX
namespace SX
open Go Go.Proofs

theorem row_at {μ : PH} {v : Value} {G : List (Value × List Int)} (hG : Graph μ v G) {i : Nat} (hi : i < G.length) : ∃ gb off cap x, v = .slice (some ⟨gb, off, none⟩) G.length cap ∧ G[i]? = some x ∧ CellAt μ gb (off + i * 1) x.1 ∧ Row μ x.1 1 x.2.length (x.2.flatMap (icsk .i64)) ∧ (nums G)[i]? = some x.2 := by
  obtain ⟨gb, off, cap, hv, _, _, hr⟩ := hG.1.pos (by omega)
  have hx : G[i]? = some G[i] := List.getElem?_eq_getElem hi
  exact ⟨gb, off, cap, G[i], hv, hx, (hr.elem gcs_len hx).cell, hG.2 _ (List.mem_of_getElem? hx), by rw [List.getElem?_map, hx]; rfl⟩
theorem icells_len' (xs : List Int) : (xs.flatMap (icsk .i64)).length = xs.length * 1 := flat_length (icsk_len .i64) xs
theorem icells_get' {xs : List Int} {k : Nat} {z : Int} (hz : xs[k]? = some z) : (xs.flatMap (icsk .i64))[k]? = some (.int .i64 z) := by
  have := flat_get (icsk_len .i64) xs [] k z hz 0 (.int .i64 z) rfl
  rwa [List.append_nil, Nat.mul_one] at this
theorem icells_drop (xs : List Int) (k : Nat) : (xs.flatMap (icsk .i64)).drop (k * 1) = (xs.drop k).flatMap (icsk .i64) := by
  rw [Nat.mul_one]
  induction xs generalizing k with
  | nil => simp
  | cons a l ih =>
    cases k with
    | zero => rfl
    | succ k => exact ih k
theorem shape_len {v : Value} {l : Nat} (h : Shape v l) : ∃ A cap, v = .slice A l cap := by
  rcases h with ⟨h1, h2⟩ | ⟨b, cap, h1, _⟩
  · exact ⟨none, 0, by rw [h1, h2]⟩
  · exact ⟨_, _, h1⟩
/-- the answer: numbers, and the error -/
def moreL (K : List Int) (g : List (List Int)) : List Int := match moreG K g with
  | some all => all.drop K.length
  | none => []
def moreE (K : List Int) (g : List (List Int)) : Int := match moreG K g with
  | some _ => 0
  | none => 1
theorem moreL_some {K a : List Int} {g : List (List Int)} (h : moreG K g = some a) : moreL K g = a.drop K.length ∧ moreE K g = 0 := by unfold moreL moreE; rw [h]; exact ⟨rfl, rfl⟩
theorem moreL_none {K : List Int} {g : List (List Int)} (h : moreG K g = none) : moreL K g = [] ∧ moreE K g = 1 := by unfold moreL moreE; rw [h]; exact ⟨rfl, rfl⟩
end SX
namespace SX
open Go Go.Proofs

theorem counted_spec (n : Int) : Spec Try.prog 25 [.int .i64 n] [] (fun r L => r = .int .i64 (cnt n) ∧ L = []) := by
  refine Spec.of 7 Try.func25 rfl rfl rfl ?_
  refine swp_seq ?_
  refine swp_region ?_
  refine s_pu (pu_assign rfl) ?_
  refine swl_sub _ (.cons (t := 0) rfl .nil) ?_
  refine swl_nil ?_
  refine then_n ?_
  refine swp_seq ?_
  refine swp_seq ?_
  refine swp_region ?_
  refine s_pu (pu_move rfl) ?_
  refine s_pu (pu_gtr rfl rfl) ?_
  refine swl_sub _ (.cons (t := 0) rfl (.cons (t := 4) rfl .nil)) ?_
  refine swl_nil ?_
  refine then_n ?_
  refine swp_cond (b := _) rfl (fun h4 => ?_) (fun h4 => ?_)
  · skip   -- 4 T
    refine swp_seq ?_
    refine swp_region ?_
    refine s_pu (pu_assign rfl) ?_
    refine swl_sub _ (.cons (t := 2) rfl .nil) ?_
    refine swl_nil ?_
    refine then_n ?_
    refine swp_ret ?_
    refine then_r ?_
    have h := of_decide_eq_true h4
    exact done_ret [] (.tmp rfl .nil) ⟨by unfold cnt; rw [if_pos h]; rfl, rfl⟩ (by repeat (first | exact Split.nil | (apply Split.cons; (repeat (first | with_reducible exact Take.here | apply Take.there)))))
  · skip   -- 4 F
    refine swp_skip ?_
    refine then_n ?_
    refine swp_seq ?_
    refine swp_region ?_
    refine s_pu (pu_move rfl) ?_
    refine s_pu (pu_max2 rfl rfl) ?_
    refine s_pu (pu_assign rfl) ?_
    refine swl_sub _ (.cons (t := 2) rfl .nil) ?_
    refine swl_nil ?_
    refine then_n ?_
    refine swp_ret ?_
    have h := of_decide_eq_false h4
    exact done_ret [] (.tmp rfl .nil) ⟨by unfold cnt; rw [if_neg h]; rfl, rfl⟩ (by repeat (first | exact Split.nil | (apply Split.cons; (repeat (first | with_reducible exact Take.here | apply Take.there)))))
theorem next_spec (v : Value) (xs : List Int) (L0 : List Assn) (hv : Ints Try.prog 3 L0 v xs) : Spec Try.prog 12 [v] L0 (fun r L => r = .int .i64 (nxt xs) ∧ L = L0) := by
  obtain ⟨A, cap, rfl, hl, ha⟩ := hv
  refine Spec.of 22 Try.func12 rfl rfl rfl ?_
  refine swp_seq ?_
  refine swp_region ?_
  refine s_pu (pu_assign rfl) ?_
  refine swl_sub _ (.cons (t := 0) rfl .nil) ?_
  refine swl_nil ?_
  refine then_n ?_
  refine swp_seq ?_
  refine swp_region ?_
  refine s_pu (pu_assign rfl) ?_
  refine swl_sub _ (.cons (t := 0) rfl (.cons (t := 3) rfl .nil)) ?_
  refine swl_nil ?_
  refine then_n ?_
  refine swp_seq ?_
  refine swp_seq ?_
  refine swp_region ?_
  refine s_pu (pu_move rfl) ?_
  refine s_pu (pu_len rfl) ?_
  refine s_pu (pu_move rfl) ?_
  refine swl_sub _ (.cons (t := 3) rfl (.cons (t := 6) rfl (.cons (t := 7) rfl (.cons (t := 8) rfl .nil)))) ?_
  refine swl_nil ?_
  refine then_n ?_
  refine swp_block ?_
  refine swp_loop (ι := Nat) (fun k env L => env = [(3, .int .i64 (hiG (xs.take k))), (6, .slice A xs.length cap), (7, .int .i64 (xs.length : Nat)), (8, .int .i64 (k : Nat))] ∧ L = L0 ∧ k ≤ xs.length) (fun k => xs.length - k) 0 ⟨rfl, rfl, Nat.zero_le _⟩ ?_
  rintro k env L ⟨rfl, rfl, hk⟩
  refine swp_seq ?_
  refine swp_region ?_
  refine s_pu (pu_lss rfl rfl) ?_
  refine swl_sub _ (.cons (t := 3) rfl (.cons (t := 6) rfl (.cons (t := 7) rfl (.cons (t := 8) rfl (.cons (t := 9) rfl .nil))))) ?_
  refine swl_nil ?_
  refine then_n ?_
  refine swp_seq ?_
  refine swp_cond (b := _) rfl (fun h9 => ?_) (fun h9 => ?_)
  · skip   -- 9 T
    have h9' : k < xs.length := by have := of_decide_eq_true h9; omega
    obtain ⟨b, off, rfl, hld⟩ := ha (by omega)
    obtain ⟨x, hx⟩ : ∃ x, xs[k]? = some x := ⟨_, List.getElem?_eq_getElem h9'⟩
    refine swp_skip ?_
    refine then_n ?_
    refine swp_seq ?_
    refine swp_block ?_
    refine swp_seq ?_
    refine swp_region ?_
    refine s_pu (pu_indexAddr (off + k * 1) rfl rfl (by omega) (by omega) (by rw [Int.toNat_natCast])) ?_
    refine s_rd (rd_of_ld rfl (by rw [Nat.mul_one]; exact hld k x hx)) ?_
    refine s_pu (pu_assign rfl) ?_
    refine swl_sub _ (.cons (t := 3) rfl (.cons (t := 5) rfl (.cons (t := 6) rfl (.cons (t := 7) rfl (.cons (t := 8) rfl .nil))))) ?_
    refine swl_nil ?_
    refine then_n ?_
    refine swp_region ?_
    refine s_pu (pu_move rfl) ?_
    refine s_pu (pu_move rfl) ?_
    refine s_ef (ef_fn (counted_spec x) rfl rfl (by repeat (first | exact Split.nil | (apply Split.cons; (repeat (first | with_reducible exact Take.here | apply Take.there)))))) ?_
    rintro v1 L1 ⟨rfl, rfl⟩
    refine swl_app ?_
    refine s_pu (pu_max2 rfl rfl) ?_
    refine s_pu (pu_assign rfl) ?_
    refine swl_sub _ (.cons (t := 3) rfl (.cons (t := 6) rfl (.cons (t := 7) rfl (.cons (t := 8) rfl .nil)))) ?_
    refine swl_nil ?_
    refine block_n ?_
    refine then_n ?_
    refine swp_region ?_
    refine s_pu (pu_add_as ((k + 1 : Nat) : Int) rfl rfl (by omega) (by omega) (by omega)) ?_
    refine s_pu (pu_move rfl) ?_
    refine swl_sub _ (.cons (t := 3) rfl (.cons (t := 6) rfl (.cons (t := 7) rfl (.cons (t := 8) rfl .nil)))) ?_
    refine swl_nil ?_
    exact then_n ⟨k + 1, ⟨by rw [List.take_add_one, hx]; show _ = [(3, Value.int .i64 (hiG (xs.take k ++ [x]))), _, _, _]; rw [hiG_append], rfl, h9'⟩, by omega⟩
  · skip   -- 9 F
    have h9' := of_decide_eq_false h9
    obtain rfl : k = xs.length := by omega
    rw [List.take_length]
    refine swp_exit ?_
    refine then_x ?_
    refine then_x ?_
    refine block_hit rfl ?_
    refine then_n ?_
    refine swp_seq ?_
    refine swp_seq ?_
    refine swp_region ?_
    refine s_pu (pu_move rfl) ?_
    refine s_pu (pu_geq rfl rfl) ?_
    refine swl_sub _ (.cons (t := 3) rfl (.cons (t := 18) rfl .nil)) ?_
    refine swl_nil ?_
    refine then_n ?_
    refine swp_cond (b := _) rfl (fun h18 => ?_) (fun h18 => ?_)
    · skip   -- 18 T
      refine swp_seq ?_
      refine swp_region ?_
      refine s_pu (pu_move rfl) ?_
      refine s_pu (pu_assign rfl) ?_
      refine swl_sub _ (.cons (t := 2) rfl .nil) ?_
      refine swl_nil ?_
      refine then_n ?_
      refine swp_ret ?_
      refine then_r ?_
      have h := of_decide_eq_true h18
      exact done_ret _ (.tmp rfl .nil) ⟨by unfold nxt; rw [if_pos h]; rfl, rfl⟩ Split.all
    · skip   -- 18 F
      refine swp_skip ?_
      refine then_n ?_
      refine swp_seq ?_
      have hr := hiG_range xs
      refine swp_region ?_
      refine s_pu (pu_move rfl) ?_
      first | refine s_pu (pu_add_in rfl rfl (by omega) (by omega)) ?_ | refine s_pu (pu_add rfl rfl) ?_
      refine s_pu (pu_assign rfl) ?_
      refine swl_sub _ (.cons (t := 2) rfl .nil) ?_
      refine swl_nil ?_
      refine then_n ?_
      refine swp_ret ?_
      have h := of_decide_eq_false h18
      exact done_ret _ (.tmp rfl .nil) ⟨by unfold nxt; rw [if_neg h]; rfl, rfl⟩ Split.all
theorem may_spec (a b : Int) : Spec Try.prog 15 [.int .i64 a, .int .i64 b] [] (fun r L => r = .bool (mayG a b) ∧ L = []) := by
  refine Spec.of 21 Try.func15 rfl rfl rfl ?_
  refine swp_seq ?_
  refine swp_region ?_
  refine s_pu (pu_assign rfl) ?_
  refine swl_sub _ (.cons (t := 0) rfl (.cons (t := 1) rfl .nil)) ?_
  refine swl_nil ?_
  refine then_n ?_
  refine swp_seq ?_
  refine swp_region ?_
  refine s_pu (pu_move rfl) ?_
  refine s_ef (ef_fn (counted_spec a) rfl rfl (by repeat (first | exact Split.nil | (apply Split.cons; (repeat (first | with_reducible exact Take.here | apply Take.there)))))) ?_
  rintro v1 L1 ⟨rfl, rfl⟩
  refine swl_app ?_
  refine s_pu (pu_move rfl) ?_
  refine s_ef (ef_fn (counted_spec b) rfl rfl (by repeat (first | exact Split.nil | (apply Split.cons; (repeat (first | with_reducible exact Take.here | apply Take.there)))))) ?_
  rintro v1 L1 ⟨rfl, rfl⟩
  refine swl_app ?_
  refine s_pu (pu_assign rfl) ?_
  refine s_pu (pu_assign rfl) ?_
  refine swl_sub _ (.cons (t := 0) rfl (.cons (t := 1) rfl .nil)) ?_
  refine swl_nil ?_
  refine then_n ?_
  refine swp_seq ?_
  refine swp_block ?_
  refine swp_seq ?_
  refine swp_region ?_
  refine s_pu (pu_move rfl) ?_
  refine s_pu (pu_eql rfl rfl) ?_
  refine s_pu (pu_assign rfl) ?_
  refine swl_sub _ (.cons (t := 0) rfl (.cons (t := 1) rfl (.cons (t := 9) rfl .nil))) ?_
  refine swl_nil ?_
  refine then_n ?_
  refine swp_cond (b := _) rfl (fun h9 => ?_) (fun h9 => ?_)
  · skip   -- 9 T
    refine swp_seq ?_
    refine swp_region ?_
    refine s_pu (pu_assign rfl) ?_
    refine swl_sub _ (.cons (t := 4) rfl .nil) ?_
    refine swl_nil ?_
    refine then_n ?_
    refine swp_ret ?_
    refine block_r ?_
    refine then_r ?_
    have h := of_decide_eq_true h9
    exact done_ret [] (.tmp rfl .nil) ⟨by unfold mayG; rw [if_pos h]; rfl, rfl⟩ (by repeat (first | exact Split.nil | (apply Split.cons; (repeat (first | with_reducible exact Take.here | apply Take.there)))))
  · skip   -- 9 F
    refine swp_seq ?_
    refine swp_region ?_
    refine s_pu (pu_move rfl) ?_
    refine s_pu (pu_eql rfl rfl) ?_
    refine s_pu (pu_assign rfl) ?_
    refine swl_sub _ (.cons (t := 0) rfl (.cons (t := 1) rfl (.cons (t := 12) rfl .nil))) ?_
    refine swl_nil ?_
    refine then_n ?_
    refine swp_cond (b := _) rfl (fun h12 => ?_) (fun h12 => ?_)
    · skip   -- 12 T
      refine swp_seq ?_
      refine swp_region ?_
      refine s_pu (pu_assign rfl) ?_
      refine swl_sub _ (.cons (t := 4) rfl .nil) ?_
      refine swl_nil ?_
      refine then_n ?_
      refine swp_ret ?_
      refine block_r ?_
      refine then_r ?_
      have h := of_decide_eq_false h9
      have h' := of_decide_eq_true h12
      exact done_ret [] (.tmp rfl .nil) ⟨by unfold mayG; rw [if_neg h, if_pos h']; rfl, rfl⟩ (by repeat (first | exact Split.nil | (apply Split.cons; (repeat (first | with_reducible exact Take.here | apply Take.there)))))
    · skip   -- 12 F
      refine swp_seq ?_
      refine swp_region ?_
      refine s_pu (pu_move rfl) ?_
      refine s_pu (pu_eql rfl rfl) ?_
      refine s_pu (pu_assign rfl) ?_
      refine swl_sub _ (.cons (t := 0) rfl (.cons (t := 1) rfl (.cons (t := 15) rfl .nil))) ?_
      refine swl_nil ?_
      refine then_n ?_
      refine swp_cond (b := _) rfl (fun h15 => ?_) (fun h15 => ?_)
      · skip   -- 15 T
        refine swp_seq ?_
        refine swp_region ?_
        refine s_pu (pu_assign rfl) ?_
        refine swl_sub _ (.cons (t := 4) rfl .nil) ?_
        refine swl_nil ?_
        refine then_n ?_
        refine swp_ret ?_
        refine block_r ?_
        refine then_r ?_
        have h := of_decide_eq_false h9
        have h' := of_decide_eq_false h12
        have h'' := of_decide_eq_true h15
        exact done_ret [] (.tmp rfl .nil) ⟨by unfold mayG; rw [if_neg h, if_neg h', if_pos h'']; rfl, rfl⟩ (by repeat (first | exact Split.nil | (apply Split.cons; (repeat (first | with_reducible exact Take.here | apply Take.there)))))
      · skip   -- 15 F
        refine swp_skip ?_
        refine block_n ?_
        refine then_n ?_
        refine swp_seq ?_
        refine swp_region ?_
        refine s_pu (pu_move rfl) ?_
        refine s_pu (pu_move rfl) ?_
        refine s_pu (pu_gtr rfl rfl) ?_
        refine s_pu (pu_assign rfl) ?_
        refine swl_sub _ (.cons (t := 4) rfl .nil) ?_
        refine swl_nil ?_
        refine then_n ?_
        refine swp_ret ?_
        have h := of_decide_eq_false h9
        have h' := of_decide_eq_false h12
        have h'' := of_decide_eq_false h15
        exact done_ret [] (.tmp rfl .nil) ⟨by unfold mayG; rw [if_neg h, if_neg h', if_neg h'']; rfl, rfl⟩ (by repeat (first | exact Split.nil | (apply Split.cons; (repeat (first | with_reducible exact Take.here | apply Take.there)))))
end SX
namespace SX
open Go Go.Proofs

theorem values_spec (μ : PH) (v : Value) (hv : ∃ A l c, v = .slice A l c) : Spec Try.prog 31 [v] [ro μ] (fun r L => ∃ b μ', r = .func (.func 34) #[] #[.pointer (some ⟨b, 0, none⟩)] ∧ Le μ μ' ∧ CellAt μ' b 0 v ∧ L = [ro μ']) := by
  obtain ⟨A, l, c, rfl⟩ := hv
  refine Spec.of 4 Try.func31 rfl rfl rfl ?_
  refine swp_seq ?_
  refine swp_region ?_
  refine s_ef (ef_box rfl rfl) ?_
  intro b1
  refine s_pu (pu_assign rfl) ?_
  refine swl_sub _ (.cons (t := 1) rfl .nil) ?_
  refine swl_share (b := b1) (μ := μ) (by repeat (first | exact Split.nil | (apply Split.cons; (repeat (first | with_reducible exact Take.here | apply Take.there))))) fun μ' h1 k1 => ?_
  refine swl_nil ?_
  refine then_n ?_
  refine swp_seq ?_
  refine swp_region ?_
  refine s_pu (pu_func (vs := []) (us := [_]) rfl rfl) ?_
  refine s_pu (pu_assign rfl) ?_
  refine swl_sub _ (.cons (t := 2) rfl .nil) ?_
  refine swl_nil ?_
  refine then_n ?_
  refine swp_ret ?_
  exact done_ret [ro μ'] (.tmp rfl .nil) ⟨b1, μ', rfl, h1, ⟨_, _, _, k1, rfl⟩, rfl⟩ (by repeat (first | exact Split.nil | (apply Split.cons; (repeat (first | with_reducible exact Take.here | apply Take.there)))))
theorem values_iter (μ : PH) (b : Nat) (v : Value) (xs : List Int) (hb : CellAt μ b 0 v) (hv : Row μ v 1 xs.length (xs.flatMap (icsk .i64))) :
    IterG Try.prog 34 [.pointer (some ⟨b, 0, none⟩)] (fun x : Int => [.int .i64 x]) (fun pre x => ∃ post, xs = pre ++ x :: post) (fun ys => ys = xs) [ro μ] (fun _ _ => ro μ) (fun _ _ => ro μ) (fun _ => ro μ) := by
  intro l I X R h0 hy
  have hs := hv.small
  obtain ⟨A, cap, hA⟩ := hv.sl
  refine Spec.of 16 Try.func34 rfl rfl rfl ?_
  refine swp_ent (L' := [ro μ, R]) (Ent.refl _) ?_
  refine swp_seq ?_
  refine swp_region ?_
  refine s_rd (rd_ro rfl hb) ?_
  refine s_pu (pu_len_row hv rfl) ?_
  refine s_pu (pu_move rfl) ?_
  refine swl_sub _ (.cons (t := 0) rfl (.cons (t := 5) rfl (.cons (t := 6) rfl (.cons (t := 7) rfl .nil)))) ?_
  refine swl_nil ?_
  refine then_n ?_
  refine swp_block ?_
  refine swp_ent ((Ent.cons h0).trans (Ent.perm (.swap _ _ _))) ?_
  refine swp_loop (ι := Nat) (fun k env L => env = [(0, yv l), (5, v), (6, .int .i64 (xs.length : Nat)), (7, .int .i64 (k : Nat))] ∧ L = [I (xs.take k), ro μ] ∧ k ≤ xs.length) (fun k => xs.length - k) 0 ⟨rfl, rfl, Nat.zero_le _⟩ ?_
  rintro k env L ⟨rfl, rfl, hk⟩
  refine swp_seq ?_
  refine swp_region ?_
  refine s_pu (pu_lss rfl rfl) ?_
  refine swl_sub _ (.cons (t := 0) rfl (.cons (t := 5) rfl (.cons (t := 6) rfl (.cons (t := 7) rfl (.cons (t := 8) rfl .nil))))) ?_
  refine swl_nil ?_
  refine then_n ?_
  refine swp_seq ?_
  refine swp_cond (b := _) rfl (fun h8 => ?_) (fun h8 => ?_)
  · skip   -- 8 T
    have h8' : k < xs.length := by have := of_decide_eq_true h8; omega
    obtain ⟨x, hx⟩ : ∃ x, xs[k]? = some x := ⟨_, List.getElem?_eq_getElem h8'⟩
    obtain ⟨xb, xo, xc, hxv, hxc⟩ := hv.at_ hx
    have hok : ∃ post, xs = xs.take k ++ x :: post := ⟨xs.drop (k + 1), by
      have e : xs[k] = x := (List.getElem?_eq_some_iff.1 hx).2
      rw [← e, ← List.drop_eq_getElem_cons h8', List.take_append_drop]⟩
    rw [hxv]
    refine swp_skip ?_
    refine then_n ?_
    refine swp_seq ?_
    refine swp_block ?_
    refine swp_seq ?_
    refine swp_region ?_
    refine s_pu (pu_indexAddr (xo + k * 1) rfl rfl (by omega) (by omega) (by rw [Int.toNat_natCast])) ?_
    refine s_rd (rd_ro rfl hxc) ?_
    refine s_pu (pu_assign rfl) ?_
    refine swl_sub _ (.cons (t := 0) rfl (.cons (t := 4) rfl (.cons (t := 5) rfl (.cons (t := 6) rfl (.cons (t := 7) rfl .nil))))) ?_
    refine swl_nil ?_
    refine then_n ?_
    refine swp_seq ?_
    refine swp_region ?_
    refine s_pu (pu_move rfl) ?_
    refine s_pu (pu_move rfl) ?_
    refine s_ef (ef_yield (hy (xs.take k) x hok) rfl rfl (by repeat (first | exact Split.nil | (apply Split.cons; (repeat (first | with_reducible exact Take.here | apply Take.there)))))) ?_
    rintro v1 L1 (⟨rfl, rfl⟩ | ⟨rfl, rfl⟩)
    · skip
      refine swl_app ?_
      refine s_pu (pu_not rfl) ?_
      refine swl_sub _ (.cons (t := 0) rfl (.cons (t := 5) rfl (.cons (t := 6) rfl (.cons (t := 7) rfl (.cons (t := 14) rfl .nil))))) ?_
      refine swl_nil ?_
      refine then_n ?_
      refine swp_cond (b := _) rfl (fun h14 => by cases h14) (fun h14 => ?_)
      refine swp_skip ?_
      refine block_n ?_
      refine then_n ?_
      refine swp_region ?_
      refine s_pu (pu_add_as ((k + 1 : Nat) : Int) rfl rfl (by omega) (by omega) (by omega)) ?_
      refine s_pu (pu_move rfl) ?_
      refine swl_sub _ (.cons (t := 0) rfl (.cons (t := 5) rfl (.cons (t := 6) rfl (.cons (t := 7) rfl .nil)))) ?_
      refine swl_nil ?_
      exact then_n ⟨k + 1, ⟨rfl, by rw [List.take_add_one, hx]; rfl, h8'⟩, by omega⟩
    · skip
      refine swl_app ?_
      refine s_pu (pu_not rfl) ?_
      refine swl_sub _ (.cons (t := 0) rfl (.cons (t := 5) rfl (.cons (t := 6) rfl (.cons (t := 7) rfl (.cons (t := 14) rfl .nil))))) ?_
      refine swl_nil ?_
      refine then_n ?_
      refine swp_cond (b := _) rfl (fun h14 => ?_) (fun h14 => by cases h14)
      refine swp_ret ?_
      refine block_r ?_
      refine then_r ?_
      refine then_r ?_
      refine block_r ?_
      exact done_ret [X] .nil (.inr rfl) (by repeat (first | exact Split.nil | (apply Split.cons; (repeat (first | with_reducible exact Take.here | apply Take.there)))))
  · skip   -- 8 F
    have h8' := of_decide_eq_false h8
    obtain rfl : k = xs.length := by omega
    rw [List.take_length]
    refine swp_exit ?_
    refine then_x ?_
    refine then_x ?_
    refine block_hit rfl ?_
    exact done_end [I xs, ro μ] .nil (.inl ⟨xs, rfl, rfl⟩) (by repeat (first | exact Split.nil | (apply Split.cons; (repeat (first | with_reducible exact Take.here | apply Take.there)))))
theorem ints_one (xs : List Int) (x : Int) : xs.flatMap (icsk .i64) ++ [.int .i64 x] = (xs ++ [x]).flatMap (icsk .i64) := by rw [List.flatMap_append]; rfl
theorem appseq_spec (μ : PH) (b : Nat) (v : Value) (xs : List Int) (hb : CellAt μ b 0 v) (hv : Row μ v 1 xs.length (xs.flatMap (icsk .i64))) (hl : xs.length ≤ 17592186043904) :
    Spec Try.prog 35 [.slice none 0 0, .func (.func 34) #[] #[.pointer (some ⟨b, 0, none⟩)]] [ro μ] (fun r L => L = [own 3 1 r xs.length (xs.flatMap (icsk .i64)), ro μ]) := by
  refine Spec.of 13 Try.func35 rfl rfl rfl ?_
  refine swp_seq ?_
  refine swp_region ?_
  refine s_ef (ef_box rfl rfl) ?_
  intro b2
  refine s_pu (pu_assign rfl) ?_
  refine swl_sub _ (.cons (t := 1) rfl (.cons (t := 2) rfl .nil)) ?_
  refine swl_ent (own_nil_ent (e := 3) (n := 1)) ?_
  refine swl_nil ?_
  refine then_n ?_
  refine swp_seq ?_
  refine swp_seq ?_
  refine swp_region ?_
  refine s_pu (pu_move rfl) ?_
  refine swl_sub _ (.cons (t := 2) rfl (.cons (t := 6) rfl .nil)) ?_
  refine swl_nil ?_
  refine then_n ?_
  refine swp_block ?_
  refine swp_rangeG (values_iter μ b v xs hb hv) (B := [own 3 1 (.slice none 0 0) 0 [], blk b2 22 [.slice none 0 0]]) (fun pre => exA fun u : Value => [blk b2 22 [u], own 3 1 u pre.length (pre.flatMap (icsk .i64))]) (fun _ => False) (fun _ _ => False) rfl rfl (fun _ => rfl) (Split.ent (by repeat (first | exact Split.nil | (apply Split.cons; (repeat (first | with_reducible exact Take.here | apply Take.there)))))) (Ent.swap.trans (ent_ex1 (F := fun u : Value => [blk b2 22 [u], own 3 1 u ([] : List Int).length (([] : List Int).flatMap (icsk .i64))]) (.slice none 0 0))) ?_ ?_ ?_ ?_
  · skip
    rintro ln pre x ⟨post, hpost⟩
    refine swp_ent star2 ?_
    refine swp_ex fun u => ?_
    refine swp_app ?_
    have hpl : pre.length < xs.length := by rw [hpost]; simp
    refine swp_front (A := own 3 1 u pre.length (pre.flatMap (icsk .i64))) (by repeat (first | with_reducible exact Take.here | apply Take.there)) ?_
    refine swp_fact (fun m h => own_form h) fun ⟨A, cap, hu⟩ => ?_
    subst hu
    refine swp_region ?_
    refine s_pu (pu_assign rfl) ?_
    refine swl_sub _ (.cons (t := 2) rfl (.cons (t := 5) rfl .nil)) ?_
    refine swl_nil ?_
    refine then_n ?_
    refine swp_block ?_
    refine swp_region ?_
    refine s_rd (rd_load rfl rfl) ?_
    refine s_pu (pu_move rfl) ?_
    refine s_ef (ef_bldS (qs := [(0, _)]) rfl rfl rfl) ?_
    intro b10
    refine s_ef (ef_append_lit (l := pre.length) (m := 1) rfl rfl (by repeat (first | exact Split.nil | (apply Split.cons; (repeat (first | with_reducible exact Take.here | apply Take.there))))) (by simp only [maxLen]; omega) (by omega)) ?_
    rintro v' hv'
    obtain ⟨g, cap', rfl⟩ := hv' (by omega)
    refine s_ef0 (ef_store rfl rfl rfl) ?_
    refine swl_sub _ .nil ?_
    rw [ints_one]
    refine swl_nil ?_
    refine block_n ?_
    refine rnd_n ?_
    refine (Split.ent' (K := [blk b2 22 [.slice (some ⟨g, 0, none⟩) (pre.length + 1) cap'], own 3 1 (.slice (some ⟨g, 0, none⟩) (pre.length + 1) cap') (pre.length + 1) ((pre ++ [x]).flatMap (icsk .i64)), ro μ]) (by repeat (first | exact Split.nil | (apply Split.cons; (repeat (first | with_reducible exact Take.here | apply Take.there)))))).trans ?_
    have e := ent_ex (F := fun u : Value => [blk b2 22 [u], own 3 1 u (pre ++ [x]).length ((pre ++ [x]).flatMap (icsk .i64))]) (L := [blk b2 22 [.slice (some ⟨g, 0, none⟩) (pre.length + 1) cap'], own 3 1 (.slice (some ⟨g, 0, none⟩) (pre.length + 1) cap') (pre ++ [x]).length ((pre ++ [x]).flatMap (icsk .i64)), ro μ]) (R := [ro μ]) (.slice (some ⟨g, 0, none⟩) (pre.length + 1) cap') (by repeat (first | exact Split.nil | (apply Split.cons; (repeat (first | with_reducible exact Take.here | apply Take.there)))))
    rw [List.length_append, List.length_singleton] at e
    refine e.trans ?_
    rw [show pre.length + 1 = (pre ++ [x]).length by simp]
    exact star_close1
  · skip
    rintro ys rfl
    refine block_n ?_
    refine then_n ?_
    refine swp_seq ?_
    refine swp_ex fun u => ?_
    refine swp_app ?_
    refine swp_region ?_
    refine s_rd (rd_load rfl rfl) ?_
    refine s_pu (pu_assign rfl) ?_
    refine swl_sub _ (.cons (t := 4) rfl .nil) ?_
    refine swl_nil ?_
    refine then_n ?_
    refine swp_ret ?_
    exact done_ret [own 3 1 u ys.length (ys.flatMap (icsk .i64)), ro μ] (.tmp rfl .nil) rfl (by repeat (first | exact Split.nil | (apply Split.cons; (repeat (first | with_reducible exact Take.here | apply Take.there)))))
  · exact swp_fact (p := False) (fun m h => by obtain ⟨_, _, h, _⟩ := h; exact h) False.elim
  · exact fun i => swp_fact (p := False) (fun m h => by obtain ⟨_, _, h, _⟩ := h; exact h) False.elim
theorem collect_spec (μ : PH) (b : Nat) (v : Value) (xs : List Int) (hb : CellAt μ b 0 v) (hv : Row μ v 1 xs.length (xs.flatMap (icsk .i64))) (hl : xs.length ≤ 17592186043904) :
    Spec Try.prog 32 [.func (.func 34) #[] #[.pointer (some ⟨b, 0, none⟩)]] [ro μ] (fun r L => L = [own 3 1 r xs.length (xs.flatMap (icsk .i64)), ro μ]) := by
  refine Spec.of 5 Try.func32 rfl rfl rfl ?_
  refine swp_seq ?_
  refine swp_region ?_
  refine s_pu (pu_assign rfl) ?_
  refine swl_sub _ (.cons (t := 0) rfl .nil) ?_
  refine swl_nil ?_
  refine then_n ?_
  refine swp_seq ?_
  refine swp_region ?_
  refine s_pu (pu_move rfl) ?_
  refine s_ef (ef_fn (appseq_spec μ b v xs hb hv hl) rfl rfl (by repeat (first | exact Split.nil | (apply Split.cons; (repeat (first | with_reducible exact Take.here | apply Take.there)))))) ?_
  rintro v1 L1 rfl
  refine swl_app ?_
  refine s_pu (pu_assign rfl) ?_
  refine swl_sub _ (.cons (t := 2) rfl .nil) ?_
  refine swl_nil ?_
  refine then_n ?_
  refine swp_ret ?_
  exact done_ret [own 3 1 v1 xs.length (xs.flatMap (icsk .i64)), ro μ] (.tmp rfl .nil) rfl (by repeat (first | exact Split.nil | (apply Split.cons; (repeat (first | with_reducible exact Take.here | apply Take.there)))))
/-- a copy of a slice that may be read -/
theorem clone_ro (μ : PH) (v : Value) (xs : List Int) (hv : Row μ v 1 xs.length (xs.flatMap (icsk .i64))) (hl : xs.length ≤ 17592186043904) :
    Spec Try.prog 27 [v] [ro μ] (fun r L => L = [own 3 1 r xs.length (xs.flatMap (icsk .i64)), ro μ]) := by
  obtain ⟨A, cap, rfl⟩ := hv.sl
  refine Spec.of 8 Try.func27 rfl rfl rfl ?_
  refine swp_seq ?_
  refine swp_region ?_
  refine s_pu (pu_assign rfl) ?_
  refine swl_sub _ (.cons (t := 0) rfl .nil) ?_
  refine swl_nil ?_
  refine then_n ?_
  refine swp_seq ?_
  refine swp_seq ?_
  refine swp_region ?_
  refine s_pu (pu_move rfl) ?_
  refine s_pu (pu_sl_eq_nil rfl rfl) ?_
  refine swl_sub _ (.cons (t := 0) rfl (.cons (t := 4) rfl .nil)) ?_
  refine swl_nil ?_
  refine then_n ?_
  refine swp_cond (b := _) rfl (fun h4 => ?_) (fun h4 => ?_)
  · skip   -- 4 T
    refine swp_seq ?_
    refine swp_region ?_
    refine s_pu (pu_assign rfl) ?_
    refine swl_sub _ (.cons (t := 2) rfl .nil) ?_
    refine swl_nil ?_
    refine then_n ?_
    refine swp_ret ?_
    refine then_r ?_
    have hA : A = none := by cases A <;> simp_all
    subst hA
    have h0 : xs = [] := by
      cases xs with
      | nil => rfl
      | cons x l => obtain ⟨b, o, c, h, _⟩ := hv.pos (by simp); cases h
    subst h0
    exact done_retE [own 3 1 (.slice none 0 0) 0 [], ro μ] (.tmp rfl .nil) rfl own_nil_ent
  · skip   -- 4 F
    refine swp_skip ?_
    refine then_n ?_
    refine swp_seq ?_
    refine swp_region ?_
    refine s_ef (ef_bldS (qs := []) rfl rfl rfl) ?_
    intro b5
    refine s_pu (pu_move rfl) ?_
    refine swl_ent (own_empty (n := 1)) ?_
    refine s_ef (ef_append_ro hv rfl rfl (by repeat (first | exact Split.nil | (apply Split.cons; (repeat (first | with_reducible exact Take.here | apply Take.there))))) (icsk_one _) (by simp only [maxLen]; omega) (by omega)) ?_
    rintro v7 -
    rw [Nat.zero_add, List.nil_append]
    refine s_pu (pu_assign rfl) ?_
    refine swl_sub _ (.cons (t := 2) rfl .nil) ?_
    refine swl_nil ?_
    refine then_n ?_
    refine swp_ret ?_
    exact done_ret [own 3 1 v7 xs.length (xs.flatMap (icsk .i64)), ro μ] (.tmp rfl .nil) rfl (by repeat (first | exact Split.nil | (apply Split.cons; (repeat (first | with_reducible exact Take.here | apply Take.there)))))
end SX
namespace SX
open Go Go.Proofs

/-- the library's sort does what it says -/
def SortOk : Prop := ∀ (v : Value) (xs : List Int), xs.length ≤ 17592186043904 → Spec Try.prog 33 [v] [own 3 1 v xs.length (xs.flatMap (icsk .i64))] (fun r L => r = .tuple #[] ∧ L = [own 3 1 v xs.length ((srt xs).flatMap (icsk .i64))])
theorem sorted_spec (hS : SortOk) (μ : PH) (b : Nat) (v : Value) (xs : List Int) (hb : CellAt μ b 0 v) (hv : Row μ v 1 xs.length (xs.flatMap (icsk .i64))) (hl : xs.length ≤ 17592186043904) :
    Spec Try.prog 30 [.func (.func 34) #[] #[.pointer (some ⟨b, 0, none⟩)]] [ro μ] (fun r L => L = [own 3 1 r xs.length ((srt xs).flatMap (icsk .i64)), ro μ]) := by
  refine Spec.of 9 Try.func30 rfl rfl rfl ?_
  refine swp_seq ?_
  refine swp_region ?_
  refine s_pu (pu_assign rfl) ?_
  refine swl_sub _ (.cons (t := 0) rfl .nil) ?_
  refine swl_nil ?_
  refine then_n ?_
  refine swp_seq ?_
  refine swp_region ?_
  refine s_pu (pu_move rfl) ?_
  refine s_ef (ef_fn (collect_spec μ b v xs hb hv hl) rfl rfl (by repeat (first | exact Split.nil | (apply Split.cons; (repeat (first | with_reducible exact Take.here | apply Take.there)))))) ?_
  rintro v5 L1 rfl
  refine swl_app ?_
  refine s_pu (pu_assign rfl) ?_
  refine swl_sub _ (.cons (t := 3) rfl .nil) ?_
  refine swl_nil ?_
  refine then_n ?_
  refine swp_seq ?_
  refine swp_region ?_
  refine s_pu (pu_move rfl) ?_
  refine s_ef (ef_fn (hS v5 xs hl) rfl rfl (by repeat (first | exact Split.nil | (apply Split.cons; (repeat (first | with_reducible exact Take.here | apply Take.there)))))) ?_
  rintro v7 L1 ⟨rfl, rfl⟩
  refine swl_app ?_
  refine swl_sub _ (.cons (t := 3) rfl .nil) ?_
  refine swl_nil ?_
  refine then_n ?_
  refine swp_seq ?_
  refine swp_region ?_
  refine s_pu (pu_move rfl) ?_
  refine s_pu (pu_assign rfl) ?_
  refine swl_sub _ (.cons (t := 2) rfl .nil) ?_
  refine swl_nil ?_
  refine then_n ?_
  refine swp_ret ?_
  exact done_ret [own 3 1 v5 xs.length ((srt xs).flatMap (icsk .i64)), ro μ] (.tmp rfl .nil) rfl (by repeat (first | exact Split.nil | (apply Split.cons; (repeat (first | with_reducible exact Take.here | apply Take.there)))))
set_option maxHeartbeats 1000000 in
theorem fit_spec (hS : SortOk) (μ : PH) (v : Value) (xs : List Int) (n : Nat) (hv : Row μ v 1 xs.length (xs.flatMap (icsk .i64))) (hl : xs.length ≤ 17592186043904) (_hn : n ≤ 1099511627776) :
    Spec Try.prog 28 [v, .int .i64 (n : Nat)] [ro μ] (fun r L => r = .bool (okRow n xs) ∧ ∃ μ', Le μ μ' ∧ L = [ro μ']) := by
  rw [← okRow_perm (srt_perm xs)]
  have hsl := srt_len xs
  refine Spec.of 39 Try.func28 rfl rfl rfl ?_
  refine swp_seq ?_
  refine swp_region ?_
  refine s_pu (pu_assign rfl) ?_
  refine swl_sub _ (.cons (t := 0) rfl (.cons (t := 1) rfl .nil)) ?_
  refine swl_nil ?_
  refine then_n ?_
  refine swp_seq ?_
  refine swp_region ?_
  refine s_pu (pu_move rfl) ?_
  refine s_ef (ef_fn (values_spec μ v (by obtain ⟨A, c, h⟩ := hv.sl; exact ⟨A, _, c, h⟩)) rfl rfl (by repeat (first | exact Split.nil | (apply Split.cons; (repeat (first | with_reducible exact Take.here | apply Take.there)))))) ?_
  rintro v9 L1 ⟨b, μ', rfl, h1, hb, rfl⟩
  refine swl_app ?_
  refine s_ef (ef_fn (sorted_spec hS μ' b v xs hb (hv.le h1) hl) rfl rfl (by repeat (first | exact Split.nil | (apply Split.cons; (repeat (first | with_reducible exact Take.here | apply Take.there)))))) ?_
  rintro v10 L1 rfl
  refine swl_app ?_
  rw [← hsl]
  generalize hys : srt xs = ys at *
  have hsort : ys.Pairwise (· ≤ ·) := hys ▸ mergeSort_le xs
  refine swl_fact (fun m h => own_shape .here h) fun hsh => ?_
  have hform : ∃ A cap, v10 = .slice A ys.length cap := by
    rcases hsh with ⟨h1, h2⟩ | ⟨b, cap, h1, _⟩
    · exact ⟨none, 0, by rw [h1, h2]⟩
    · exact ⟨_, _, h1⟩
  refine s_pu (pu_assign rfl) ?_
  refine swl_sub _ (.cons (t := 1) rfl (.cons (t := 5) rfl .nil)) ?_
  refine swl_nil ?_
  refine then_n ?_
  refine swp_seq ?_
  refine swp_seq ?_
  refine swp_region ?_
  refine s_pu (pu_move rfl) ?_
  refine s_pu (pu_len_own hform rfl) ?_
  refine s_pu (pu_move rfl) ?_
  refine swl_sub _ (.cons (t := 1) rfl (.cons (t := 5) rfl (.cons (t := 11) rfl (.cons (t := 12) rfl (.cons (t := 13) rfl .nil))))) ?_
  refine swl_nil ?_
  refine then_n ?_
  refine swp_block ?_
  refine swp_loop (ι := Nat) (fun i env L => env = [(1, .int .i64 (n : Nat)), (5, v10), (11, v10), (12, .int .i64 (ys.length : Nat)), (13, .int .i64 (i : Nat))] ∧ L = [own 3 1 v10 ys.length (ys.flatMap (icsk .i64)), ro μ'] ∧ i ≤ ys.length ∧ ∀ (j : Nat) (p : Int), j < i → ys[j]? = some p → 0 ≤ p ∧ p < n ∧ (0 < j → ys[j - 1]? ≠ some p)) (fun i => ys.length - i) 0 ⟨rfl, rfl, Nat.zero_le _, fun j p h => by omega⟩ ?_
  rintro i env L ⟨rfl, rfl, hi, hok⟩
  refine swp_seq ?_
  refine swp_region ?_
  refine s_pu (pu_lss rfl rfl) ?_
  refine swl_sub _ (.cons (t := 1) rfl (.cons (t := 5) rfl (.cons (t := 11) rfl (.cons (t := 12) rfl (.cons (t := 13) rfl (.cons (t := 14) rfl .nil)))))) ?_
  refine swl_nil ?_
  refine then_n ?_
  refine swp_seq ?_
  refine swp_cond (b := _) rfl (fun h14 => ?_) (fun h14 => ?_)
  · skip   -- 14 T
    have h14' : i < ys.length := by have := of_decide_eq_true h14; omega
    obtain ⟨x, hx⟩ : ∃ x, ys[i]? = some x := ⟨_, List.getElem?_eq_getElem h14'⟩
    obtain ⟨bb, cc, hv10⟩ : ∃ b cap, v10 = .slice (some ⟨b, 0, none⟩) ys.length cap := by
      rcases hsh with ⟨_, h2⟩ | ⟨b, cap, h1, _⟩
      · omega
      · exact ⟨b, cap, h1⟩
    subst hv10
    have hget : ∀ (j : Nat) (y : Int), ys[j]? = some y → (ys.flatMap (icsk .i64))[j]? = some (.int .i64 y) := fun j y hy => by
      have := flat_get (icsk_len .i64) ys [] j y hy 0 (.int .i64 y) rfl
      rwa [List.append_nil, Nat.mul_one] at this
    refine swp_skip ?_
    refine then_n ?_
    refine swp_seq ?_
    refine swp_block ?_
    refine swp_seq ?_
    refine swp_region ?_
    refine s_pu (pu_move rfl) ?_
    refine s_pu (pu_indexAddr i rfl rfl (by omega) (by omega) (by omega)) ?_
    refine s_rd (rd_of_ld rfl (ld_own .here (hget i x hx))) ?_
    refine s_pu (pu_assign rfl) ?_
    refine s_pu (pu_assign rfl) ?_
    refine swl_sub _ (.cons (t := 1) rfl (.cons (t := 5) rfl (.cons (t := 6) rfl (.cons (t := 7) rfl (.cons (t := 11) rfl (.cons (t := 12) rfl (.cons (t := 13) rfl .nil))))))) ?_
    refine swl_nil ?_
    refine then_n ?_
    refine swp_seq ?_
    refine swp_region ?_
    refine s_pu (pu_move rfl) ?_
    refine s_pu (pu_lss rfl rfl) ?_
    refine s_pu (pu_move rfl) ?_
    refine s_split 20 rfl (fun h20 => ?_) (fun h20 => ?_)
    · skip   -- 20 T
      refine s_off rfl rfl rfl ?_
      refine s_off rfl rfl rfl ?_
      refine s_off rfl rfl rfl ?_
      first | refine s_pu (pu_pick_t rfl rfl) ?_ | refine s_pu (pu_pick_f rfl rfl) ?_
      refine s_pu (pu_move rfl) ?_
      refine s_split 25 rfl (fun h25 => ?_) (fun h25 => by cases h25)
      refine s_off rfl rfl rfl ?_
      refine s_off rfl rfl rfl ?_
      refine s_off rfl rfl rfl ?_
      refine s_off rfl rfl rfl ?_
      refine s_off rfl rfl rfl ?_
      refine s_off rfl rfl rfl ?_
      refine s_off rfl rfl rfl ?_
      refine s_off rfl rfl rfl ?_
      refine s_off rfl rfl rfl ?_
      refine s_off rfl rfl rfl ?_
      refine s_off rfl rfl rfl ?_
      first | refine s_pu (pu_pick_t rfl rfl) ?_ | refine s_pu (pu_pick_f rfl rfl) ?_
      refine swl_sub _ (.cons (t := 1) rfl (.cons (t := 5) rfl (.cons (t := 11) rfl (.cons (t := 12) rfl (.cons (t := 13) rfl (.cons (t := 37) rfl .nil)))))) ?_
      refine swl_nil ?_
      refine then_n ?_
      refine swp_cond (b := _) rfl (fun h37 => ?_) (fun h37 => by cases h37)
      refine swp_seq ?_
      refine swp_region ?_
      refine s_pu (pu_assign rfl) ?_
      refine swl_sub _ (.cons (t := 4) rfl .nil) ?_
      refine swl_nil ?_
      refine then_n ?_
      refine swp_ret ?_
      refine block_r ?_
      refine then_r ?_
      refine then_r ?_
      refine block_r ?_
      refine then_r ?_
      exact done_ret [ro μ'] (.tmp rfl .nil) ⟨by rw [sorted_not n hx (.inl (of_decide_eq_true h20))]; rfl, μ', h1, rfl⟩ (by repeat (first | exact Split.nil | (apply Split.cons; (repeat (first | with_reducible exact Take.here | apply Take.there)))))
    · skip   -- 20 F
      refine s_on rfl rfl ?_
      refine s_pu (pu_move rfl) ?_
      refine s_on rfl rfl ?_
      refine s_pu (pu_move rfl) ?_
      refine s_on rfl rfl ?_
      refine s_pu (pu_geq rfl rfl) ?_
      first | refine s_pu (pu_pick_t rfl rfl) ?_ | refine s_pu (pu_pick_f rfl rfl) ?_
      refine s_pu (pu_move rfl) ?_
      refine s_split 25 rfl (fun h25 => ?_) (fun h25 => ?_)
      · skip   -- 25 T
        refine s_off rfl rfl rfl ?_
        refine s_off rfl rfl rfl ?_
        refine s_off rfl rfl rfl ?_
        refine s_off rfl rfl rfl ?_
        refine s_off rfl rfl rfl ?_
        refine s_off rfl rfl rfl ?_
        refine s_off rfl rfl rfl ?_
        refine s_off rfl rfl rfl ?_
        refine s_off rfl rfl rfl ?_
        refine s_off rfl rfl rfl ?_
        refine s_off rfl rfl rfl ?_
        first | refine s_pu (pu_pick_t rfl rfl) ?_ | refine s_pu (pu_pick_f rfl rfl) ?_
        refine swl_sub _ (.cons (t := 1) rfl (.cons (t := 5) rfl (.cons (t := 11) rfl (.cons (t := 12) rfl (.cons (t := 13) rfl (.cons (t := 37) rfl .nil)))))) ?_
        refine swl_nil ?_
        refine then_n ?_
        refine swp_cond (b := _) rfl (fun h37 => ?_) (fun h37 => by cases h37)
        refine swp_seq ?_
        refine swp_region ?_
        refine s_pu (pu_assign rfl) ?_
        refine swl_sub _ (.cons (t := 4) rfl .nil) ?_
        refine swl_nil ?_
        refine then_n ?_
        refine swp_ret ?_
        refine block_r ?_
        refine then_r ?_
        refine then_r ?_
        refine block_r ?_
        refine then_r ?_
        exact done_ret [ro μ'] (.tmp rfl .nil) ⟨by rw [sorted_not n hx (.inr (.inl (of_decide_eq_true h25)))]; rfl, μ', h1, rfl⟩ (by repeat (first | exact Split.nil | (apply Split.cons; (repeat (first | with_reducible exact Take.here | apply Take.there)))))
      · skip   -- 25 F
        refine s_on rfl rfl ?_
        refine s_pu (pu_move rfl) ?_
        refine s_on rfl rfl ?_
        refine s_pu (pu_gtr rfl rfl) ?_
        refine s_on rfl rfl ?_
        refine s_pu (pu_move rfl) ?_
        refine s_split 28 rfl (fun h28 => ?_) (fun h28 => ?_)
        · skip   -- 28 T
          have h28' : 0 < i := by have := of_decide_eq_true h28; omega
          obtain ⟨y, hy⟩ : ∃ y, ys[i - 1]? = some y := ⟨_, List.getElem?_eq_getElem (by omega)⟩
          refine s_on rfl rfl ?_
          refine s_pu (pu_move rfl) ?_
          refine s_on rfl rfl ?_
          refine s_pu (pu_move rfl) ?_
          refine s_on rfl rfl ?_
          refine s_pu (pu_move rfl) ?_
          refine s_on rfl rfl ?_
          refine s_pu (pu_sub_as ((i - 1 : Nat) : Int) rfl rfl (by omega) (by omega) (by omega)) ?_
          refine s_on rfl rfl ?_
          refine s_pu (pu_indexAddr (i - 1) rfl rfl (by omega) (by omega) (by omega)) ?_
          refine s_on rfl rfl ?_
          refine s_rd (rd_of_ld rfl (ld_own .here (hget (i - 1) y hy))) ?_
          refine s_on rfl rfl ?_
          refine s_pu (pu_eql rfl rfl) ?_
          refine s_on rfl rfl ?_
          first | refine s_pu (pu_pick_t rfl rfl) ?_ | refine s_pu (pu_pick_f rfl rfl) ?_
          first | refine s_pu (pu_pick_t rfl rfl) ?_ | refine s_pu (pu_pick_f rfl rfl) ?_
          refine swl_sub _ (.cons (t := 1) rfl (.cons (t := 5) rfl (.cons (t := 11) rfl (.cons (t := 12) rfl (.cons (t := 13) rfl (.cons (t := 37) rfl .nil)))))) ?_
          refine swl_nil ?_
          refine then_n ?_
          refine swp_cond (b := _) rfl (fun h37 => ?_) (fun h37 => ?_)
          · skip   -- 37 T
            refine swp_seq ?_
            refine swp_region ?_
            refine s_pu (pu_assign rfl) ?_
            refine swl_sub _ (.cons (t := 4) rfl .nil) ?_
            refine swl_nil ?_
            refine then_n ?_
            refine swp_ret ?_
            refine block_r ?_
            refine then_r ?_
            refine then_r ?_
            refine block_r ?_
            refine then_r ?_
            have h37' := of_decide_eq_true h37
            exact done_ret [ro μ'] (.tmp rfl .nil) ⟨by rw [sorted_not n hx (.inr (.inr ⟨h28', by rw [hy, h37']⟩))]; rfl, μ', h1, rfl⟩ (by repeat (first | exact Split.nil | (apply Split.cons; (repeat (first | with_reducible exact Take.here | apply Take.there)))))
          · skip   -- 37 F
            refine swp_skip ?_
            refine block_n ?_
            refine then_n ?_
            refine swp_region ?_
            refine s_pu (pu_add_as ((i + 1 : Nat) : Int) rfl rfl (by omega) (by omega) (by omega)) ?_
            refine s_pu (pu_move rfl) ?_
            refine swl_sub _ (.cons (t := 1) rfl (.cons (t := 5) rfl (.cons (t := 11) rfl (.cons (t := 12) rfl (.cons (t := 13) rfl .nil))))) ?_
            refine swl_nil ?_
            have h20' := of_decide_eq_false h20
            have h25' := of_decide_eq_false h25
            have h37' := of_decide_eq_false h37
            exact then_n ⟨i + 1, ⟨rfl, rfl, h14', fun j p hj hp => by
              by_cases e : j = i
              · subst e
                rw [hx] at hp
                obtain rfl := Option.some.inj hp
                exact ⟨by omega, by omega, fun _ h => by rw [hy] at h; exact h37' (Option.some.inj h).symm⟩
              · exact hok j p (by omega) hp⟩, by omega⟩
        · skip   -- 28 F
          refine s_off rfl rfl rfl ?_
          refine s_off rfl rfl rfl ?_
          refine s_off rfl rfl rfl ?_
          refine s_off rfl rfl rfl ?_
          refine s_off rfl rfl rfl ?_
          refine s_off rfl rfl rfl ?_
          refine s_off rfl rfl rfl ?_
          refine s_on rfl rfl ?_
          first | refine s_pu (pu_pick_t rfl rfl) ?_ | refine s_pu (pu_pick_f rfl rfl) ?_
          first | refine s_pu (pu_pick_t rfl rfl) ?_ | refine s_pu (pu_pick_f rfl rfl) ?_
          refine swl_sub _ (.cons (t := 1) rfl (.cons (t := 5) rfl (.cons (t := 11) rfl (.cons (t := 12) rfl (.cons (t := 13) rfl (.cons (t := 37) rfl .nil)))))) ?_
          refine swl_nil ?_
          refine then_n ?_
          refine swp_cond (b := _) rfl (fun h37 => by cases h37) (fun h37 => ?_)
          refine swp_skip ?_
          refine block_n ?_
          refine then_n ?_
          refine swp_region ?_
          refine s_pu (pu_add_as ((i + 1 : Nat) : Int) rfl rfl (by omega) (by omega) (by omega)) ?_
          refine s_pu (pu_move rfl) ?_
          refine swl_sub _ (.cons (t := 1) rfl (.cons (t := 5) rfl (.cons (t := 11) rfl (.cons (t := 12) rfl (.cons (t := 13) rfl .nil))))) ?_
          refine swl_nil ?_
          have h20' := of_decide_eq_false h20
          have h25' := of_decide_eq_false h25
          have h28' := of_decide_eq_false h28
          exact then_n ⟨i + 1, ⟨rfl, rfl, h14', fun j p hj hp => by
            by_cases e : j = i
            · subst e
              rw [hx] at hp
              obtain rfl := Option.some.inj hp
              exact ⟨by omega, by omega, fun h => by omega⟩
            · exact hok j p (by omega) hp⟩, by omega⟩
  · skip   -- 14 F
    have h14' := of_decide_eq_false h14
    obtain rfl : i = ys.length := by omega
    refine swp_exit ?_
    refine then_x ?_
    refine then_x ?_
    refine block_hit rfl ?_
    refine then_n ?_
    refine swp_seq ?_
    refine swp_region ?_
    refine s_pu (pu_assign rfl) ?_
    refine swl_sub _ (.cons (t := 4) rfl .nil) ?_
    refine swl_nil ?_
    refine then_n ?_
    refine swp_ret ?_
    exact done_ret [ro μ'] (.tmp rfl .nil) ⟨by rw [sorted_ok n hsort fun j p hp => hok j p (List.getElem?_eq_some_iff.1 hp).1 hp]; rfl, μ', h1, rfl⟩ (by repeat (first | exact Split.nil | (apply Split.cons; (repeat (first | with_reducible exact Take.here | apply Take.there)))))
end SX
namespace SX
open Go Go.Proofs

def AnsG (μ : PH) (E : Int) (l : List Int) (r : Value) (L : List Assn) : Prop := ∃ lv μ', r = .tuple #[lv, .int .i64 E] ∧ Le μ μ' ∧ L = [own 3 1 lv l.length (l.flatMap (icsk .i64)), ro μ']
set_option maxHeartbeats 2000000 in
theorem more_spec (hS : SortOk) (μ : PH) (vk vg : Value) (K : List Int) (G : List (Value × List Int)) (hk : Row μ vk 1 K.length (K.flatMap (icsk .i64))) (hG : Graph μ vg G) (hl : K.length ≤ 1048576) (hn : G.length ≤ 1048576) (hrows : ∀ x ∈ G, x.2.length ≤ 17592186043904) :
    Spec Try.prog 22 [vk, vg] [ro μ] (AnsG μ (moreE K (nums G)) (moreL K (nums G))) := by
  have hln : (nums G).length = G.length := List.length_map _
  refine Spec.of 50 Try.func22 rfl rfl rfl ?_
  refine swp_seq ?_
  refine swp_region ?_
  refine s_pu (pu_assign rfl) ?_
  refine s_pu (pu_assign rfl) ?_
  refine swl_sub _ (.cons (t := 0) rfl (.cons (t := 1) rfl .nil)) ?_
  refine swl_nil ?_
  refine then_n ?_
  refine swp_seq ?_
  refine swp_region ?_
  refine s_pu (pu_move rfl) ?_
  refine s_ef (ef_fn (clone_ro μ vk K hk (by omega)) rfl rfl (by repeat (first | exact Split.nil | (apply Split.cons; (repeat (first | with_reducible exact Take.here | apply Take.there)))))) ?_
  rintro v13 L1 rfl
  refine swl_app ?_
  refine s_pu (pu_assign rfl) ?_
  refine swl_sub _ (.cons (t := 0) rfl (.cons (t := 1) rfl (.cons (t := 6) rfl .nil))) ?_
  refine swl_nil ?_
  refine then_n ?_
  refine swp_seq ?_
  refine swp_seq ?_
  refine swp_region ?_
  refine s_pu (pu_move rfl) ?_
  refine s_pu (pu_len_row hG.1 rfl) ?_
  refine s_pu (pu_move rfl) ?_
  refine swl_sub _ (.cons (t := 0) rfl (.cons (t := 6) rfl (.cons (t := 14) rfl (.cons (t := 15) rfl (.cons (t := 16) rfl .nil))))) ?_
  refine swl_nil ?_
  refine then_n ?_
  refine swp_block ?_
  refine swp_loop (ι := Nat × Value × List Int × PH) (fun k env L => env = [(0, vk), (6, k.2.1), (14, vg), (15, .int .i64 (G.length : Nat)), (16, .int .i64 (k.1 : Nat))] ∧ L = [own 3 1 k.2.1 k.2.2.1.length (k.2.2.1.flatMap (icsk .i64)), ro k.2.2.2] ∧ k.1 ≤ G.length ∧ Le μ k.2.2.2 ∧ moreG K ((nums G).take k.1) = some k.2.2.1) (fun k => G.length - k.1) (0, v13, K, μ) ⟨rfl, rfl, Nat.zero_le _, Le.refl _, rfl⟩ ?_
  rintro ⟨i, v6, a, μi⟩ env L ⟨rfl, rfl, hi, hle, ha⟩
  dsimp only at hi hle ha ⊢
  have hal := (moreG_len ha).1
  rw [List.length_take, hln, Nat.min_eq_left hi] at hal
  refine swp_fact (fun m h => own_shape .here h) fun hsh => ?_
  have hform : ∃ A cap, v6 = .slice A a.length cap := by
    rcases hsh with ⟨h1, h2⟩ | ⟨b, cap, h1, _⟩
    · exact ⟨none, 0, by rw [h1, h2]⟩
    · exact ⟨_, _, h1⟩
  refine swp_seq ?_
  refine swp_region ?_
  refine s_pu (pu_lss rfl rfl) ?_
  refine swl_sub _ (.cons (t := 0) rfl (.cons (t := 6) rfl (.cons (t := 14) rfl (.cons (t := 15) rfl (.cons (t := 16) rfl (.cons (t := 17) rfl .nil)))))) ?_
  refine swl_nil ?_
  refine then_n ?_
  refine swp_seq ?_
  refine swp_cond (b := _) rfl (fun h17 => ?_) (fun h17 => ?_)
  · skip   -- 17 T
    have h17' : i < G.length := by have := of_decide_eq_true h17; omega
    obtain ⟨gb, off, cap, x, hv, hx, hxc, hxr, hnx⟩ := row_at (hG.le hle) h17'
    have hxl := hrows x (List.mem_of_getElem? hx)
    have hnext := moreG_at ha hnx
    refine swp_skip ?_
    refine then_n ?_
    refine swp_seq ?_
    refine swp_block ?_
    refine swp_seq ?_
    refine swp_region ?_
    refine s_pu (pu_indexAddr (off + i * 1) (congrArg some hv) rfl (by omega) (by omega) (by rw [Int.toNat_natCast])) ?_
    refine s_rd (rd_ro rfl hxc) ?_
    refine s_pu (pu_assign rfl) ?_
    refine swl_sub _ (.cons (t := 0) rfl (.cons (t := 6) rfl (.cons (t := 8) rfl (.cons (t := 14) rfl (.cons (t := 15) rfl (.cons (t := 16) rfl .nil)))))) ?_
    refine swl_nil ?_
    refine then_n ?_
    refine swp_seq ?_
    refine swp_seq ?_
    refine swp_region ?_
    refine s_pu (pu_move rfl) ?_
    refine s_pu (pu_move rfl) ?_
    refine s_pu (pu_len_own hform rfl) ?_
    refine s_ef (ef_fn (fit_spec hS μi x.1 x.2 a.length hxr (by omega) (by omega)) rfl rfl (by repeat (first | exact Split.nil | (apply Split.cons; (repeat (first | with_reducible exact Take.here | apply Take.there)))))) ?_
    rintro v23 L1 ⟨rfl, μj, hij, rfl⟩
    refine swl_app ?_
    refine s_pu (pu_not rfl) ?_
    refine swl_sub _ (.cons (t := 0) rfl (.cons (t := 6) rfl (.cons (t := 8) rfl (.cons (t := 14) rfl (.cons (t := 15) rfl (.cons (t := 16) rfl (.cons (t := 24) rfl .nil))))))) ?_
    refine swl_nil ?_
    refine then_n ?_
    refine swp_cond (b := _) rfl (fun h24 => ?_) (fun h24 => ?_)
    · skip   -- 24 T
      refine swp_seq ?_
      refine swp_region ?_
      refine s_pu (pu_assign rfl) ?_
      refine s_pu (pu_assign rfl) ?_
      refine swl_sub _ (.cons (t := 4) rfl (.cons (t := 5) rfl .nil)) ?_
      refine swl_nil ?_
      refine then_n ?_
      refine swp_ret ?_
      refine then_r ?_
      refine block_r ?_
      refine then_r ?_
      refine then_r ?_
      refine block_r ?_
      refine then_r ?_
      have h24' : okRow a.length x.2 = false := by simpa using h24
      rw [if_neg (by rw [h24']; simp)] at hnext
      have hno := moreL_none (moreG_none hnext)
      rw [hno.1, hno.2]
      exact done_retE [own 3 1 (.slice none 0 0) 0 [], ro μj] (.tmp rfl (.tmp rfl .nil)) ⟨_, μj, rfl, hle.trans hij, rfl⟩ ((Split.ent' (K := [ro μj]) (by repeat (first | exact Split.nil | (apply Split.cons; (repeat (first | with_reducible exact Take.here | apply Take.there)))))).trans own_nil_ent)
    · skip   -- 24 F
      have h24' : okRow a.length x.2 = true := by simpa using h24
      rw [if_pos h24'] at hnext
      have hin := (okRow_iff.1 h24').1
      have hxrj := hxr.le hij
      have hxs := hxrj.small
      refine swp_skip ?_
      refine then_n ?_
      refine swp_seq ?_
      refine swp_region ?_
      refine s_pu (pu_assign rfl) ?_
      refine swl_sub _ (.cons (t := 0) rfl (.cons (t := 6) rfl (.cons (t := 8) rfl (.cons (t := 9) rfl (.cons (t := 14) rfl (.cons (t := 15) rfl (.cons (t := 16) rfl .nil))))))) ?_
      refine swl_ent (own_nil_ent (e := 3) (n := 1)) ?_
      refine swl_nil ?_
      refine then_n ?_
      refine swp_seq ?_
      refine swp_seq ?_
      refine swp_region ?_
      refine s_pu (pu_move rfl) ?_
      refine s_pu (pu_len_row hxrj rfl) ?_
      refine s_pu (pu_move rfl) ?_
      refine swl_sub _ (.cons (t := 0) rfl (.cons (t := 6) rfl (.cons (t := 9) rfl (.cons (t := 14) rfl (.cons (t := 15) rfl (.cons (t := 16) rfl (.cons (t := 25) rfl (.cons (t := 26) rfl (.cons (t := 27) rfl .nil))))))))) ?_
      refine swl_ent (Split.ent' (K := [own 3 1 (.slice none 0 0) 0 [], own 3 1 v6 a.length (a.flatMap (icsk .i64)), ro μj]) (by repeat (first | exact Split.nil | (apply Split.cons; (repeat (first | with_reducible exact Take.here | apply Take.there)))))) ?_
      refine swl_nil ?_
      refine then_n ?_
      refine swp_block ?_
      refine swp_sub _ (.cons (t := 0) rfl (.cons (t := 6) rfl (.cons (t := 9) rfl (.cons (t := 14) rfl (.cons (t := 15) rfl (.cons (t := 16) rfl (.cons (t := 25) rfl (.cons (t := 26) rfl (.cons (t := 27) rfl .nil))))))))) ?_
      refine swp_loop (ι := Nat × Value) (fun k env L => env = [(0, vk), (6, v6), (9, k.2), (14, vg), (15, .int .i64 (G.length : Nat)), (16, .int .i64 (i : Nat)), (25, x.1), (26, .int .i64 (x.2.length : Nat)), (27, .int .i64 (k.1 : Nat))] ∧ L = [own 3 1 k.2 k.1 ((valsG a (x.2.take k.1)).flatMap (icsk .i64)), own 3 1 v6 a.length (a.flatMap (icsk .i64)), ro μj] ∧ k.1 ≤ x.2.length) (fun k => x.2.length - k.1) (0, .slice none 0 0) ⟨rfl, rfl, Nat.zero_le _⟩ ?_
      rintro ⟨j, v9⟩ env L ⟨rfl, rfl, hj⟩
      dsimp only at hj ⊢
      refine swp_seq ?_
      refine swp_region ?_
      refine s_pu (pu_lss rfl rfl) ?_
      refine swl_sub _ (.cons (t := 0) rfl (.cons (t := 6) rfl (.cons (t := 9) rfl (.cons (t := 14) rfl (.cons (t := 15) rfl (.cons (t := 16) rfl (.cons (t := 25) rfl (.cons (t := 26) rfl (.cons (t := 27) rfl (.cons (t := 28) rfl .nil)))))))))) ?_
      refine swl_nil ?_
      refine then_n ?_
      refine swp_seq ?_
      refine swp_cond (b := _) rfl (fun h28 => ?_) (fun h28 => ?_)
      · skip   -- 28 T
        have h28' : j < x.2.length := by have := of_decide_eq_true h28; omega
        obtain ⟨y, hy⟩ : ∃ y, x.2[j]? = some y := ⟨_, List.getElem?_eq_getElem h28'⟩
        obtain ⟨yb, yo, yc, hyv, hyc⟩ := hxrj.at_ hy
        have hyin := hin y (List.mem_of_getElem? hy)
        obtain ⟨ky, rfl⟩ : ∃ k : Nat, y = k := ⟨y.toNat, by omega⟩
        obtain ⟨z, hz⟩ : ∃ z, a[ky]? = some z := ⟨_, List.getElem?_eq_getElem (by omega)⟩
        obtain ⟨ab, ac, hv6⟩ : ∃ b cap, v6 = .slice (some ⟨b, 0, none⟩) a.length cap := by
          rcases hsh with ⟨_, h2⟩ | ⟨b, cap, h1, _⟩
          · omega
          · exact ⟨b, cap, h1⟩
        have hget : (a.flatMap (icsk .i64))[ky]? = some (.int .i64 z) := by
          have := flat_get (icsk_len .i64) a [] ky z hz 0 (.int .i64 z) rfl
          rwa [List.append_nil, Nat.mul_one] at this
        subst hv6
        refine swp_skip ?_
        refine then_n ?_
        refine swp_seq ?_
        refine swp_block ?_
        refine swp_seq ?_
        refine swp_region ?_
        refine s_pu (pu_indexAddr (yo + j * 1) (congrArg some hyv) rfl (by omega) (by omega) (by rw [Int.toNat_natCast])) ?_
        refine s_rd (rd_ro rfl hyc) ?_
        refine s_pu (pu_assign rfl) ?_
        refine swl_sub _ (.cons (t := 0) rfl (.cons (t := 6) rfl (.cons (t := 9) rfl (.cons (t := 11) rfl (.cons (t := 14) rfl (.cons (t := 15) rfl (.cons (t := 16) rfl (.cons (t := 25) rfl (.cons (t := 26) rfl (.cons (t := 27) rfl .nil)))))))))) ?_
        refine swl_nil ?_
        refine then_n ?_
        refine swp_region ?_
        refine s_pu (pu_move rfl) ?_
        refine s_pu (pu_move rfl) ?_
        refine s_pu (pu_move rfl) ?_
        refine s_pu (pu_indexAddr ky rfl rfl (by omega) (by omega) (by omega)) ?_
        refine s_rd (rd_of_ld rfl (ld_own (by repeat (first | with_reducible exact Take.here | apply Take.there)) hget)) ?_
        refine s_ef (ef_bldS (qs := [(0, _)]) rfl rfl rfl) ?_
        intro b36
        refine s_ef (ef_append_lit (l := j) (m := 1) rfl rfl (by repeat (first | exact Split.nil | (apply Split.cons; (repeat (first | with_reducible exact Take.here | apply Take.there))))) (by simp only [maxLen]; omega) (by omega)) ?_
        rintro v' hv'
        skip
        refine s_pu (pu_assign rfl) ?_
        refine swl_sub _ (.cons (t := 0) rfl (.cons (t := 6) rfl (.cons (t := 9) rfl (.cons (t := 14) rfl (.cons (t := 15) rfl (.cons (t := 16) rfl (.cons (t := 25) rfl (.cons (t := 26) rfl (.cons (t := 27) rfl .nil))))))))) ?_
        have e1 : (valsG a (x.2.take j)).flatMap (icsk .i64) ++ [.int .i64 z] = (valsG a (x.2.take (j + 1))).flatMap (icsk .i64) := by
          rw [List.take_add_one, hy]
          show _ = (valsG a (x.2.take j ++ [(ky : Int)])).flatMap (icsk .i64)
          rw [valsG_append, Int.toNat_natCast, List.getD_eq_getElem?_getD, hz, List.flatMap_append]; rfl
        rw [e1]
        refine swl_nil ?_
        refine block_n ?_
        refine then_n ?_
        refine swp_region ?_
        refine s_pu (pu_add_as ((j + 1 : Nat) : Int) rfl rfl (by omega) (by omega) (by omega)) ?_
        refine s_pu (pu_move rfl) ?_
        refine swl_sub _ (.cons (t := 0) rfl (.cons (t := 6) rfl (.cons (t := 9) rfl (.cons (t := 14) rfl (.cons (t := 15) rfl (.cons (t := 16) rfl (.cons (t := 25) rfl (.cons (t := 26) rfl (.cons (t := 27) rfl .nil))))))))) ?_
        refine swl_nil ?_
        exact then_n ⟨(j + 1, v'), ⟨rfl, rfl, h28'⟩, by show x.2.length - (j + 1) < x.2.length - j; omega⟩
      · skip   -- 28 F
        have h28' := of_decide_eq_false h28
        obtain rfl : j = x.2.length := by omega
        rw [List.take_length]
        have hvl : (valsG a x.2).length = x.2.length := List.length_map _
        rw [← hvl]
        refine swp_fact (fun m h => own_shape .here h) fun hsh9 => ?_
        refine swp_exit ?_
        refine then_x ?_
        refine then_x ?_
        refine block_hit rfl ?_
        refine then_n ?_
        refine swp_region ?_
        refine s_pu (pu_move rfl) ?_
        refine s_pu (pu_move rfl) ?_
        refine s_ef (ef_fn (next_spec v9 (valsG a x.2) [own 3 1 v9 (valsG a x.2).length ((valsG a x.2).flatMap (icsk .i64))] (ints_own hsh9 .here)) rfl rfl (by repeat (first | exact Split.nil | (apply Split.cons; (repeat (first | with_reducible exact Take.here | apply Take.there)))))) ?_
        rintro v41 L1 ⟨rfl, rfl⟩
        refine swl_app ?_
        refine s_ef (ef_bldS (qs := [(0, _)]) rfl rfl rfl) ?_
        intro b42
        refine s_ef (ef_append_lit (l := a.length) (m := 1) rfl rfl (by repeat (first | exact Split.nil | (apply Split.cons; (repeat (first | with_reducible exact Take.here | apply Take.there))))) (by simp only [maxLen]; omega) (by omega)) ?_
        rintro v43 hv43
        skip
        refine s_pu (pu_assign rfl) ?_
        refine swl_sub _ (.cons (t := 0) rfl (.cons (t := 6) rfl (.cons (t := 14) rfl (.cons (t := 15) rfl (.cons (t := 16) rfl .nil))))) ?_
        rw [show a.flatMap (icsk .i64) ++ [Value.int .i64 (nxt (valsG a x.2))] = (a ++ [nxt (valsG a x.2)]).flatMap (icsk .i64) by rw [List.flatMap_append]; rfl]
        refine swl_ent (Split.ent' (K := [own 3 1 v43 (a.length + 1) ((a ++ [nxt (valsG a x.2)]).flatMap (icsk .i64)), ro μj]) (by repeat (first | exact Split.nil | (apply Split.cons; (repeat (first | with_reducible exact Take.here | apply Take.there)))))) ?_
        refine swl_nil ?_
        refine block_n ?_
        refine then_n ?_
        refine swp_region ?_
        refine s_pu (pu_add_as ((i + 1 : Nat) : Int) rfl rfl (by omega) (by omega) (by omega)) ?_
        refine s_pu (pu_move rfl) ?_
        refine swl_sub _ (.cons (t := 0) rfl (.cons (t := 6) rfl (.cons (t := 14) rfl (.cons (t := 15) rfl (.cons (t := 16) rfl .nil))))) ?_
        refine swl_nil ?_
        exact then_n ⟨(i + 1, v43, a ++ [nxt (valsG a x.2)], μj), ⟨rfl, by rw [List.length_append]; rfl, h17', hle.trans hij, hnext⟩, by show G.length - (i + 1) < G.length - i; omega⟩
  · skip   -- 17 F
    have h17' := of_decide_eq_false h17
    obtain rfl : i = G.length := by omega
    rw [List.take_of_length_le (by rw [hln]; exact Nat.le_refl _)] at ha
    refine swp_share_own (μ := μi) (by repeat (first | exact Split.nil | (apply Split.cons; (repeat (first | with_reducible exact Take.here | apply Take.there))))) fun μ' h' ra => ?_
    obtain ⟨vd, hrd, hpu⟩ := Row.lo (P := Try.prog) (t := 22) ra K.length (by omega)
    rw [icells_drop, show a.length - K.length = (a.drop K.length).length by rw [List.length_drop]] at hrd
    have hyes := moreL_some ha
    refine swp_exit ?_
    refine then_x ?_
    refine then_x ?_
    refine block_hit rfl ?_
    refine then_n ?_
    refine swp_seq ?_
    refine swp_region ?_
    refine s_pu (pu_move rfl) ?_
    refine s_pu (pu_move rfl) ?_
    refine s_pu (pu_len_row (hk.le (hle.trans h')) rfl) ?_
    refine s_pu (hpu _ _ _ .i64 _ rfl rfl rfl) ?_
    refine s_ef (ef_fn (clone_ro μ' vd (a.drop K.length) hrd (by rw [List.length_drop]; omega)) rfl rfl (by repeat (first | exact Split.nil | (apply Split.cons; (repeat (first | with_reducible exact Take.here | apply Take.there)))))) ?_
    rintro v49 L1 rfl
    refine swl_app ?_
    refine s_pu (pu_assign rfl) ?_
    refine s_pu (pu_assign rfl) ?_
    refine swl_sub _ (.cons (t := 4) rfl (.cons (t := 5) rfl .nil)) ?_
    refine swl_nil ?_
    refine then_n ?_
    refine swp_ret ?_
    rw [hyes.1, hyes.2]
    exact done_ret [own 3 1 v49 (a.drop K.length).length ((a.drop K.length).flatMap (icsk .i64)), ro μ'] (.tmp rfl (.tmp rfl .nil)) ⟨_, μ', rfl, hle.trans h', rfl⟩ (by repeat (first | exact Split.nil | (apply Split.cons; (repeat (first | with_reducible exact Take.here | apply Take.there)))))
theorem all_spec (hS : SortOk) (μ : PH) (vg : Value) (G : List (Value × List Int)) (hG : Graph μ vg G) (hn : G.length ≤ 1048576) (hrows : ∀ x ∈ G, x.2.length ≤ 17592186043904) :
    Spec Try.prog 18 [vg] [ro μ] (AnsG μ (moreE [] (nums G)) (moreL [] (nums G))) := by
  refine Spec.of 8 Try.func18 rfl rfl rfl ?_
  refine swp_seq ?_
  refine swp_region ?_
  refine s_pu (pu_assign rfl) ?_
  refine s_pu (pu_assign rfl) ?_
  refine swl_sub _ (.cons (t := 0) rfl .nil) ?_
  refine swl_nil ?_
  refine then_n ?_
  refine swp_seq ?_
  refine swp_region ?_
  refine s_pu (pu_move rfl) ?_
  refine s_ef (ef_fn (more_spec hS μ (.slice none 0 0) vg [] G (Row.nil μ 1) hG (by simp) hn hrows) rfl rfl (by repeat (first | exact Split.nil | (apply Split.cons; (repeat (first | with_reducible exact Take.here | apply Take.there)))))) ?_
  rintro v5 L1 ⟨lv, μ', rfl, h1, rfl⟩
  refine swl_app ?_
  first | refine s_pu (pu_extractL rfl) ?_ | refine s_pu (pu_extract rfl rfl) ?_
  first | refine s_pu (pu_extractL rfl) ?_ | refine s_pu (pu_extract rfl rfl) ?_
  refine s_pu (pu_assign rfl) ?_
  refine s_pu (pu_assign rfl) ?_
  refine swl_sub _ (.cons (t := 2) rfl (.cons (t := 3) rfl .nil)) ?_
  refine swl_nil ?_
  refine then_n ?_
  refine swp_ret ?_
  exact done_ret [own 3 1 lv (moreL [] (nums G)).length ((moreL [] (nums G)).flatMap (icsk .i64)), ro μ'] (.tmp rfl (.tmp rfl .nil)) ⟨_, μ', rfl, h1, rfl⟩ (by repeat (first | exact Split.nil | (apply Split.cons; (repeat (first | with_reducible exact Take.here | apply Take.there)))))
end SX
namespace Go.Proofs
open Go.Shelf
def Try.lays189_ren : Go.Shelf.Ren := ⟨fun | 189 => 33 | 125 => 37 | 257 => 36 | 128 => 47 | 129 => 48 | 294 => 38 | 295 => 39 | 296 => 40 | 297 => 41 | 298 => 42 | 299 => 43 | 216 => 44 | 300 => 45 | 301 => 46 | 328 => 49 | 329 => 50 | 330 => 51 | 331 => 52 | 332 => 53 | 215 => 54 | 343 => 55 | n => n, fun | 28 => 22 | 3 => 3 | 46 => 58 | 0 => 0 | 51 => 68 | 53 => 70 | 4 => 4 | 183 => 61 | 182 => 60 | 131 => 65 | 5 => 5 | 9 => 9 | 218 => 71 | 222 => 75 | 228 => 77 | 229 => 78 | n => n, fun | n => n⟩
theorem Try.lays189 : Go.Proofs.Lays.n189 Try.prog Try.lays189_ren := {
  mixed := by kernel_rfl
  f125 := Try.func37.trans (congrArg some (by kernel_rfl))
  f128 := Try.func47.trans (congrArg some (by kernel_rfl))
  f129 := Try.func48.trans (congrArg some (by kernel_rfl))
  f189 := Try.func33.trans (congrArg some (by kernel_rfl))
  f215 := Try.func54.trans (congrArg some (by kernel_rfl))
  f216 := Try.func44.trans (congrArg some (by kernel_rfl))
  f257 := Try.func36.trans (congrArg some (by kernel_rfl))
  f294 := Try.func38.trans (congrArg some (by kernel_rfl))
  f295 := Try.func39.trans (congrArg some (by kernel_rfl))
  f296 := Try.func40.trans (congrArg some (by kernel_rfl))
  f297 := Try.func41.trans (congrArg some (by kernel_rfl))
  f298 := Try.func42.trans (congrArg some (by kernel_rfl))
  f299 := Try.func43.trans (congrArg some (by kernel_rfl))
  f300 := Try.func45.trans (congrArg some (by kernel_rfl))
  f301 := Try.func46.trans (congrArg some (by kernel_rfl))
  f328 := Try.func49.trans (congrArg some (by kernel_rfl))
  f329 := Try.func50.trans (congrArg some (by kernel_rfl))
  f330 := Try.func51.trans (congrArg some (by kernel_rfl))
  f331 := Try.func52.trans (congrArg some (by kernel_rfl))
  f332 := Try.func53.trans (congrArg some (by kernel_rfl))
  f343 := Try.func55.trans (congrArg some (by kernel_rfl))
  t0 := Try.underlying0
  a0 := Try.isAgg0
  z0 := Try.sizeOf0
  v0 := Try.zeroValue0
  t3 := Try.underlying3
  a3 := Try.isAgg3
  z3 := Try.sizeOf3
  v3 := Try.zeroValue3
  t4 := Try.underlying4
  a4 := Try.isAgg4
  z4 := Try.sizeOf4
  v4 := Try.zeroValue4
  t5 := Try.underlying5
  a5 := Try.isAgg5
  z5 := Try.sizeOf5
  v5 := Try.zeroValue5
  t9 := Try.underlying9
  a9 := Try.isAgg9
  z9 := Try.sizeOf9
  v9 := Try.zeroValue9
  t28 := Try.underlying22
  a28 := Try.isAgg22
  z28 := Try.sizeOf22
  v28 := Try.zeroValue22
  t46 := Try.underlying58
  a46 := Try.isAgg58
  z46 := Try.sizeOf58
  v46 := Try.zeroValue58
  t51 := Try.underlying68
  a51 := Try.isAgg68
  z51 := Try.sizeOf68
  v51 := Try.zeroValue68
  t53 := Try.underlying70
  a53 := Try.isAgg70
  z53 := Try.sizeOf70
  v53 := Try.zeroValue70
  t131 := Try.underlying65
  a131 := Try.isAgg65
  z131 := Try.sizeOf65
  v131 := Try.zeroValue65
  t182 := Try.underlying60
  a182 := Try.isAgg60
  z182 := Try.sizeOf60
  v182 := Try.zeroValue60
  t183 := Try.underlying61
  a183 := Try.isAgg61
  z183 := Try.sizeOf61
  v183 := Try.zeroValue61
  t218 := Try.underlying71
  a218 := Try.isAgg71
  z218 := Try.sizeOf71
  v218 := Try.zeroValue71
  t222 := Try.underlying75
  a222 := Try.isAgg75
  z222 := Try.sizeOf75
  v222 := Try.zeroValue75
  t228 := Try.underlying77
  a228 := Try.isAgg77
  z228 := Try.sizeOf77
  v228 := Try.zeroValue77
  t229 := Try.underlying78
  a229 := Try.isAgg78
  z229 := Try.sizeOf78
  v229 := Try.zeroValue78 }
open Go.Sort Go.RowKit in
theorem Try.slices_Sort_int (blk off cap : Nat) (zs : List Int) (w : World) (hH : Holds (Value.int .i64) w blk off zs.toArray) (hblk : blk < w.heap.size) (hsz : zs.length < 4611686018427387904) :
    Calls Try.prog 33 #[.slice (some ⟨blk, off, none⟩) zs.length cap] w fun e w' =>
      e = .returned (.tuple #[]) ∧ ∃ n os, w' = grow (putRow (Value.int .i64) (Sort.ahead w n) blk off (zs.mergeSort fun x y => decide (x ≤ y)).toArray) os := Any.slices_Sort_int Try.lays189 blk off cap zs w hH hblk hsz
open Go.RowKit Go.Sort in
/-- .. and plain. (LAID: no walk: one application.) -/
theorem Try.slices_Sort_int_none (p : Option Addr) (cap : Nat) (w : World) :
    Calls Try.prog 33 #[.slice p 0 cap] w fun e w' => e = .returned (.tuple #[]) ∧ w' = w := Any.slices_Sort_int_none Try.lays189 p cap w
end Go.Proofs
namespace SX
open Go Go.Proofs
theorem sort_ok : SortOk := fun v xs hl => sort_ints (e := 3) (fun blk off cap zs w h1 h2 h3 => Try.slices_Sort_int blk off cap zs w h1 h2 h3) (fun p cap w => Try.slices_Sort_int_none p cap w) v xs hl
end SX
namespace SX
open Go Go.Proofs

theorem samelist_i (u v : Value) (xs ys : List Int) (L0 : List Assn) (hu : Ints Try.prog 3 L0 u xs) (hv : Ints Try.prog 3 L0 v ys) : Spec Try.prog 14 [u, v] L0 (fun r L => r = .bool (decide (xs = ys)) ∧ L = L0) := by
  obtain ⟨A, ca, rfl, hla, ha⟩ := hu
  obtain ⟨B, cb, rfl, hlb, hb⟩ := hv
  refine Spec.of 26 Try.func14 rfl rfl rfl ?_
  refine swp_seq ?_
  refine swp_region ?_
  refine s_pu (pu_assign rfl) ?_
  refine swl_sub _ (.cons (t := 0) rfl (.cons (t := 1) rfl .nil)) ?_
  refine swl_nil ?_
  refine then_n ?_
  refine swp_seq ?_
  refine swp_seq ?_
  refine swp_region ?_
  refine s_pu (pu_move rfl) ?_
  refine s_pu (pu_len rfl) ?_
  refine s_pu (pu_move rfl) ?_
  refine s_pu (pu_len rfl) ?_
  refine s_pu (pu_neq rfl rfl) ?_
  refine swl_sub _ (.cons (t := 0) rfl (.cons (t := 1) rfl (.cons (t := 10) rfl .nil))) ?_
  refine swl_nil ?_
  refine then_n ?_
  refine swp_cond (b := _) rfl (fun h10 => ?_) (fun h10 => ?_)
  · skip   -- 10 T
    refine swp_seq ?_
    refine swp_region ?_
    refine s_pu (pu_assign rfl) ?_
    refine swl_sub _ (.cons (t := 4) rfl .nil) ?_
    refine swl_nil ?_
    refine then_n ?_
    refine swp_ret ?_
    refine then_r ?_
    simp only [Bool.not_eq_true', decide_eq_false_iff_not] at h10
    exact done_ret _ (.tmp rfl .nil) ⟨by rw [decide_eq_false (fun e => h10 (by rw [e]))]; rfl, rfl⟩ Split.all
  · skip   -- 10 F
    refine swp_skip ?_
    refine then_n ?_
    refine swp_seq ?_
    refine swp_seq ?_
    refine swp_region ?_
    refine s_pu (pu_assign rfl) ?_
    refine swl_sub _ (.cons (t := 0) rfl (.cons (t := 1) rfl (.cons (t := 5) rfl .nil))) ?_
    refine swl_nil ?_
    refine then_n ?_
    refine swp_block ?_
    have hlen : xs.length = ys.length := by
      simp only [Bool.not_eq_false', decide_eq_true_eq] at h10; omega
    refine swp_sub _ (.cons (t := 0) rfl (.cons (t := 1) rfl (.cons (t := 5) rfl .nil))) ?_
    refine swp_loop (ι := Nat) (fun i env L => env = [(0, .slice A xs.length ca), (1, .slice B ys.length cb), (5, .int .i64 (i : Nat))] ∧ L = L0 ∧ i ≤ xs.length ∧ ∀ j, j < i → xs[j]? = ys[j]?) (fun i => xs.length - i) 0 ⟨rfl, rfl, Nat.zero_le _, fun j h => by omega⟩ ?_
    rintro i env L ⟨rfl, rfl, hi, hlo⟩
    refine swp_seq ?_
    refine swp_seq ?_
    refine swp_region ?_
    refine s_pu (pu_move rfl) ?_
    refine s_pu (pu_move rfl) ?_
    refine s_pu (pu_len rfl) ?_
    refine s_pu (pu_lss rfl rfl) ?_
    refine swl_sub _ (.cons (t := 0) rfl (.cons (t := 1) rfl (.cons (t := 5) rfl (.cons (t := 14) rfl .nil)))) ?_
    refine swl_nil ?_
    refine then_n ?_
    refine swp_cond (b := _) rfl (fun h14 => ?_) (fun h14 => ?_)
    · skip   -- 14 T
      have h14' : i < xs.length := by have := of_decide_eq_true h14; omega
      obtain ⟨x, hx⟩ : ∃ x, xs[i]? = some x := ⟨_, List.getElem?_eq_getElem h14'⟩
      obtain ⟨y, hy⟩ : ∃ y, ys[i]? = some y := ⟨_, List.getElem?_eq_getElem (by omega)⟩
      obtain ⟨ab, ao, rfl, hxl⟩ := ha (by omega)
      obtain ⟨bb, bo, rfl, hyl⟩ := hb (by omega)
      refine swp_skip ?_
      refine then_n ?_
      refine swp_seq ?_
      refine swp_block ?_
      refine swp_seq ?_
      refine swp_draw [3, 7] _ [] (by simp only [List.append_nil]; exact Ent.refl _) (by kernel_rfl) ?_
      refine d_pu 0 rfl (pu_move rfl) (by kernel_rfl) (by kernel_rfl) (by kernel_rfl) ?_
      refine d_pu 1 rfl (pu_move rfl) (by kernel_rfl) (by kernel_rfl) (by kernel_rfl) ?_
      refine d_pu 2 rfl (pu_indexAddr (ao + i * 1) rfl rfl (by omega) (by omega) (by rw [Int.toNat_natCast])) (by kernel_rfl) (by kernel_rfl) (by kernel_rfl) ?_
      refine d_rd 3 rfl (rd_of_ld rfl (by rw [Nat.mul_one]; exact hxl i x hx)) rfl (by kernel_rfl) (by kernel_rfl) (by kernel_rfl) ?_
      refine d_pu 4 rfl (pu_move rfl) (by kernel_rfl) (by kernel_rfl) (by kernel_rfl) ?_
      refine d_pu 5 rfl (pu_move rfl) (by kernel_rfl) (by kernel_rfl) (by kernel_rfl) ?_
      refine d_pu 6 rfl (pu_indexAddr (bo + i * 1) rfl rfl (by omega) (by omega) (by rw [Int.toNat_natCast])) (by kernel_rfl) (by kernel_rfl) (by kernel_rfl) ?_
      refine d_rd 7 rfl (rd_of_ld rfl (by rw [Nat.mul_one]; exact hyl i y hy)) rfl (by kernel_rfl) (by kernel_rfl) (by kernel_rfl) ?_
      refine d_pu 8 rfl (pu_neq rfl rfl) (by kernel_rfl) (by kernel_rfl) (by kernel_rfl) ?_
      refine d_sub _ (.cons (t := 0) rfl (.cons (t := 1) rfl (.cons (t := 5) rfl (.cons (t := 25) rfl .nil)))) ?_
      first | refine d_nilt (by kernel_rfl) ?_ | refine d_nilf (by kernel_rfl) ?_
      refine then_n ?_
      refine swp_cond (b := _) rfl (fun h25 => ?_) (fun h25 => ?_)
      · skip   -- 25 T
        refine swp_seq ?_
        refine swp_region ?_
        refine s_pu (pu_assign rfl) ?_
        refine swl_sub _ (.cons (t := 4) rfl .nil) ?_
        refine swl_nil ?_
        refine then_n ?_
        refine swp_ret ?_
        refine block_r ?_
        refine then_r ?_
        refine then_r ?_
        refine block_r ?_
        refine then_r ?_
        simp only [Bool.not_eq_true', decide_eq_false_iff_not] at h25
        exact done_ret _ (.tmp rfl .nil) ⟨by rw [decide_eq_false (fun e => h25 (by subst e; rw [hx] at hy; exact Option.some.inj hy))]; rfl, rfl⟩ Split.all
      · skip   -- 25 F
        refine swp_skip ?_
        refine block_n ?_
        refine then_n ?_
        refine swp_region ?_
        refine s_pu (pu_move rfl) ?_
        refine s_pu (pu_add_as ((i + 1 : Nat) : Int) rfl rfl (by omega) (by omega) (by omega)) ?_
        refine s_pu (pu_assign rfl) ?_
        refine swl_sub _ (.cons (t := 0) rfl (.cons (t := 1) rfl (.cons (t := 5) rfl .nil))) ?_
        refine swl_nil ?_
        simp only [Bool.not_eq_false', decide_eq_true_eq] at h25
        exact then_n ⟨i + 1, ⟨rfl, rfl, h14', fun j hj => by
          by_cases e : j = i
          · subst e; rw [hx, hy, h25]
          · exact hlo j (by omega)⟩, by omega⟩
    · skip   -- 14 F
      have h14' := of_decide_eq_false h14
      obtain rfl : i = xs.length := by omega
      refine swp_exit ?_
      refine then_x ?_
      refine then_x ?_
      refine block_hit rfl ?_
      refine then_n ?_
      refine swp_seq ?_
      refine swp_region ?_
      refine s_pu (pu_assign rfl) ?_
      refine swl_sub _ (.cons (t := 4) rfl .nil) ?_
      refine swl_nil ?_
      refine then_n ?_
      refine swp_ret ?_
      exact done_ret _ (.tmp rfl .nil) ⟨by rw [decide_eq_true (List.ext_getElem? fun j => by
        by_cases hj : j < xs.length
        · exact hlo j hj
        · rw [List.getElem?_eq_none (by omega), List.getElem?_eq_none (by omega)])]; rfl, rfl⟩ Split.all
end SX
namespace SX
open Go Go.Proofs

end SX
namespace SX
open Go Go.Proofs

theorem ints_lit {L : List Assn} {b : Nat} {xs : List Int} {cs : List Value} {n : Nat} [hb : InB b L 3 cs] (hc : cs = xs.flatMap (icsk .i64)) (hn : n = xs.length) (hs : xs.length ≤ 17592186043904) : Ints Try.prog 3 L (.slice (some ⟨b, 0, none⟩) n n) xs := by
  subst hc hn
  exact ints_blk rfl (by omega)
theorem counts_all : moreL [] [[], [0], [0], [1, 2]] = [1, 2, 2, 3] ∧ moreE [] [[], [0], [0], [1, 2]] = 0 := by decide +kernel
set_option maxHeartbeats 1000000 in
theorem counts_spec (μ : PH) : Spec Try.prog 10 [] [ro μ] (fun r L => r = .bool true ∧ ∃ μ', Le μ μ' ∧ L = [ro μ']) := by
  refine Spec.of 30 Try.func10 rfl rfl rfl ?_
  refine swp_seq ?_
  refine swp_region ?_
  refine s_pu (pu_assign rfl) ?_
  refine swl_sub _ .nil ?_
  refine swl_nil ?_
  refine then_n ?_
  refine swp_seq ?_
  refine swp_region ?_
  refine s_ef (ef_bldS (qs := [(0, _)]) rfl rfl rfl) ?_
  intro b4
  refine s_ef (ef_bldS (qs := [(0, _)]) rfl rfl rfl) ?_
  intro b5
  refine s_ef (ef_bldS (qs := [(0, _), (1, _)]) rfl rfl rfl) ?_
  intro b6
  refine s_ef (ef_bldS (qs := [(0, _), (1, _), (2, _), (3, _)]) rfl rfl rfl) ?_
  intro b7
  refine swl_share (b := b4) (μ := μ) (by repeat (first | exact Split.nil | (apply Split.cons; (repeat (first | with_reducible exact Take.here | apply Take.there))))) fun μ1 h1 k1 => ?_
  refine swl_share (b := b5) (μ := μ1) (by repeat (first | exact Split.nil | (apply Split.cons; (repeat (first | with_reducible exact Take.here | apply Take.there))))) fun μ2 h2 k2 => ?_
  refine swl_share (b := b6) (μ := μ2) (by repeat (first | exact Split.nil | (apply Split.cons; (repeat (first | with_reducible exact Take.here | apply Take.there))))) fun μ3 h3 k3 => ?_
  refine swl_share (b := b7) (μ := μ3) (by repeat (first | exact Split.nil | (apply Split.cons; (repeat (first | with_reducible exact Take.here | apply Take.there))))) fun μ4 h4 k4 => ?_
  have r1 := (row_of_blk (n := 1) (l := 1) (cs := [0].flatMap (icsk .i64)) k1 (by rfl) (by decide)).le (h2.trans (h3.trans h4))
  have r2 := (row_of_blk (n := 1) (l := 1) (cs := [0].flatMap (icsk .i64)) k2 (by rfl) (by decide)).le (h3.trans h4)
  have r3 := (row_of_blk (n := 1) (l := 2) (cs := [1, 2].flatMap (icsk .i64)) k3 (by rfl) (by decide)).le h4
  have hG : Graph μ4 (.slice (some ⟨b7, 0, none⟩) 4 4) [(.slice none 0 0, []), (.slice (some ⟨b4, 0, none⟩) 1 1, [0]), (.slice (some ⟨b5, 0, none⟩) 1 1, [0]), (.slice (some ⟨b6, 0, none⟩) 2 2, [1, 2])] := by
    refine ⟨row_of_blk k4 (by rfl) (by decide), fun x hx => ?_⟩
    rcases List.mem_cons.1 hx with rfl | hx
    · exact Row.nil _ _
    rcases List.mem_cons.1 hx with rfl | hx
    · exact r1
    rcases List.mem_cons.1 hx with rfl | hx
    · exact r2
    obtain rfl := List.mem_singleton.1 hx
    exact r3
  refine s_ef (ef_fn (all_spec sort_ok μ4 _ _ hG (by simp) (fun x hx => by simp at hx; rcases hx with rfl | rfl | rfl | rfl <;> simp)) rfl rfl (by repeat (first | exact Split.nil | (apply Split.cons; (repeat (first | with_reducible exact Take.here | apply Take.there)))))) ?_
  rintro v8 L1 ⟨lv, μ5, rfl, h5, rfl⟩
  rw [show nums [(Value.slice none 0 0, ([] : List Int)), (Value.slice (some ⟨b4, 0, none⟩) 1 1, [0]), (Value.slice (some ⟨b5, 0, none⟩) 1 1, [0]), (Value.slice (some ⟨b6, 0, none⟩) 2 2, [1, 2])] = [[], [0], [0], [1, 2]] from rfl, counts_all.1, counts_all.2]
  refine swl_app ?_
  refine swl_fact (fun m h => own_shape .here h) fun hs => ?_
  refine s_pu (pu_move rfl) ?_
  first | refine s_pu (pu_extractL rfl) ?_ | refine s_pu (pu_extract rfl rfl) ?_
  first | refine s_pu (pu_extractL rfl) ?_ | refine s_pu (pu_extract rfl rfl) ?_
  refine s_pu (pu_assign rfl) ?_
  refine s_pu (pu_assign rfl) ?_
  refine swl_sub _ (.cons (t := 1) rfl (.cons (t := 2) rfl .nil)) ?_
  refine swl_nil ?_
  refine then_n ?_
  refine swp_seq ?_
  refine swp_region ?_
  refine s_pu (pu_move rfl) ?_
  refine s_pu (pu_eql rfl rfl) ?_
  refine s_pu (pu_move rfl) ?_
  refine s_on rfl rfl ?_
  refine s_pu (pu_move rfl) ?_
  refine s_on rfl rfl ?_
  refine s_ef (ef_bldS (qs := [(0, _), (1, _), (2, _), (3, _)]) rfl rfl rfl) ?_
  intro b15
  refine s_on rfl rfl ?_
  refine s_ef (ef_fn (samelist_i lv _ ([1, 2, 2, 3] : List Int) ([1, 2, 2, 3] : List Int) _ (ints_own hs (by repeat (first | with_reducible exact Take.here | apply Take.there))) (ints_lit rfl rfl (by decide))) rfl rfl Split.all) ?_
  rintro v16 L1 ⟨rfl, rfl⟩
  refine swl_app ?_
  first | refine s_pu (pu_pick_t rfl rfl) ?_ | refine s_pu (pu_pick_f rfl rfl) ?_
  refine s_pu (pu_move rfl) ?_
  refine s_on rfl rfl ?_
  refine s_ef (ef_bldS (qs := [(0, _), (1, _)]) rfl rfl rfl) ?_
  intro b19
  refine s_on rfl rfl ?_
  refine s_ef (ef_fn (next_spec _ ([3, 7] : List Int) _ (ints_lit rfl rfl (by decide))) rfl rfl Split.all) ?_
  rintro v20 L1 ⟨rfl, rfl⟩
  refine swl_app ?_
  refine s_on rfl rfl ?_
  refine s_pu (pu_eql rfl rfl) ?_
  first | refine s_pu (pu_pick_t rfl rfl) ?_ | refine s_pu (pu_pick_f rfl rfl) ?_
  refine s_pu (pu_move rfl) ?_
  refine s_on rfl rfl ?_
  refine s_ef (ef_fn (may_spec 3 2) rfl rfl Split.nil) ?_
  rintro v24 L1 ⟨rfl, rfl⟩
  refine swl_app ?_
  first | refine s_pu (pu_pick_t rfl rfl) ?_ | refine s_pu (pu_pick_f rfl rfl) ?_
  refine s_pu (pu_move rfl) ?_
  refine s_on rfl rfl ?_
  refine s_ef (ef_fn (may_spec 2 2) rfl rfl Split.nil) ?_
  rintro v27 L1 ⟨rfl, rfl⟩
  refine swl_app ?_
  refine s_on rfl rfl ?_
  refine s_pu (pu_not rfl) ?_
  first | refine s_pu (pu_pick_t rfl rfl) ?_ | refine s_pu (pu_pick_f rfl rfl) ?_
  refine s_pu (pu_assign rfl) ?_
  refine swl_sub _ (.cons (t := 0) rfl .nil) ?_
  refine swl_nil ?_
  refine then_n ?_
  refine swp_ret ?_
  exact done_ret [ro μ5] (.tmp rfl .nil) ⟨rfl, μ5, h1.trans (h2.trans (h3.trans (h4.trans h5))), rfl⟩ (by repeat (first | exact Split.nil | (apply Split.cons; (repeat (first | with_reducible exact Take.here | apply Take.there)))))
abbrev LawOk (μ : PH) (r : Value) (L : List Assn) : Prop := r = .bool true ∧ ∃ μ' R, Le μ μ' ∧ L = ro μ' :: R
end SX
namespace SX
open Go Go.Proofs

theorem more0_chk (g : List (List Int)) : (moreE [] g = 0) ↔ chkFrom 0 g = 0 := by
  have h : (moreG [] g).isSome = true ↔ chkFrom 0 g = 0 := moreG_chk (all := [])
  rw [← h]
  unfold moreE
  cases moreG [] g <;> simp
end SX
namespace SX
open Go Go.Proofs

theorem ncs_of (a : List Int) : a.flatMap (icsk .i64) = ncs a.length (fun j => a.getD j 0) := by
  apply List.ext_getElem?
  intro j
  by_cases h : j < a.length
  · rw [icells_get' (List.getElem?_eq_getElem h), ncs_get _ h, List.getD_eq_getElem?_getD, List.getElem?_eq_getElem h]; rfl
  · rw [List.getElem?_eq_none (by rw [icells_len']; omega), List.getElem?_eq_none (by rw [ncs_len]; omega)]
theorem ncs_cut (k : Nat) (a : List Int) : (cutG k a).flatMap (icsk .i64) = ncs a.length (fun j => if j < k then a.getD j 0 else 1024) := by
  unfold cutG ncs
  rw [List.flatMap_map]
  generalize List.range a.length = l
  induction l with
  | nil => rfl
  | cons x l ih => rw [List.flatMap_cons, List.map_cons, ih]; rfl
theorem ncs_ext {n : Nat} {c d : Nat → Int} (h : ∀ j, j < n → c j = d j) : ncs n c = ncs n d := by
  unfold ncs
  apply List.map_congr_left
  intro j hj
  rw [h j (List.mem_range.1 hj)]
theorem may_small {x y : Int} (hx : (1 ≤ x ∧ x ≤ 1000) ∨ x = 1024) (hy : (1 ≤ y ∧ y ≤ 1000) ∨ y = 1024) : mayG x y = (decide (x = 1024) || (!decide (y = 1024) && decide (y < x))) := by
  have cx : cnt x = x := cnt_id (by omega) (by omega)
  have cy : cnt y = y := cnt_id (by omega) (by omega)
  unfold mayG
  rw [cx, cy]
  by_cases h1 : x = 1024
  · simp [h1]
  · by_cases h2 : y = 1024
    · simp [h1, h2]
    · have h3 : x ≠ 1023 := by omega
      simp [h1, h2, h3]
set_option maxHeartbeats 4000000 in
theorem genreach_spec (μ : PH) (v : Value) (G : List (Value × List Int)) (kn : Int) (hG : Graph μ v G) (hn : G.length ≤ 17592186043904) (hrows : ∀ x ∈ G, x.2.length ≤ 17592186043904) (hkn : 0 ≤ kn ∧ kn ≤ 255) : Spec Try.prog 8 [v, .int .u8 kn] [ro μ] (LawOk μ) := by
  refine Spec.of 119 Try.func8 rfl rfl rfl ?_
  refine swp_seq ?_
  refine swp_region ?_
  refine s_pu (pu_assign rfl) ?_
  refine swl_sub _ (.cons (t := 0) rfl (.cons (t := 1) rfl .nil)) ?_
  refine swl_nil ?_
  refine then_n ?_
  refine swp_seq ?_
  refine swp_seq ?_
  refine swp_region ?_
  refine s_ef (ef_fn (counts_spec μ) rfl rfl (by repeat (first | exact Split.nil | (apply Split.cons; (repeat (first | with_reducible exact Take.here | apply Take.there)))))) ?_
  rintro v11 L1 ⟨rfl, μ1, h1, rfl⟩
  refine swl_app ?_
  refine s_pu (pu_not rfl) ?_
  refine swl_sub _ (.cons (t := 0) rfl (.cons (t := 1) rfl (.cons (t := 12) rfl .nil))) ?_
  refine swl_nil ?_
  refine then_n ?_
  refine swp_cond (b := _) rfl (fun h12 => by cases h12) (fun h12 => ?_)
  refine swp_skip ?_
  refine then_n ?_
  refine swp_seq ?_
  obtain ⟨v', hG1, hsl⟩ := graph_take (P := Try.prog) (tG := 30) (hG.le h1) (min G.length 30) (Nat.min_le_left _ _)
  have hmn : (min (G.length : Int) 30) = ((min G.length 30 : Nat) : Int) := by omega
  have hrows1 : ∀ x ∈ G.take (min G.length 30), x.2.length ≤ 17592186043904 := fun x hx => hrows x (List.mem_of_mem_take hx)
  have hlen1 : (G.take (min G.length 30)).length ≤ 30 := by rw [List.length_take]; omega
  generalize G.take (min G.length 30) = Gm at *
  refine swp_region ?_
  refine s_pu (pu_move rfl) ?_
  refine s_pu (pu_move rfl) ?_
  refine s_pu (pu_len_row hG.1 rfl) ?_
  refine s_pu (pu_min2 rfl rfl) ?_
  rw [hmn]
  refine s_pu (hsl _ _ _ .i64 _ rfl rfl rfl) ?_
  refine s_pu (pu_assign rfl) ?_
  refine swl_sub _ (.cons (t := 0) rfl (.cons (t := 1) rfl .nil)) ?_
  refine swl_nil ?_
  refine then_n ?_
  refine swp_seq ?_
  refine swp_region ?_
  refine s_pu (pu_move rfl) ?_
  refine s_ef (ef_fn (all_spec sort_ok μ1 v' Gm hG1 (by omega) hrows1) rfl rfl (by repeat (first | exact Split.nil | (apply Split.cons; (repeat (first | with_reducible exact Take.here | apply Take.there)))))) ?_
  rintro v22 L1 ⟨lv, μ3, rfl, h3, rfl⟩
  refine swl_app ?_
  have hG3 := hG1.le h3
  have hec := more0_chk (nums Gm)
  refine s_pu (pu_move rfl) ?_
  first | refine s_pu (pu_extractL rfl) ?_ | refine s_pu (pu_extract rfl rfl) ?_
  first | refine s_pu (pu_extractL rfl) ?_ | refine s_pu (pu_extract rfl rfl) ?_
  refine s_pu (pu_assign rfl) ?_
  refine s_pu (pu_assign rfl) ?_
  refine swl_sub _ (.cons (t := 0) rfl (.cons (t := 1) rfl (.cons (t := 5) rfl (.cons (t := 6) rfl .nil)))) ?_
  refine swl_nil ?_
  refine then_n ?_
  refine swp_seq ?_
  refine swp_seq ?_
  refine swp_region ?_
  refine s_pu (pu_move rfl) ?_
  refine s_ef (ef_fn (rcheck_spec μ3 v' Gm hG3 (by omega)) rfl rfl (by repeat (first | exact Split.nil | (apply Split.cons; (repeat (first | with_reducible exact Take.here | apply Take.there)))))) ?_
  rintro v24 L1 ⟨rfl, rfl⟩
  refine swl_app ?_
  refine s_pu (pu_neq rfl rfl) ?_
  refine swl_sub _ (.cons (t := 0) rfl (.cons (t := 1) rfl (.cons (t := 5) rfl (.cons (t := 6) rfl (.cons (t := 25) rfl .nil))))) ?_
  refine swl_nil ?_
  refine then_n ?_
  refine swp_cond (b := _) rfl (fun h25 => ?_) (fun h25 => ?_)
  · skip   -- 25 T
    refine swp_seq ?_
    refine swp_region ?_
    refine s_pu (pu_move rfl) ?_
    refine s_pu (pu_eql rfl rfl) ?_
    refine s_pu (pu_assign rfl) ?_
    refine swl_sub _ (.cons (t := 4) rfl .nil) ?_
    refine swl_nil ?_
    refine then_n ?_
    refine swp_ret ?_
    refine then_r ?_
    have hc : ¬ chkFrom 0 (nums Gm) = 0 := by simpa using h25
    have hE : moreE [] (nums Gm) = 1 := by
      have := fun h => hc (hec.1 h)
      unfold moreE at this ⊢
      cases hm : moreG [] (nums Gm) with
      | none => rfl
      | some a => rw [hm] at this; exact absurd rfl this
    exact done_ret [ro μ3] (.tmp rfl .nil) ⟨by rw [hE]; rfl, μ3, [], h1.trans h3, rfl⟩ (by repeat (first | exact Split.nil | (apply Split.cons; (repeat (first | with_reducible exact Take.here | apply Take.there)))))
  · skip   -- 25 F
    have hc : chkFrom 0 (nums Gm) = 0 := by simpa using h25
    obtain ⟨a, ha⟩ : ∃ a, moreG [] (nums Gm) = some a := by
      have hs : (moreG [] (nums Gm)).isSome = true ↔ chkFrom 0 (nums Gm) = 0 := moreG_chk (all := [])
      exact Option.isSome_iff_exists.1 (hs.2 hc)
    have hal : a.length = Gm.length := by rw [gens_len ha, List.length_map]
    have hyes := moreL_some ha
    rw [hyes.1, hyes.2, show a.drop ([] : List Int).length = a from rfl]
    refine swp_ent (Split.ent' (K := [own 3 1 lv a.length (a.flatMap (icsk .i64)), ro μ3]) (by repeat (first | exact Split.nil | (apply Split.cons; (repeat (first | with_reducible exact Take.here | apply Take.there)))))) ?_
    refine swp_fact (fun m h => own_shape .here h) fun hs1 => ?_
    have hform := shape_len hs1
    have hg := gens_good ha
    have hln : (nums Gm).length = Gm.length := List.length_map _
    refine swp_skip ?_
    refine then_n ?_
    refine swp_seq ?_
    refine swp_seq ?_
    refine swp_region ?_
    refine s_pu (pu_move rfl) ?_
    refine s_pu (pu_neq rfl rfl) ?_
    refine s_pu (pu_move rfl) ?_
    refine s_split 30 rfl (fun h30 => by cases h30) (fun h30 => ?_)
    refine s_on rfl rfl ?_
    refine s_pu (pu_move rfl) ?_
    refine s_on rfl rfl ?_
    refine s_pu (pu_len_own hform rfl) ?_
    refine s_on rfl rfl ?_
    refine s_pu (pu_move rfl) ?_
    refine s_on rfl rfl ?_
    refine s_pu (pu_len_row hG3.1 rfl) ?_
    refine s_on rfl rfl ?_
    refine s_pu (pu_neq rfl rfl) ?_
    first | refine s_pu (pu_pick_t rfl rfl) ?_ | refine s_pu (pu_pick_f rfl rfl) ?_
    refine swl_sub _ (.cons (t := 0) rfl (.cons (t := 1) rfl (.cons (t := 5) rfl (.cons (t := 36) rfl .nil)))) ?_
    refine swl_nil ?_
    refine then_n ?_
    refine swp_cond (b := _) rfl (fun h36 => by exfalso; rw [hal] at h36; simp at h36) (fun h36 => ?_)
    refine swp_skip ?_
    refine then_n ?_
    refine swp_seq ?_
    refine swp_seq ?_
    refine swp_region ?_
    refine s_pu (pu_move rfl) ?_
    refine s_pu (pu_conv_i64 rfl (by omega) (by omega)) ?_
    refine s_pu (pu_assign rfl) ?_
    refine swl_sub _ (.cons (t := 0) rfl (.cons (t := 5) rfl (.cons (t := 7) rfl .nil))) ?_
    refine swl_nil ?_
    refine then_n ?_
    refine swp_block ?_
    obtain ⟨kk, rfl⟩ : ∃ k : Nat, kn = k := ⟨kn.toNat, by omega⟩
    rw [ncs_of, ncs_ext (d := fun j => if kk ≤ j ∧ j < kk then 1024 else a.getD j 0) (fun j _ => (if_neg (by omega)).symm)]
    refine swp_sub _ (.cons (t := 0) rfl (.cons (t := 5) rfl (.cons (t := 7) rfl .nil))) ?_
    refine swp_loop (ι := Nat) (fun i env L => env = [(0, v'), (5, lv), (7, .int .i64 (i : Nat))] ∧ L = [own 3 1 lv a.length (ncs a.length (fun j => if kk ≤ j ∧ j < i then 1024 else a.getD j 0)), ro μ3] ∧ kk ≤ i) (fun i => a.length - i) kk ⟨rfl, rfl, Nat.le_refl _⟩ ?_
    rintro i env L ⟨rfl, rfl, hi⟩
    refine swp_seq ?_
    refine swp_seq ?_
    refine swp_region ?_
    refine s_pu (pu_move rfl) ?_
    refine s_pu (pu_move rfl) ?_
    refine s_pu (pu_len_own hform rfl) ?_
    refine s_pu (pu_lss rfl rfl) ?_
    refine swl_sub _ (.cons (t := 0) rfl (.cons (t := 5) rfl (.cons (t := 7) rfl (.cons (t := 42) rfl .nil)))) ?_
    refine swl_nil ?_
    refine then_n ?_
    refine swp_cond (b := _) rfl (fun h42 => ?_) (fun h42 => ?_)
    · skip   -- 42 T
      have h42' : i < a.length := by have := of_decide_eq_true h42; omega
      refine swp_own (fun h0 l0 _ => by omega) (fun b1 c1 ex1 hv1 w1 w2 w3 w4 => ?_)
      subst hv1
      refine swp_skip ?_
      refine then_n ?_
      refine swp_seq ?_
      refine swp_block ?_
      refine swp_region ?_
      refine s_pu (pu_move rfl) ?_
      refine s_pu (pu_move rfl) ?_
      refine s_pu (pu_indexAddr i rfl rfl (by omega) (by omega) (by omega)) ?_
      refine s_ef0 (ef_storeP rfl rfl rfl (by rw [List.length_append, ncs_len]; omega)) ?_
      refine swl_sub _ (.cons (t := 0) rfl (.cons (t := 5) rfl (.cons (t := 7) rfl .nil))) ?_
      rw [List.set_append_left (h := by rw [ncs_len]; exact h42'), ncs_set (d := fun j => if kk ≤ j ∧ j < i + 1 then 1024 else a.getD j 0) (fun j => by
        by_cases e : j = i
        · subst e; rw [if_pos rfl, if_pos ⟨hi, Nat.lt_succ_self _⟩]
        · rw [if_neg e]
          by_cases h : kk ≤ j ∧ j < i
          · rw [if_pos h, if_pos (by omega)]
          · rw [if_neg h, if_neg (by omega)])]
      refine swl_ent (own_close (n := 1) (by rw [ncs_len]; omega) w4 w1 w2) ?_
      refine swl_nil ?_
      refine block_n ?_
      refine then_n ?_
      refine swp_region ?_
      refine s_pu (pu_move rfl) ?_
      refine s_pu (pu_add_as ((i + 1 : Nat) : Int) rfl rfl (by omega) (by omega) (by omega)) ?_
      refine s_pu (pu_assign rfl) ?_
      refine swl_sub _ (.cons (t := 0) rfl (.cons (t := 5) rfl (.cons (t := 7) rfl .nil))) ?_
      refine swl_nil ?_
      exact then_n ⟨i + 1, ⟨rfl, rfl, by omega⟩, by omega⟩
    · skip   -- 42 F
      have h42' := of_decide_eq_false h42
      rw [ncs_ext (d := fun j => if j < kk then a.getD j 0 else 1024) (fun j hj => by
        by_cases h : j < kk
        · rw [if_pos h, if_neg (by omega)]
        · rw [if_neg h, if_pos (by omega)]), ← ncs_cut]
      have hcl := cutG_len kk a
      rw [← hcl]
      refine swp_share_own (μ := μ3) (by repeat (first | exact Split.nil | (apply Split.cons; (repeat (first | with_reducible exact Take.here | apply Take.there))))) fun μ4 h4 r4 => ?_
      have hG4 := hG3.le h4
      refine swp_exit ?_
      refine then_x ?_
      refine then_x ?_
      refine block_hit rfl ?_
      refine then_n ?_
      refine swp_seq ?_
      refine swp_seq ?_
      refine swp_region ?_
      refine s_pu (pu_move rfl) ?_
      refine s_pu (pu_len_row hG4.1 rfl) ?_
      refine s_pu (pu_move rfl) ?_
      refine swl_sub _ (.cons (t := 0) rfl (.cons (t := 5) rfl (.cons (t := 49) rfl (.cons (t := 50) rfl .nil)))) ?_
      refine swl_nil ?_
      refine then_n ?_
      refine swp_block ?_
      refine swp_sub _ (.cons (t := 0) rfl (.cons (t := 5) rfl (.cons (t := 49) rfl (.cons (t := 50) rfl .nil)))) ?_
      refine swp_loop (ι := Nat) (fun x env L => env = [(0, v'), (5, lv), (49, .int .i64 (Gm.length : Nat)), (50, .int .i64 (x : Nat))] ∧ L = [ro μ4] ∧ x ≤ Gm.length) (fun x => Gm.length - x) 0 ⟨rfl, rfl, Nat.zero_le _⟩ ?_
      rintro x env L ⟨rfl, rfl, hx⟩
      refine swp_seq ?_
      refine swp_region ?_
      refine s_pu (pu_lss rfl rfl) ?_
      refine swl_sub _ (.cons (t := 0) rfl (.cons (t := 5) rfl (.cons (t := 49) rfl (.cons (t := 50) rfl (.cons (t := 51) rfl .nil))))) ?_
      refine swl_nil ?_
      refine then_n ?_
      refine swp_seq ?_
      refine swp_cond (b := _) rfl (fun h51 => ?_) (fun h51 => ?_)
      · skip   -- 51 T
        have h51' : x < Gm.length := by have := of_decide_eq_true h51; omega
        have hlow : ∀ (j : Nat) (z : Int), (cutG kk a)[j]? = some z → (1 ≤ z ∧ z ≤ 1000) ∨ z = 1024 := fun j z hz => by
          have hjl := (List.getElem?_eq_some_iff.1 hz).1
          rw [hcl] at hjl
          have hja := List.getElem?_eq_getElem hjl
          have hr := gens_range ha j _ hja
          rw [cutG_at hja] at hz
          obtain rfl := Option.some.inj hz
          by_cases h : j < kk
          · rw [if_pos h]; omega
          · rw [if_neg h]; exact .inr rfl
        obtain ⟨gx, hgx⟩ : ∃ z, (cutG kk a)[x]? = some z := ⟨_, List.getElem?_eq_getElem (by omega)⟩
        obtain ⟨xb, xo, xc, hxv, hxc⟩ := r4.at_ hgx
        refine swp_skip ?_
        refine then_n ?_
        refine swp_seq ?_
        refine swp_block ?_
        refine swp_seq ?_
        refine swp_region ?_
        refine s_pu (pu_move rfl) ?_
        refine s_pu (pu_assign rfl) ?_
        refine swl_sub _ (.cons (t := 0) rfl (.cons (t := 5) rfl (.cons (t := 8) rfl (.cons (t := 49) rfl (.cons (t := 50) rfl .nil))))) ?_
        refine swl_nil ?_
        refine then_n ?_
        refine swp_seq ?_
        refine swp_region ?_
        refine s_pu (pu_move rfl) ?_
        refine s_pu (pu_move rfl) ?_
        refine s_ef (ef_fn (rup_spec μ4 v' Gm x hG4 (by omega) hg (by omega)) rfl rfl (by repeat (first | exact Split.nil | (apply Split.cons; (repeat (first | with_reducible exact Take.here | apply Take.there)))))) ?_
        rintro v55 L1 ⟨b9, rfl, rfl⟩
        refine swl_app ?_
        refine s_pu (pu_assign rfl) ?_
        refine swl_sub _ (.cons (t := 0) rfl (.cons (t := 5) rfl (.cons (t := 8) rfl (.cons (t := 9) rfl (.cons (t := 49) rfl (.cons (t := 50) rfl .nil)))))) ?_
        refine swl_nil ?_
        refine then_n ?_
        refine swp_seq ?_
        refine swp_region ?_
        refine s_pu (pu_move rfl) ?_
        refine s_pu (pu_len_row hG4.1 rfl) ?_
        refine s_pu (pu_move rfl) ?_
        refine swl_sub _ (.cons (t := 0) rfl (.cons (t := 5) rfl (.cons (t := 8) rfl (.cons (t := 9) rfl (.cons (t := 49) rfl (.cons (t := 50) rfl (.cons (t := 57) rfl (.cons (t := 58) rfl .nil)))))))) ?_
        refine swl_nil ?_
        refine then_n ?_
        refine swp_block ?_
        refine swp_loop (ι := Nat) (fun y env L => env = [(0, v'), (5, lv), (8, .int .i64 (x : Nat)), (9, .slice (some ⟨b9, 0, none⟩) Gm.length Gm.length), (49, .int .i64 (Gm.length : Nat)), (50, .int .i64 (x : Nat)), (57, .int .i64 (Gm.length : Nat)), (58, .int .i64 (y : Nat))] ∧ L = [blk b9 4 (rbs Gm.length (up (nums Gm) x)), ro μ4] ∧ y ≤ Gm.length) (fun y => Gm.length - y) 0 ⟨rfl, rfl, Nat.zero_le _⟩ ?_
        rintro y env L ⟨rfl, rfl, hy⟩
        refine swp_seq ?_
        refine swp_region ?_
        refine s_pu (pu_lss rfl rfl) ?_
        refine swl_sub _ (.cons (t := 0) rfl (.cons (t := 5) rfl (.cons (t := 8) rfl (.cons (t := 9) rfl (.cons (t := 49) rfl (.cons (t := 50) rfl (.cons (t := 57) rfl (.cons (t := 58) rfl (.cons (t := 59) rfl .nil))))))))) ?_
        refine swl_nil ?_
        refine then_n ?_
        refine swp_seq ?_
        refine swp_cond (b := _) rfl (fun h59 => ?_) (fun h59 => ?_)
        · skip   -- 59 T
          have h59' : y < Gm.length := by have := of_decide_eq_true h59; omega
          obtain ⟨gy, hgy⟩ : ∃ z, (cutG kk a)[y]? = some z := ⟨_, List.getElem?_eq_getElem (by omega)⟩
          obtain ⟨yb, yo, yc, hyv, hyc⟩ := r4.at_ hgy
          obtain ⟨e1, e2, e3⟩ : yb = xb ∧ yo = xo ∧ yc = xc := by
            rw [hxv] at hyv; injection hyv with q1 q2 q3; injection q1 with q1; injection q1 with q1 q4; exact ⟨q1.symm, q4.symm, q3.symm⟩
          subst e1 e2 e3
          have hmay := may_small (hlow x gx hgx) (hlow y gy hgy)
          have hrm : x ≠ y → up (nums Gm) x y = true → mayG gx gy = true := fun hne hu => reach_may ha ((up_iff hg x y).1 hu) hne hgx hgy
          refine swp_skip ?_
          refine then_n ?_
          refine swp_seq ?_
          refine swp_block ?_
          refine swp_seq ?_
          refine swp_region ?_
          refine s_pu (pu_move rfl) ?_
          refine s_pu (pu_assign rfl) ?_
          refine swl_sub _ (.cons (t := 0) rfl (.cons (t := 5) rfl (.cons (t := 8) rfl (.cons (t := 9) rfl (.cons (t := 10) rfl (.cons (t := 49) rfl (.cons (t := 50) rfl (.cons (t := 57) rfl (.cons (t := 58) rfl .nil))))))))) ?_
          refine swl_nil ?_
          refine then_n ?_
          refine swp_cut (fun env L => (∃ b : Bool, env = [(0, v'), (5, lv), (8, .int .i64 (x : Nat)), (9, .slice (some ⟨b9, 0, none⟩) Gm.length Gm.length), (49, .int .i64 (Gm.length : Nat)), (50, .int .i64 (x : Nat)), (57, .int .i64 (Gm.length : Nat)), (58, .int .i64 (y : Nat)), (116, .bool b)] ∧ b = false) ∧ L = [blk b9 4 (rbs Gm.length (up (nums Gm) x)), ro μ4]) ?_ ?_
          · skip
            refine swp_draw [7, 13, 17, 25, 29, 34, 40, 46, 50] _ [] (by simp only [List.append_nil]; exact Ent.refl _) (by kernel_rfl) ?_
            refine d_pu 0 rfl (pu_move rfl) (by kernel_rfl) (by kernel_rfl) (by kernel_rfl) ?_
            refine d_pu 1 rfl (pu_move rfl) (by kernel_rfl) (by kernel_rfl) (by kernel_rfl) ?_
            refine d_pu 2 rfl (pu_neq rfl rfl) (by kernel_rfl) (by kernel_rfl) (by kernel_rfl) ?_
            refine d_pu 3 rfl (pu_move rfl) (by kernel_rfl) (by kernel_rfl) (by kernel_rfl) ?_
            refine d_split 64 rfl (fun h64 => ?_) (fun h64 => ?_)
            · skip   -- 64 T
              refine d_pu_on 4 rfl rfl rfl (pu_move rfl) (by kernel_rfl) (by kernel_rfl) (by kernel_rfl) ?_
              refine d_pu_on 5 rfl rfl rfl (pu_move rfl) (by kernel_rfl) (by kernel_rfl) (by kernel_rfl) ?_
              refine d_pu_on 6 rfl rfl rfl (pu_indexAddr y rfl rfl (by omega) (by omega) (by omega)) (by kernel_rfl) (by kernel_rfl) (by kernel_rfl) ?_
              refine d_rd_on 7 rfl rfl rfl (rd_load rfl (rbs_get _ h59')) rfl (by kernel_rfl) (by kernel_rfl) (by kernel_rfl) ?_
              first | refine d_pu 8 rfl (pu_pick_t rfl rfl) (by kernel_rfl) (by kernel_rfl) (by kernel_rfl) ?_ | refine d_pu 8 rfl (pu_pick_f rfl rfl) (by kernel_rfl) (by kernel_rfl) (by kernel_rfl) ?_
              refine d_pu 9 rfl (pu_move rfl) (by kernel_rfl) (by kernel_rfl) (by kernel_rfl) ?_
              refine d_split 70 rfl (fun h70 => ?_) (fun h70 => ?_)
              · skip   -- 70 T
                refine d_pu_on 10 rfl rfl rfl (pu_move rfl) (by kernel_rfl) (by kernel_rfl) (by kernel_rfl) ?_
                refine d_pu_on 11 rfl rfl rfl (pu_move rfl) (by kernel_rfl) (by kernel_rfl) (by kernel_rfl) ?_
                refine d_pu_on 12 rfl rfl rfl (pu_indexAddr (yo + x * 1) (congrArg some hxv) rfl (by omega) (by omega) (by rw [Int.toNat_natCast])) (by kernel_rfl) (by kernel_rfl) (by kernel_rfl) ?_
                refine d_rd_on 13 rfl rfl rfl (rd_ro rfl hxc) rfl (by kernel_rfl) (by kernel_rfl) (by kernel_rfl) ?_
                refine d_pu_on 14 rfl rfl rfl (pu_move rfl) (by kernel_rfl) (by kernel_rfl) (by kernel_rfl) ?_
                refine d_pu_on 15 rfl rfl rfl (pu_move rfl) (by kernel_rfl) (by kernel_rfl) (by kernel_rfl) ?_
                refine d_pu_on 16 rfl rfl rfl (pu_indexAddr (yo + y * 1) (congrArg some hxv) rfl (by omega) (by omega) (by rw [Int.toNat_natCast])) (by kernel_rfl) (by kernel_rfl) (by kernel_rfl) ?_
                refine d_rd_on 17 rfl rfl rfl (rd_ro rfl hyc) rfl (by kernel_rfl) (by kernel_rfl) (by kernel_rfl) ?_
                refine d_amb [18] (by kernel_rfl) rfl ?_
                refine dA_ef 18 rfl (GOn.some rfl rfl) (ef_fn (may_spec gx gy) rfl rfl (by repeat (first | exact Split.nil | (apply Split.cons; (repeat (first | with_reducible exact Take.here | apply Take.there)))))) ?_
                rintro v79 L1 ⟨rfl, rfl⟩
                refine ⟨_, ent_appC (Split.ent (by repeat (first | exact Split.nil | (apply Split.cons; (repeat (first | with_reducible exact Take.here | apply Take.there)))))), ?_⟩
                refine d_pu_on 19 rfl rfl rfl (pu_not rfl) (by kernel_rfl) (by kernel_rfl) (by kernel_rfl) ?_
                first | refine d_pu 20 rfl (pu_pick_t rfl rfl) (by kernel_rfl) (by kernel_rfl) (by kernel_rfl) ?_ | refine d_pu 20 rfl (pu_pick_f rfl rfl) (by kernel_rfl) (by kernel_rfl) (by kernel_rfl) ?_
                refine d_pu 21 rfl (pu_move rfl) (by kernel_rfl) (by kernel_rfl) (by kernel_rfl) ?_
                refine d_split 82 rfl (fun h82 => by exfalso; rw [hrm (by have h := h64; simp at h; omega) h70] at h82; cases h82) (fun h82 => ?_)
                refine d_pu_on 22 rfl rfl rfl (pu_move rfl) (by kernel_rfl) (by kernel_rfl) (by kernel_rfl) ?_
                refine d_pu_on 23 rfl rfl rfl (pu_move rfl) (by kernel_rfl) (by kernel_rfl) (by kernel_rfl) ?_
                refine d_pu_on 24 rfl rfl rfl (pu_indexAddr (yo + x * 1) (congrArg some hxv) rfl (by omega) (by omega) (by rw [Int.toNat_natCast])) (by kernel_rfl) (by kernel_rfl) (by kernel_rfl) ?_
                refine d_rd_on 25 rfl rfl rfl (rd_ro rfl hxc) rfl (by kernel_rfl) (by kernel_rfl) (by kernel_rfl) ?_
                refine d_pu_on 26 rfl rfl rfl (pu_move rfl) (by kernel_rfl) (by kernel_rfl) (by kernel_rfl) ?_
                refine d_pu_on 27 rfl rfl rfl (pu_move rfl) (by kernel_rfl) (by kernel_rfl) (by kernel_rfl) ?_
                refine d_pu_on 28 rfl rfl rfl (pu_indexAddr (yo + y * 1) (congrArg some hxv) rfl (by omega) (by omega) (by rw [Int.toNat_natCast])) (by kernel_rfl) (by kernel_rfl) (by kernel_rfl) ?_
                refine d_rd_on 29 rfl rfl rfl (rd_ro rfl hyc) rfl (by kernel_rfl) (by kernel_rfl) (by kernel_rfl) ?_
                refine d_pu_on 31 rfl rfl rfl (pu_move rfl) (by kernel_rfl) (by kernel_rfl) (by kernel_rfl) ?_
                refine d_pu_on 32 rfl rfl rfl (pu_move rfl) (by kernel_rfl) (by kernel_rfl) (by kernel_rfl) ?_
                refine d_pu_on 33 rfl rfl rfl (pu_indexAddr (yo + x * 1) (congrArg some hxv) rfl (by omega) (by omega) (by rw [Int.toNat_natCast])) (by kernel_rfl) (by kernel_rfl) (by kernel_rfl) ?_
                refine d_rd_on 34 rfl rfl rfl (rd_ro rfl hxc) rfl (by kernel_rfl) (by kernel_rfl) (by kernel_rfl) ?_
                refine d_pu_on 35 rfl rfl rfl (pu_eql rfl rfl) (by kernel_rfl) (by kernel_rfl) (by kernel_rfl) ?_
                refine d_amb [30] (by kernel_rfl) rfl ?_
                refine dA_ef 30 rfl (GOn.some rfl rfl) (ef_fn (may_spec gx gy) rfl rfl (by repeat (first | exact Split.nil | (apply Split.cons; (repeat (first | with_reducible exact Take.here | apply Take.there)))))) ?_
                rintro v91 L1 ⟨rfl, rfl⟩
                refine ⟨_, ent_appC (Split.ent (by repeat (first | exact Split.nil | (apply Split.cons; (repeat (first | with_reducible exact Take.here | apply Take.there)))))), ?_⟩
                refine d_pu_on 36 rfl rfl rfl (pu_move rfl) (by kernel_rfl) (by kernel_rfl) (by kernel_rfl) ?_
                refine d_split 97 rfl (fun h97 => ?_) (fun h97 => ?_)
                · skip   -- 97 T
                  refine d_off 37 rfl rfl rfl rfl (by kernel_rfl) (by kernel_rfl) (by kernel_rfl) ?_
                  refine d_off 38 rfl rfl rfl rfl (by kernel_rfl) (by kernel_rfl) (by kernel_rfl) ?_
                  refine d_off 39 rfl rfl rfl rfl (by kernel_rfl) (by kernel_rfl) (by kernel_rfl) ?_
                  refine d_off 40 rfl rfl rfl rfl (by kernel_rfl) (by kernel_rfl) (by kernel_rfl) ?_
                  refine d_off 41 rfl rfl rfl rfl (by kernel_rfl) (by kernel_rfl) (by kernel_rfl) ?_
                  refine d_off 42 rfl rfl rfl rfl (by kernel_rfl) (by kernel_rfl) (by kernel_rfl) ?_
                  refine d_off 43 rfl rfl rfl rfl (by kernel_rfl) (by kernel_rfl) (by kernel_rfl) ?_
                  refine d_off 44 rfl rfl rfl rfl (by kernel_rfl) (by kernel_rfl) (by kernel_rfl) ?_
                  refine d_off 45 rfl rfl rfl rfl (by kernel_rfl) (by kernel_rfl) (by kernel_rfl) ?_
                  refine d_off 46 rfl rfl rfl rfl (by kernel_rfl) (by kernel_rfl) (by kernel_rfl) ?_
                  refine d_off 47 rfl rfl rfl rfl (by kernel_rfl) (by kernel_rfl) (by kernel_rfl) ?_
                  refine d_off 48 rfl rfl rfl rfl (by kernel_rfl) (by kernel_rfl) (by kernel_rfl) ?_
                  refine d_off 49 rfl rfl rfl rfl (by kernel_rfl) (by kernel_rfl) (by kernel_rfl) ?_
                  refine d_off 50 rfl rfl rfl rfl (by kernel_rfl) (by kernel_rfl) (by kernel_rfl) ?_
                  refine d_off 51 rfl rfl rfl rfl (by kernel_rfl) (by kernel_rfl) (by kernel_rfl) ?_
                  refine d_off 52 rfl rfl rfl rfl (by kernel_rfl) (by kernel_rfl) (by kernel_rfl) ?_
                  first | refine d_pu_on 53 rfl rfl rfl (pu_pick_t rfl rfl) (by kernel_rfl) (by kernel_rfl) (by kernel_rfl) ?_ | refine d_pu_on 53 rfl rfl rfl (pu_pick_f rfl rfl) (by kernel_rfl) (by kernel_rfl) (by kernel_rfl) ?_
                  refine d_pu_on 54 rfl rfl rfl (pu_bool_ne rfl rfl) (by kernel_rfl) (by kernel_rfl) (by kernel_rfl) ?_
                  first | refine d_pu 55 rfl (pu_pick_t rfl rfl) (by kernel_rfl) (by kernel_rfl) (by kernel_rfl) ?_ | refine d_pu 55 rfl (pu_pick_f rfl rfl) (by kernel_rfl) (by kernel_rfl) (by kernel_rfl) ?_
                  refine d_sub _ (.cons (t := 0) rfl (.cons (t := 5) rfl (.cons (t := 8) rfl (.cons (t := 9) rfl (.cons (t := 49) rfl (.cons (t := 50) rfl (.cons (t := 57) rfl (.cons (t := 58) rfl (.cons (t := 116) rfl .nil))))))))) ?_
                  first | refine d_nilt (by kernel_rfl) ?_ | refine d_nilf (by kernel_rfl) ?_
                  exact then_n ⟨⟨_, rfl, by clear hlow hrm; simp_all⟩, rfl⟩
                · skip   -- 97 F
                  refine d_pu_on 37 rfl rfl rfl (pu_move rfl) (by kernel_rfl) (by kernel_rfl) (by kernel_rfl) ?_
                  refine d_pu_on 38 rfl rfl rfl (pu_move rfl) (by kernel_rfl) (by kernel_rfl) (by kernel_rfl) ?_
                  refine d_pu_on 39 rfl rfl rfl (pu_indexAddr (yo + y * 1) (congrArg some hxv) rfl (by omega) (by omega) (by rw [Int.toNat_natCast])) (by kernel_rfl) (by kernel_rfl) (by kernel_rfl) ?_
                  refine d_rd_on 40 rfl rfl rfl (rd_ro rfl hyc) rfl (by kernel_rfl) (by kernel_rfl) (by kernel_rfl) ?_
                  refine d_pu_on 41 rfl rfl rfl (pu_neq rfl rfl) (by kernel_rfl) (by kernel_rfl) (by kernel_rfl) ?_
                  refine d_pu_on 42 rfl rfl rfl (pu_move rfl) (by kernel_rfl) (by kernel_rfl) (by kernel_rfl) ?_
                  refine d_split 103 rfl (fun h103 => ?_) (fun h103 => ?_)
                  · skip   -- 103 T
                    refine d_pu_on 43 rfl rfl rfl (pu_move rfl) (by kernel_rfl) (by kernel_rfl) (by kernel_rfl) ?_
                    refine d_pu_on 44 rfl rfl rfl (pu_move rfl) (by kernel_rfl) (by kernel_rfl) (by kernel_rfl) ?_
                    refine d_pu_on 45 rfl rfl rfl (pu_indexAddr (yo + x * 1) (congrArg some hxv) rfl (by omega) (by omega) (by rw [Int.toNat_natCast])) (by kernel_rfl) (by kernel_rfl) (by kernel_rfl) ?_
                    refine d_rd_on 46 rfl rfl rfl (rd_ro rfl hxc) rfl (by kernel_rfl) (by kernel_rfl) (by kernel_rfl) ?_
                    refine d_pu_on 47 rfl rfl rfl (pu_move rfl) (by kernel_rfl) (by kernel_rfl) (by kernel_rfl) ?_
                    refine d_pu_on 48 rfl rfl rfl (pu_move rfl) (by kernel_rfl) (by kernel_rfl) (by kernel_rfl) ?_
                    refine d_pu_on 49 rfl rfl rfl (pu_indexAddr (yo + y * 1) (congrArg some hxv) rfl (by omega) (by omega) (by rw [Int.toNat_natCast])) (by kernel_rfl) (by kernel_rfl) (by kernel_rfl) ?_
                    refine d_rd_on 50 rfl rfl rfl (rd_ro rfl hyc) rfl (by kernel_rfl) (by kernel_rfl) (by kernel_rfl) ?_
                    refine d_pu_on 51 rfl rfl rfl (pu_gtr rfl rfl) (by kernel_rfl) (by kernel_rfl) (by kernel_rfl) ?_
                    first | refine d_pu_on 52 rfl rfl rfl (pu_pick_t rfl rfl) (by kernel_rfl) (by kernel_rfl) (by kernel_rfl) ?_ | refine d_pu_on 52 rfl rfl rfl (pu_pick_f rfl rfl) (by kernel_rfl) (by kernel_rfl) (by kernel_rfl) ?_
                    first | refine d_pu_on 53 rfl rfl rfl (pu_pick_t rfl rfl) (by kernel_rfl) (by kernel_rfl) (by kernel_rfl) ?_ | refine d_pu_on 53 rfl rfl rfl (pu_pick_f rfl rfl) (by kernel_rfl) (by kernel_rfl) (by kernel_rfl) ?_
                    refine d_pu_on 54 rfl rfl rfl (pu_bool_ne rfl rfl) (by kernel_rfl) (by kernel_rfl) (by kernel_rfl) ?_
                    first | refine d_pu 55 rfl (pu_pick_t rfl rfl) (by kernel_rfl) (by kernel_rfl) (by kernel_rfl) ?_ | refine d_pu 55 rfl (pu_pick_f rfl rfl) (by kernel_rfl) (by kernel_rfl) (by kernel_rfl) ?_
                    refine d_sub _ (.cons (t := 0) rfl (.cons (t := 5) rfl (.cons (t := 8) rfl (.cons (t := 9) rfl (.cons (t := 49) rfl (.cons (t := 50) rfl (.cons (t := 57) rfl (.cons (t := 58) rfl (.cons (t := 116) rfl .nil))))))))) ?_
                    first | refine d_nilt (by kernel_rfl) ?_ | refine d_nilf (by kernel_rfl) ?_
                    exact then_n ⟨⟨_, rfl, by clear hlow hrm; simp_all⟩, rfl⟩
                  · skip   -- 103 F
                    refine d_off 43 rfl rfl rfl rfl (by kernel_rfl) (by kernel_rfl) (by kernel_rfl) ?_
                    refine d_off 44 rfl rfl rfl rfl (by kernel_rfl) (by kernel_rfl) (by kernel_rfl) ?_
                    refine d_off 45 rfl rfl rfl rfl (by kernel_rfl) (by kernel_rfl) (by kernel_rfl) ?_
                    refine d_off 46 rfl rfl rfl rfl (by kernel_rfl) (by kernel_rfl) (by kernel_rfl) ?_
                    refine d_off 47 rfl rfl rfl rfl (by kernel_rfl) (by kernel_rfl) (by kernel_rfl) ?_
                    refine d_off 48 rfl rfl rfl rfl (by kernel_rfl) (by kernel_rfl) (by kernel_rfl) ?_
                    refine d_off 49 rfl rfl rfl rfl (by kernel_rfl) (by kernel_rfl) (by kernel_rfl) ?_
                    refine d_off 50 rfl rfl rfl rfl (by kernel_rfl) (by kernel_rfl) (by kernel_rfl) ?_
                    refine d_off 51 rfl rfl rfl rfl (by kernel_rfl) (by kernel_rfl) (by kernel_rfl) ?_
                    first | refine d_pu_on 52 rfl rfl rfl (pu_pick_t rfl rfl) (by kernel_rfl) (by kernel_rfl) (by kernel_rfl) ?_ | refine d_pu_on 52 rfl rfl rfl (pu_pick_f rfl rfl) (by kernel_rfl) (by kernel_rfl) (by kernel_rfl) ?_
                    first | refine d_pu_on 53 rfl rfl rfl (pu_pick_t rfl rfl) (by kernel_rfl) (by kernel_rfl) (by kernel_rfl) ?_ | refine d_pu_on 53 rfl rfl rfl (pu_pick_f rfl rfl) (by kernel_rfl) (by kernel_rfl) (by kernel_rfl) ?_
                    refine d_pu_on 54 rfl rfl rfl (pu_bool_ne rfl rfl) (by kernel_rfl) (by kernel_rfl) (by kernel_rfl) ?_
                    first | refine d_pu 55 rfl (pu_pick_t rfl rfl) (by kernel_rfl) (by kernel_rfl) (by kernel_rfl) ?_ | refine d_pu 55 rfl (pu_pick_f rfl rfl) (by kernel_rfl) (by kernel_rfl) (by kernel_rfl) ?_
                    refine d_sub _ (.cons (t := 0) rfl (.cons (t := 5) rfl (.cons (t := 8) rfl (.cons (t := 9) rfl (.cons (t := 49) rfl (.cons (t := 50) rfl (.cons (t := 57) rfl (.cons (t := 58) rfl (.cons (t := 116) rfl .nil))))))))) ?_
                    first | refine d_nilt (by kernel_rfl) ?_ | refine d_nilf (by kernel_rfl) ?_
                    exact then_n ⟨⟨_, rfl, by clear hlow hrm; simp_all⟩, rfl⟩
              · skip   -- 70 F
                refine d_off 10 rfl rfl rfl rfl (by kernel_rfl) (by kernel_rfl) (by kernel_rfl) ?_
                refine d_off 11 rfl rfl rfl rfl (by kernel_rfl) (by kernel_rfl) (by kernel_rfl) ?_
                refine d_off 12 rfl rfl rfl rfl (by kernel_rfl) (by kernel_rfl) (by kernel_rfl) ?_
                refine d_off 13 rfl rfl rfl rfl (by kernel_rfl) (by kernel_rfl) (by kernel_rfl) ?_
                refine d_off 14 rfl rfl rfl rfl (by kernel_rfl) (by kernel_rfl) (by kernel_rfl) ?_
                refine d_off 15 rfl rfl rfl rfl (by kernel_rfl) (by kernel_rfl) (by kernel_rfl) ?_
                refine d_off 16 rfl rfl rfl rfl (by kernel_rfl) (by kernel_rfl) (by kernel_rfl) ?_
                refine d_off 17 rfl rfl rfl rfl (by kernel_rfl) (by kernel_rfl) (by kernel_rfl) ?_
                refine d_off 18 rfl rfl rfl rfl (by kernel_rfl) (by kernel_rfl) (by kernel_rfl) ?_
                refine d_off 19 rfl rfl rfl rfl (by kernel_rfl) (by kernel_rfl) (by kernel_rfl) ?_
                first | refine d_pu 20 rfl (pu_pick_t rfl rfl) (by kernel_rfl) (by kernel_rfl) (by kernel_rfl) ?_ | refine d_pu 20 rfl (pu_pick_f rfl rfl) (by kernel_rfl) (by kernel_rfl) (by kernel_rfl) ?_
                refine d_pu 21 rfl (pu_move rfl) (by kernel_rfl) (by kernel_rfl) (by kernel_rfl) ?_
                refine d_split 82 rfl (fun h82 => by cases h82) (fun h82 => ?_)
                refine d_pu_on 22 rfl rfl rfl (pu_move rfl) (by kernel_rfl) (by kernel_rfl) (by kernel_rfl) ?_
                refine d_pu_on 23 rfl rfl rfl (pu_move rfl) (by kernel_rfl) (by kernel_rfl) (by kernel_rfl) ?_
                refine d_pu_on 24 rfl rfl rfl (pu_indexAddr (yo + x * 1) (congrArg some hxv) rfl (by omega) (by omega) (by rw [Int.toNat_natCast])) (by kernel_rfl) (by kernel_rfl) (by kernel_rfl) ?_
                refine d_rd_on 25 rfl rfl rfl (rd_ro rfl hxc) rfl (by kernel_rfl) (by kernel_rfl) (by kernel_rfl) ?_
                refine d_pu_on 26 rfl rfl rfl (pu_move rfl) (by kernel_rfl) (by kernel_rfl) (by kernel_rfl) ?_
                refine d_pu_on 27 rfl rfl rfl (pu_move rfl) (by kernel_rfl) (by kernel_rfl) (by kernel_rfl) ?_
                refine d_pu_on 28 rfl rfl rfl (pu_indexAddr (yo + y * 1) (congrArg some hxv) rfl (by omega) (by omega) (by rw [Int.toNat_natCast])) (by kernel_rfl) (by kernel_rfl) (by kernel_rfl) ?_
                refine d_rd_on 29 rfl rfl rfl (rd_ro rfl hyc) rfl (by kernel_rfl) (by kernel_rfl) (by kernel_rfl) ?_
                refine d_pu_on 31 rfl rfl rfl (pu_move rfl) (by kernel_rfl) (by kernel_rfl) (by kernel_rfl) ?_
                refine d_pu_on 32 rfl rfl rfl (pu_move rfl) (by kernel_rfl) (by kernel_rfl) (by kernel_rfl) ?_
                refine d_pu_on 33 rfl rfl rfl (pu_indexAddr (yo + x * 1) (congrArg some hxv) rfl (by omega) (by omega) (by rw [Int.toNat_natCast])) (by kernel_rfl) (by kernel_rfl) (by kernel_rfl) ?_
                refine d_rd_on 34 rfl rfl rfl (rd_ro rfl hxc) rfl (by kernel_rfl) (by kernel_rfl) (by kernel_rfl) ?_
                refine d_pu_on 35 rfl rfl rfl (pu_eql rfl rfl) (by kernel_rfl) (by kernel_rfl) (by kernel_rfl) ?_
                refine d_amb [30] (by kernel_rfl) rfl ?_
                refine dA_ef 30 rfl (GOn.some rfl rfl) (ef_fn (may_spec gx gy) rfl rfl (by repeat (first | exact Split.nil | (apply Split.cons; (repeat (first | with_reducible exact Take.here | apply Take.there)))))) ?_
                rintro v91 L1 ⟨rfl, rfl⟩
                refine ⟨_, ent_appC (Split.ent (by repeat (first | exact Split.nil | (apply Split.cons; (repeat (first | with_reducible exact Take.here | apply Take.there)))))), ?_⟩
                refine d_pu_on 36 rfl rfl rfl (pu_move rfl) (by kernel_rfl) (by kernel_rfl) (by kernel_rfl) ?_
                refine d_split 97 rfl (fun h97 => ?_) (fun h97 => ?_)
                · skip   -- 97 T
                  refine d_off 37 rfl rfl rfl rfl (by kernel_rfl) (by kernel_rfl) (by kernel_rfl) ?_
                  refine d_off 38 rfl rfl rfl rfl (by kernel_rfl) (by kernel_rfl) (by kernel_rfl) ?_
                  refine d_off 39 rfl rfl rfl rfl (by kernel_rfl) (by kernel_rfl) (by kernel_rfl) ?_
                  refine d_off 40 rfl rfl rfl rfl (by kernel_rfl) (by kernel_rfl) (by kernel_rfl) ?_
                  refine d_off 41 rfl rfl rfl rfl (by kernel_rfl) (by kernel_rfl) (by kernel_rfl) ?_
                  refine d_off 42 rfl rfl rfl rfl (by kernel_rfl) (by kernel_rfl) (by kernel_rfl) ?_
                  refine d_off 43 rfl rfl rfl rfl (by kernel_rfl) (by kernel_rfl) (by kernel_rfl) ?_
                  refine d_off 44 rfl rfl rfl rfl (by kernel_rfl) (by kernel_rfl) (by kernel_rfl) ?_
                  refine d_off 45 rfl rfl rfl rfl (by kernel_rfl) (by kernel_rfl) (by kernel_rfl) ?_
                  refine d_off 46 rfl rfl rfl rfl (by kernel_rfl) (by kernel_rfl) (by kernel_rfl) ?_
                  refine d_off 47 rfl rfl rfl rfl (by kernel_rfl) (by kernel_rfl) (by kernel_rfl) ?_
                  refine d_off 48 rfl rfl rfl rfl (by kernel_rfl) (by kernel_rfl) (by kernel_rfl) ?_
                  refine d_off 49 rfl rfl rfl rfl (by kernel_rfl) (by kernel_rfl) (by kernel_rfl) ?_
                  refine d_off 50 rfl rfl rfl rfl (by kernel_rfl) (by kernel_rfl) (by kernel_rfl) ?_
                  refine d_off 51 rfl rfl rfl rfl (by kernel_rfl) (by kernel_rfl) (by kernel_rfl) ?_
                  refine d_off 52 rfl rfl rfl rfl (by kernel_rfl) (by kernel_rfl) (by kernel_rfl) ?_
                  first | refine d_pu_on 53 rfl rfl rfl (pu_pick_t rfl rfl) (by kernel_rfl) (by kernel_rfl) (by kernel_rfl) ?_ | refine d_pu_on 53 rfl rfl rfl (pu_pick_f rfl rfl) (by kernel_rfl) (by kernel_rfl) (by kernel_rfl) ?_
                  refine d_pu_on 54 rfl rfl rfl (pu_bool_ne rfl rfl) (by kernel_rfl) (by kernel_rfl) (by kernel_rfl) ?_
                  first | refine d_pu 55 rfl (pu_pick_t rfl rfl) (by kernel_rfl) (by kernel_rfl) (by kernel_rfl) ?_ | refine d_pu 55 rfl (pu_pick_f rfl rfl) (by kernel_rfl) (by kernel_rfl) (by kernel_rfl) ?_
                  refine d_sub _ (.cons (t := 0) rfl (.cons (t := 5) rfl (.cons (t := 8) rfl (.cons (t := 9) rfl (.cons (t := 49) rfl (.cons (t := 50) rfl (.cons (t := 57) rfl (.cons (t := 58) rfl (.cons (t := 116) rfl .nil))))))))) ?_
                  first | refine d_nilt (by kernel_rfl) ?_ | refine d_nilf (by kernel_rfl) ?_
                  exact then_n ⟨⟨_, rfl, by clear hlow hrm; simp_all⟩, rfl⟩
                · skip   -- 97 F
                  refine d_pu_on 37 rfl rfl rfl (pu_move rfl) (by kernel_rfl) (by kernel_rfl) (by kernel_rfl) ?_
                  refine d_pu_on 38 rfl rfl rfl (pu_move rfl) (by kernel_rfl) (by kernel_rfl) (by kernel_rfl) ?_
                  refine d_pu_on 39 rfl rfl rfl (pu_indexAddr (yo + y * 1) (congrArg some hxv) rfl (by omega) (by omega) (by rw [Int.toNat_natCast])) (by kernel_rfl) (by kernel_rfl) (by kernel_rfl) ?_
                  refine d_rd_on 40 rfl rfl rfl (rd_ro rfl hyc) rfl (by kernel_rfl) (by kernel_rfl) (by kernel_rfl) ?_
                  refine d_pu_on 41 rfl rfl rfl (pu_neq rfl rfl) (by kernel_rfl) (by kernel_rfl) (by kernel_rfl) ?_
                  refine d_pu_on 42 rfl rfl rfl (pu_move rfl) (by kernel_rfl) (by kernel_rfl) (by kernel_rfl) ?_
                  refine d_split 103 rfl (fun h103 => ?_) (fun h103 => ?_)
                  · skip   -- 103 T
                    refine d_pu_on 43 rfl rfl rfl (pu_move rfl) (by kernel_rfl) (by kernel_rfl) (by kernel_rfl) ?_
                    refine d_pu_on 44 rfl rfl rfl (pu_move rfl) (by kernel_rfl) (by kernel_rfl) (by kernel_rfl) ?_
                    refine d_pu_on 45 rfl rfl rfl (pu_indexAddr (yo + x * 1) (congrArg some hxv) rfl (by omega) (by omega) (by rw [Int.toNat_natCast])) (by kernel_rfl) (by kernel_rfl) (by kernel_rfl) ?_
                    refine d_rd_on 46 rfl rfl rfl (rd_ro rfl hxc) rfl (by kernel_rfl) (by kernel_rfl) (by kernel_rfl) ?_
                    refine d_pu_on 47 rfl rfl rfl (pu_move rfl) (by kernel_rfl) (by kernel_rfl) (by kernel_rfl) ?_
                    refine d_pu_on 48 rfl rfl rfl (pu_move rfl) (by kernel_rfl) (by kernel_rfl) (by kernel_rfl) ?_
                    refine d_pu_on 49 rfl rfl rfl (pu_indexAddr (yo + y * 1) (congrArg some hxv) rfl (by omega) (by omega) (by rw [Int.toNat_natCast])) (by kernel_rfl) (by kernel_rfl) (by kernel_rfl) ?_
                    refine d_rd_on 50 rfl rfl rfl (rd_ro rfl hyc) rfl (by kernel_rfl) (by kernel_rfl) (by kernel_rfl) ?_
                    refine d_pu_on 51 rfl rfl rfl (pu_gtr rfl rfl) (by kernel_rfl) (by kernel_rfl) (by kernel_rfl) ?_
                    first | refine d_pu_on 52 rfl rfl rfl (pu_pick_t rfl rfl) (by kernel_rfl) (by kernel_rfl) (by kernel_rfl) ?_ | refine d_pu_on 52 rfl rfl rfl (pu_pick_f rfl rfl) (by kernel_rfl) (by kernel_rfl) (by kernel_rfl) ?_
                    first | refine d_pu_on 53 rfl rfl rfl (pu_pick_t rfl rfl) (by kernel_rfl) (by kernel_rfl) (by kernel_rfl) ?_ | refine d_pu_on 53 rfl rfl rfl (pu_pick_f rfl rfl) (by kernel_rfl) (by kernel_rfl) (by kernel_rfl) ?_
                    refine d_pu_on 54 rfl rfl rfl (pu_bool_ne rfl rfl) (by kernel_rfl) (by kernel_rfl) (by kernel_rfl) ?_
                    first | refine d_pu 55 rfl (pu_pick_t rfl rfl) (by kernel_rfl) (by kernel_rfl) (by kernel_rfl) ?_ | refine d_pu 55 rfl (pu_pick_f rfl rfl) (by kernel_rfl) (by kernel_rfl) (by kernel_rfl) ?_
                    refine d_sub _ (.cons (t := 0) rfl (.cons (t := 5) rfl (.cons (t := 8) rfl (.cons (t := 9) rfl (.cons (t := 49) rfl (.cons (t := 50) rfl (.cons (t := 57) rfl (.cons (t := 58) rfl (.cons (t := 116) rfl .nil))))))))) ?_
                    first | refine d_nilt (by kernel_rfl) ?_ | refine d_nilf (by kernel_rfl) ?_
                    exact then_n ⟨⟨_, rfl, by clear hlow hrm; simp_all⟩, rfl⟩
                  · skip   -- 103 F
                    refine d_off 43 rfl rfl rfl rfl (by kernel_rfl) (by kernel_rfl) (by kernel_rfl) ?_
                    refine d_off 44 rfl rfl rfl rfl (by kernel_rfl) (by kernel_rfl) (by kernel_rfl) ?_
                    refine d_off 45 rfl rfl rfl rfl (by kernel_rfl) (by kernel_rfl) (by kernel_rfl) ?_
                    refine d_off 46 rfl rfl rfl rfl (by kernel_rfl) (by kernel_rfl) (by kernel_rfl) ?_
                    refine d_off 47 rfl rfl rfl rfl (by kernel_rfl) (by kernel_rfl) (by kernel_rfl) ?_
                    refine d_off 48 rfl rfl rfl rfl (by kernel_rfl) (by kernel_rfl) (by kernel_rfl) ?_
                    refine d_off 49 rfl rfl rfl rfl (by kernel_rfl) (by kernel_rfl) (by kernel_rfl) ?_
                    refine d_off 50 rfl rfl rfl rfl (by kernel_rfl) (by kernel_rfl) (by kernel_rfl) ?_
                    refine d_off 51 rfl rfl rfl rfl (by kernel_rfl) (by kernel_rfl) (by kernel_rfl) ?_
                    first | refine d_pu_on 52 rfl rfl rfl (pu_pick_t rfl rfl) (by kernel_rfl) (by kernel_rfl) (by kernel_rfl) ?_ | refine d_pu_on 52 rfl rfl rfl (pu_pick_f rfl rfl) (by kernel_rfl) (by kernel_rfl) (by kernel_rfl) ?_
                    first | refine d_pu_on 53 rfl rfl rfl (pu_pick_t rfl rfl) (by kernel_rfl) (by kernel_rfl) (by kernel_rfl) ?_ | refine d_pu_on 53 rfl rfl rfl (pu_pick_f rfl rfl) (by kernel_rfl) (by kernel_rfl) (by kernel_rfl) ?_
                    refine d_pu_on 54 rfl rfl rfl (pu_bool_ne rfl rfl) (by kernel_rfl) (by kernel_rfl) (by kernel_rfl) ?_
                    first | refine d_pu 55 rfl (pu_pick_t rfl rfl) (by kernel_rfl) (by kernel_rfl) (by kernel_rfl) ?_ | refine d_pu 55 rfl (pu_pick_f rfl rfl) (by kernel_rfl) (by kernel_rfl) (by kernel_rfl) ?_
                    refine d_sub _ (.cons (t := 0) rfl (.cons (t := 5) rfl (.cons (t := 8) rfl (.cons (t := 9) rfl (.cons (t := 49) rfl (.cons (t := 50) rfl (.cons (t := 57) rfl (.cons (t := 58) rfl (.cons (t := 116) rfl .nil))))))))) ?_
                    first | refine d_nilt (by kernel_rfl) ?_ | refine d_nilf (by kernel_rfl) ?_
                    exact then_n ⟨⟨_, rfl, by clear hlow hrm; simp_all⟩, rfl⟩
            · skip   -- 64 F
              refine d_off 4 rfl rfl rfl rfl (by kernel_rfl) (by kernel_rfl) (by kernel_rfl) ?_
              refine d_off 5 rfl rfl rfl rfl (by kernel_rfl) (by kernel_rfl) (by kernel_rfl) ?_
              refine d_off 6 rfl rfl rfl rfl (by kernel_rfl) (by kernel_rfl) (by kernel_rfl) ?_
              refine d_off 7 rfl rfl rfl rfl (by kernel_rfl) (by kernel_rfl) (by kernel_rfl) ?_
              first | refine d_pu 8 rfl (pu_pick_t rfl rfl) (by kernel_rfl) (by kernel_rfl) (by kernel_rfl) ?_ | refine d_pu 8 rfl (pu_pick_f rfl rfl) (by kernel_rfl) (by kernel_rfl) (by kernel_rfl) ?_
              refine d_pu 9 rfl (pu_move rfl) (by kernel_rfl) (by kernel_rfl) (by kernel_rfl) ?_
              refine d_split 70 rfl (fun h70 => by cases h70) (fun h70 => ?_)
              refine d_off 10 rfl rfl rfl rfl (by kernel_rfl) (by kernel_rfl) (by kernel_rfl) ?_
              refine d_off 11 rfl rfl rfl rfl (by kernel_rfl) (by kernel_rfl) (by kernel_rfl) ?_
              refine d_off 12 rfl rfl rfl rfl (by kernel_rfl) (by kernel_rfl) (by kernel_rfl) ?_
              refine d_off 13 rfl rfl rfl rfl (by kernel_rfl) (by kernel_rfl) (by kernel_rfl) ?_
              refine d_off 14 rfl rfl rfl rfl (by kernel_rfl) (by kernel_rfl) (by kernel_rfl) ?_
              refine d_off 15 rfl rfl rfl rfl (by kernel_rfl) (by kernel_rfl) (by kernel_rfl) ?_
              refine d_off 16 rfl rfl rfl rfl (by kernel_rfl) (by kernel_rfl) (by kernel_rfl) ?_
              refine d_off 17 rfl rfl rfl rfl (by kernel_rfl) (by kernel_rfl) (by kernel_rfl) ?_
              refine d_off 18 rfl rfl rfl rfl (by kernel_rfl) (by kernel_rfl) (by kernel_rfl) ?_
              refine d_off 19 rfl rfl rfl rfl (by kernel_rfl) (by kernel_rfl) (by kernel_rfl) ?_
              first | refine d_pu 20 rfl (pu_pick_t rfl rfl) (by kernel_rfl) (by kernel_rfl) (by kernel_rfl) ?_ | refine d_pu 20 rfl (pu_pick_f rfl rfl) (by kernel_rfl) (by kernel_rfl) (by kernel_rfl) ?_
              refine d_pu 21 rfl (pu_move rfl) (by kernel_rfl) (by kernel_rfl) (by kernel_rfl) ?_
              refine d_split 82 rfl (fun h82 => by cases h82) (fun h82 => ?_)
              refine d_pu_on 22 rfl rfl rfl (pu_move rfl) (by kernel_rfl) (by kernel_rfl) (by kernel_rfl) ?_
              refine d_pu_on 23 rfl rfl rfl (pu_move rfl) (by kernel_rfl) (by kernel_rfl) (by kernel_rfl) ?_
              refine d_pu_on 24 rfl rfl rfl (pu_indexAddr (yo + x * 1) (congrArg some hxv) rfl (by omega) (by omega) (by rw [Int.toNat_natCast])) (by kernel_rfl) (by kernel_rfl) (by kernel_rfl) ?_
              refine d_rd_on 25 rfl rfl rfl (rd_ro rfl hxc) rfl (by kernel_rfl) (by kernel_rfl) (by kernel_rfl) ?_
              refine d_pu_on 26 rfl rfl rfl (pu_move rfl) (by kernel_rfl) (by kernel_rfl) (by kernel_rfl) ?_
              refine d_pu_on 27 rfl rfl rfl (pu_move rfl) (by kernel_rfl) (by kernel_rfl) (by kernel_rfl) ?_
              refine d_pu_on 28 rfl rfl rfl (pu_indexAddr (yo + y * 1) (congrArg some hxv) rfl (by omega) (by omega) (by rw [Int.toNat_natCast])) (by kernel_rfl) (by kernel_rfl) (by kernel_rfl) ?_
              refine d_rd_on 29 rfl rfl rfl (rd_ro rfl hyc) rfl (by kernel_rfl) (by kernel_rfl) (by kernel_rfl) ?_
              refine d_pu_on 31 rfl rfl rfl (pu_move rfl) (by kernel_rfl) (by kernel_rfl) (by kernel_rfl) ?_
              refine d_pu_on 32 rfl rfl rfl (pu_move rfl) (by kernel_rfl) (by kernel_rfl) (by kernel_rfl) ?_
              refine d_pu_on 33 rfl rfl rfl (pu_indexAddr (yo + x * 1) (congrArg some hxv) rfl (by omega) (by omega) (by rw [Int.toNat_natCast])) (by kernel_rfl) (by kernel_rfl) (by kernel_rfl) ?_
              refine d_rd_on 34 rfl rfl rfl (rd_ro rfl hxc) rfl (by kernel_rfl) (by kernel_rfl) (by kernel_rfl) ?_
              refine d_pu_on 35 rfl rfl rfl (pu_eql rfl rfl) (by kernel_rfl) (by kernel_rfl) (by kernel_rfl) ?_
              refine d_amb [30] (by kernel_rfl) rfl ?_
              refine dA_ef 30 rfl (GOn.some rfl rfl) (ef_fn (may_spec gx gy) rfl rfl (by repeat (first | exact Split.nil | (apply Split.cons; (repeat (first | with_reducible exact Take.here | apply Take.there)))))) ?_
              rintro v91 L1 ⟨rfl, rfl⟩
              refine ⟨_, ent_appC (Split.ent (by repeat (first | exact Split.nil | (apply Split.cons; (repeat (first | with_reducible exact Take.here | apply Take.there)))))), ?_⟩
              refine d_pu_on 36 rfl rfl rfl (pu_move rfl) (by kernel_rfl) (by kernel_rfl) (by kernel_rfl) ?_
              refine d_split 97 rfl (fun h97 => ?_) (fun h97 => ?_)
              · skip   -- 97 T
                refine d_off 37 rfl rfl rfl rfl (by kernel_rfl) (by kernel_rfl) (by kernel_rfl) ?_
                refine d_off 38 rfl rfl rfl rfl (by kernel_rfl) (by kernel_rfl) (by kernel_rfl) ?_
                refine d_off 39 rfl rfl rfl rfl (by kernel_rfl) (by kernel_rfl) (by kernel_rfl) ?_
                refine d_off 40 rfl rfl rfl rfl (by kernel_rfl) (by kernel_rfl) (by kernel_rfl) ?_
                refine d_off 41 rfl rfl rfl rfl (by kernel_rfl) (by kernel_rfl) (by kernel_rfl) ?_
                refine d_off 42 rfl rfl rfl rfl (by kernel_rfl) (by kernel_rfl) (by kernel_rfl) ?_
                refine d_off 43 rfl rfl rfl rfl (by kernel_rfl) (by kernel_rfl) (by kernel_rfl) ?_
                refine d_off 44 rfl rfl rfl rfl (by kernel_rfl) (by kernel_rfl) (by kernel_rfl) ?_
                refine d_off 45 rfl rfl rfl rfl (by kernel_rfl) (by kernel_rfl) (by kernel_rfl) ?_
                refine d_off 46 rfl rfl rfl rfl (by kernel_rfl) (by kernel_rfl) (by kernel_rfl) ?_
                refine d_off 47 rfl rfl rfl rfl (by kernel_rfl) (by kernel_rfl) (by kernel_rfl) ?_
                refine d_off 48 rfl rfl rfl rfl (by kernel_rfl) (by kernel_rfl) (by kernel_rfl) ?_
                refine d_off 49 rfl rfl rfl rfl (by kernel_rfl) (by kernel_rfl) (by kernel_rfl) ?_
                refine d_off 50 rfl rfl rfl rfl (by kernel_rfl) (by kernel_rfl) (by kernel_rfl) ?_
                refine d_off 51 rfl rfl rfl rfl (by kernel_rfl) (by kernel_rfl) (by kernel_rfl) ?_
                refine d_off 52 rfl rfl rfl rfl (by kernel_rfl) (by kernel_rfl) (by kernel_rfl) ?_
                first | refine d_pu_on 53 rfl rfl rfl (pu_pick_t rfl rfl) (by kernel_rfl) (by kernel_rfl) (by kernel_rfl) ?_ | refine d_pu_on 53 rfl rfl rfl (pu_pick_f rfl rfl) (by kernel_rfl) (by kernel_rfl) (by kernel_rfl) ?_
                refine d_pu_on 54 rfl rfl rfl (pu_bool_ne rfl rfl) (by kernel_rfl) (by kernel_rfl) (by kernel_rfl) ?_
                first | refine d_pu 55 rfl (pu_pick_t rfl rfl) (by kernel_rfl) (by kernel_rfl) (by kernel_rfl) ?_ | refine d_pu 55 rfl (pu_pick_f rfl rfl) (by kernel_rfl) (by kernel_rfl) (by kernel_rfl) ?_
                refine d_sub _ (.cons (t := 0) rfl (.cons (t := 5) rfl (.cons (t := 8) rfl (.cons (t := 9) rfl (.cons (t := 49) rfl (.cons (t := 50) rfl (.cons (t := 57) rfl (.cons (t := 58) rfl (.cons (t := 116) rfl .nil))))))))) ?_
                first | refine d_nilt (by kernel_rfl) ?_ | refine d_nilf (by kernel_rfl) ?_
                exact then_n ⟨⟨_, rfl, by clear hlow hrm; simp_all⟩, rfl⟩
              · skip   -- 97 F
                refine d_pu_on 37 rfl rfl rfl (pu_move rfl) (by kernel_rfl) (by kernel_rfl) (by kernel_rfl) ?_
                refine d_pu_on 38 rfl rfl rfl (pu_move rfl) (by kernel_rfl) (by kernel_rfl) (by kernel_rfl) ?_
                refine d_pu_on 39 rfl rfl rfl (pu_indexAddr (yo + y * 1) (congrArg some hxv) rfl (by omega) (by omega) (by rw [Int.toNat_natCast])) (by kernel_rfl) (by kernel_rfl) (by kernel_rfl) ?_
                refine d_rd_on 40 rfl rfl rfl (rd_ro rfl hyc) rfl (by kernel_rfl) (by kernel_rfl) (by kernel_rfl) ?_
                refine d_pu_on 41 rfl rfl rfl (pu_neq rfl rfl) (by kernel_rfl) (by kernel_rfl) (by kernel_rfl) ?_
                refine d_pu_on 42 rfl rfl rfl (pu_move rfl) (by kernel_rfl) (by kernel_rfl) (by kernel_rfl) ?_
                refine d_split 103 rfl (fun h103 => ?_) (fun h103 => ?_)
                · skip   -- 103 T
                  refine d_pu_on 43 rfl rfl rfl (pu_move rfl) (by kernel_rfl) (by kernel_rfl) (by kernel_rfl) ?_
                  refine d_pu_on 44 rfl rfl rfl (pu_move rfl) (by kernel_rfl) (by kernel_rfl) (by kernel_rfl) ?_
                  refine d_pu_on 45 rfl rfl rfl (pu_indexAddr (yo + x * 1) (congrArg some hxv) rfl (by omega) (by omega) (by rw [Int.toNat_natCast])) (by kernel_rfl) (by kernel_rfl) (by kernel_rfl) ?_
                  refine d_rd_on 46 rfl rfl rfl (rd_ro rfl hxc) rfl (by kernel_rfl) (by kernel_rfl) (by kernel_rfl) ?_
                  refine d_pu_on 47 rfl rfl rfl (pu_move rfl) (by kernel_rfl) (by kernel_rfl) (by kernel_rfl) ?_
                  refine d_pu_on 48 rfl rfl rfl (pu_move rfl) (by kernel_rfl) (by kernel_rfl) (by kernel_rfl) ?_
                  refine d_pu_on 49 rfl rfl rfl (pu_indexAddr (yo + y * 1) (congrArg some hxv) rfl (by omega) (by omega) (by rw [Int.toNat_natCast])) (by kernel_rfl) (by kernel_rfl) (by kernel_rfl) ?_
                  refine d_rd_on 50 rfl rfl rfl (rd_ro rfl hyc) rfl (by kernel_rfl) (by kernel_rfl) (by kernel_rfl) ?_
                  refine d_pu_on 51 rfl rfl rfl (pu_gtr rfl rfl) (by kernel_rfl) (by kernel_rfl) (by kernel_rfl) ?_
                  first | refine d_pu_on 52 rfl rfl rfl (pu_pick_t rfl rfl) (by kernel_rfl) (by kernel_rfl) (by kernel_rfl) ?_ | refine d_pu_on 52 rfl rfl rfl (pu_pick_f rfl rfl) (by kernel_rfl) (by kernel_rfl) (by kernel_rfl) ?_
                  first | refine d_pu_on 53 rfl rfl rfl (pu_pick_t rfl rfl) (by kernel_rfl) (by kernel_rfl) (by kernel_rfl) ?_ | refine d_pu_on 53 rfl rfl rfl (pu_pick_f rfl rfl) (by kernel_rfl) (by kernel_rfl) (by kernel_rfl) ?_
                  refine d_pu_on 54 rfl rfl rfl (pu_bool_ne rfl rfl) (by kernel_rfl) (by kernel_rfl) (by kernel_rfl) ?_
                  first | refine d_pu 55 rfl (pu_pick_t rfl rfl) (by kernel_rfl) (by kernel_rfl) (by kernel_rfl) ?_ | refine d_pu 55 rfl (pu_pick_f rfl rfl) (by kernel_rfl) (by kernel_rfl) (by kernel_rfl) ?_
                  refine d_sub _ (.cons (t := 0) rfl (.cons (t := 5) rfl (.cons (t := 8) rfl (.cons (t := 9) rfl (.cons (t := 49) rfl (.cons (t := 50) rfl (.cons (t := 57) rfl (.cons (t := 58) rfl (.cons (t := 116) rfl .nil))))))))) ?_
                  first | refine d_nilt (by kernel_rfl) ?_ | refine d_nilf (by kernel_rfl) ?_
                  exact then_n ⟨⟨_, rfl, by clear hlow hrm; simp_all⟩, rfl⟩
                · skip   -- 103 F
                  refine d_off 43 rfl rfl rfl rfl (by kernel_rfl) (by kernel_rfl) (by kernel_rfl) ?_
                  refine d_off 44 rfl rfl rfl rfl (by kernel_rfl) (by kernel_rfl) (by kernel_rfl) ?_
                  refine d_off 45 rfl rfl rfl rfl (by kernel_rfl) (by kernel_rfl) (by kernel_rfl) ?_
                  refine d_off 46 rfl rfl rfl rfl (by kernel_rfl) (by kernel_rfl) (by kernel_rfl) ?_
                  refine d_off 47 rfl rfl rfl rfl (by kernel_rfl) (by kernel_rfl) (by kernel_rfl) ?_
                  refine d_off 48 rfl rfl rfl rfl (by kernel_rfl) (by kernel_rfl) (by kernel_rfl) ?_
                  refine d_off 49 rfl rfl rfl rfl (by kernel_rfl) (by kernel_rfl) (by kernel_rfl) ?_
                  refine d_off 50 rfl rfl rfl rfl (by kernel_rfl) (by kernel_rfl) (by kernel_rfl) ?_
                  refine d_off 51 rfl rfl rfl rfl (by kernel_rfl) (by kernel_rfl) (by kernel_rfl) ?_
                  first | refine d_pu_on 52 rfl rfl rfl (pu_pick_t rfl rfl) (by kernel_rfl) (by kernel_rfl) (by kernel_rfl) ?_ | refine d_pu_on 52 rfl rfl rfl (pu_pick_f rfl rfl) (by kernel_rfl) (by kernel_rfl) (by kernel_rfl) ?_
                  first | refine d_pu_on 53 rfl rfl rfl (pu_pick_t rfl rfl) (by kernel_rfl) (by kernel_rfl) (by kernel_rfl) ?_ | refine d_pu_on 53 rfl rfl rfl (pu_pick_f rfl rfl) (by kernel_rfl) (by kernel_rfl) (by kernel_rfl) ?_
                  refine d_pu_on 54 rfl rfl rfl (pu_bool_ne rfl rfl) (by kernel_rfl) (by kernel_rfl) (by kernel_rfl) ?_
                  first | refine d_pu 55 rfl (pu_pick_t rfl rfl) (by kernel_rfl) (by kernel_rfl) (by kernel_rfl) ?_ | refine d_pu 55 rfl (pu_pick_f rfl rfl) (by kernel_rfl) (by kernel_rfl) (by kernel_rfl) ?_
                  refine d_sub _ (.cons (t := 0) rfl (.cons (t := 5) rfl (.cons (t := 8) rfl (.cons (t := 9) rfl (.cons (t := 49) rfl (.cons (t := 50) rfl (.cons (t := 57) rfl (.cons (t := 58) rfl (.cons (t := 116) rfl .nil))))))))) ?_
                  first | refine d_nilt (by kernel_rfl) ?_ | refine d_nilf (by kernel_rfl) ?_
                  exact then_n ⟨⟨_, rfl, by clear hlow hrm; simp_all⟩, rfl⟩
          rintro env L ⟨⟨b, rfl, rfl⟩, rfl⟩
          refine swp_cond (b := _) rfl (fun h116 => by cases h116) (fun h116 => ?_)
          refine swp_skip ?_
          refine block_n ?_
          refine then_n ?_
          refine swp_region ?_
          refine s_pu (pu_add_as ((y + 1 : Nat) : Int) rfl rfl (by omega) (by omega) (by omega)) ?_
          refine s_pu (pu_move rfl) ?_
          refine swl_sub _ (.cons (t := 0) rfl (.cons (t := 5) rfl (.cons (t := 8) rfl (.cons (t := 9) rfl (.cons (t := 49) rfl (.cons (t := 50) rfl (.cons (t := 57) rfl (.cons (t := 58) rfl .nil)))))))) ?_
          refine swl_nil ?_
          exact then_n ⟨y + 1, ⟨rfl, rfl, h59'⟩, by omega⟩
        · skip   -- 59 F
          refine swp_ent (Split.ent' (K := [ro μ4]) (by repeat (first | exact Split.nil | (apply Split.cons; (repeat (first | with_reducible exact Take.here | apply Take.there)))))) ?_
          refine swp_exit ?_
          refine then_x ?_
          refine then_x ?_
          refine block_hit rfl ?_
          refine block_n ?_
          refine then_n ?_
          refine swp_region ?_
          refine s_pu (pu_add_as ((x + 1 : Nat) : Int) rfl rfl (by omega) (by omega) (by omega)) ?_
          refine s_pu (pu_move rfl) ?_
          refine swl_sub _ (.cons (t := 0) rfl (.cons (t := 5) rfl (.cons (t := 49) rfl (.cons (t := 50) rfl .nil)))) ?_
          refine swl_nil ?_
          exact then_n ⟨x + 1, ⟨rfl, rfl, h51'⟩, by omega⟩
      · skip   -- 51 F
        refine swp_exit ?_
        refine then_x ?_
        refine then_x ?_
        refine block_hit rfl ?_
        refine then_n ?_
        refine swp_seq ?_
        refine swp_region ?_
        refine s_pu (pu_assign rfl) ?_
        refine swl_sub _ (.cons (t := 4) rfl .nil) ?_
        refine swl_nil ?_
        refine then_n ?_
        refine swp_ret ?_
        exact done_ret [ro μ4] (.tmp rfl .nil) ⟨rfl, μ4, [], h1.trans (h3.trans h4), rfl⟩ (by repeat (first | exact Split.nil | (apply Split.cons; (repeat (first | with_reducible exact Take.here | apply Take.there)))))
end SX
namespace SX
open Go Go.Proofs

end SX
namespace SX
open Go Go.Proofs

end SX
