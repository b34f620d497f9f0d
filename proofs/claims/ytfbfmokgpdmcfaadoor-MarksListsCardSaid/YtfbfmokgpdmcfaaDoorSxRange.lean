/- A range over a function: the rounds as calls of yield, the statement by its iterator's contract. -/
import Derived.Test.YtfbfmokgpdmcfaaDoorSxMore
import Derived.RangeFuncRecord
namespace SX
open Go
variable {P : Program} {Q : Post} {N : Nat} {env : Env} {L : List Assn}

def star (K : List Assn) : Assn := Sat K
theorem star_open {K L : List Assn} {m : PH} (h : Sat (star K :: L) m) : Sat (K ++ L) m := by
  have := exA_open (α := Unit) (F := fun _ => K) (L := L) (m := m) (h.imp fun _ k => ⟨(), k⟩)
  obtain ⟨_, h⟩ := this
  exact h
theorem star_close {K L : List Assn} : Ent (K ++ L) (star K :: L) := fun m h => ((exA_close (F := fun _ : Unit => K) (L := L) ()) m h).imp fun _ ⟨_, k⟩ => k
theorem star_ent {K L : List Assn} : Ent (star K :: L) (K ++ L) := fun _ h => star_open h

theorem star_close1 {K : List Assn} : Ent K [star K] := fun m h => star_close (L := []) m (by rw [List.append_nil]; exact h)

/-- a value of yield -/
def yv (l : Nat) : Value := .func (.yield l) #[] #[]
/-- one round, seen from the iterator -/
def YSp (P : Program) (l : Nat) (args : List Value) (pre : List Assn) (post : Value → List Assn → Prop) : Prop :=
  ∀ E w, H E w pre → ∃ f tmps assign body, (Instr.yield l args.toArray).run P w = .ok (.round l f tmps assign body) w ∧
    ∀ ro, RoundIn (FW ro) 0 P l f tmps assign body w fun e w' => ∃ v L', e = .returned v ∧ post v L' ∧ H E w' L'
theorem YSp.mono {l : Nat} {args : List Value} {pre : List Assn} {post post' : Value → List Assn → Prop} (h : YSp P l args pre post) (hh : ∀ v L, post v L → post' v L) : YSp P l args pre post' := fun E w hw => by
  obtain ⟨f, t, a, b, h1, h2⟩ := h E w hw
  exact ⟨f, t, a, b, h1, fun ro => (h2 ro).mono fun e w' ⟨v, L', e1, p, k⟩ => ⟨v, L', e1, hh _ _ p, k⟩⟩

theorem ef_yield {l : Nat} {fo : Operand} {xs : Array Operand} {ats : Array TypeId} {args : List Value} {pre R : List Assn} {post : Value → List Assn → Prop}
    (h : YSp P l args pre post) (hfo : evalE env fo = some (yv l)) (hxs : xs.toList.map (evalE env) = args.map some) (hL : Split L pre R) :
    Ef P env L (.call { callee := .value fo, args := xs, argTypes := ats }) (fun k => ∀ v L', post v L' → k v (L' ++ R)) := by
  intro ro dst ty pos af g N E a w next Q k hfr hh hk hn
  obtain ⟨f, tmps, assign, body, h1, h2⟩ := h _ w (hh.ent hL.ent).hide
  have hr : (execOp a.eval ⟨dst, .call { callee := .value fo, args := xs, argTypes := ats }, ty, pos, af, g⟩).run P w = .ok (.round l f tmps assign body) w := by
    have e1 := args_of hfr.ev hxs
    have e2 := hfr.ev _ _ hfo
    simp [execOp, resolve, e2, yv, Deferred.ofValue, invoke, e1, h1]
  refine ⟨fun _ _ => trivial, ?_⟩
  rw [Oper.semAt_eq _ _ _ (not_defer (by intro d hd; cases hd) hr), hr]
  refine ⟨fun hd => (by cases hd), (h2 ro).mono fun e w' ⟨v, L', he, hp, h'⟩ => ?_⟩
  subst he
  exact hn v w' (L' ++ R) (hk v L' hp) h'.show_

/-! ### the rounds -/
def bindE : List Tmp → List Value → Env → Env
  | t :: ts, v :: vs, env => bindE ts vs ((t, v) :: env)
  | _, _, env => env
def bindT : List Tmp → List Value → Array Value → Array Value
  | t :: ts, v :: vs, a => bindT ts vs (a.setIfInBounds t v)
  | _, _, a => a
theorem bindT_eq : ∀ (ps : List Tmp) (vs : List Value) (a : Array Value), (ps.toArray.zip vs.toArray).foldl (fun t (x : Tmp × Value) => t.setIfInBounds x.1 x.2) a = bindT ps vs a := by
  intro ps vs a
  rw [← Array.foldl_toList]
  simp only [Array.toList_zip]
  induction ps generalizing vs a with
  | nil => simp [bindT]
  | cons t ps ih =>
    cases vs with
    | nil => simp [bindT]
    | cons v vs => simpa [bindT] using ih vs _
theorem Fr.bind : ∀ (ps : List Tmp) (vs : List Value) (a : Array Value) (env : Env) (ds : List Deferred), ps.all (Nat.blt · N) = true → Fr N { tmps := a, defers := ds } env → Fr N { tmps := bindT ps vs a, defers := ds } (bindE ps vs env)
  | [], _, _, _, _, _, h => by simpa [bindT, bindE] using h
  | _ :: _, [], _, _, _, _, h => by simpa [bindT, bindE] using h
  | t :: ps, v :: vs, a, env, ds, hp, h => by
    simp only [List.all_cons, Bool.and_eq_true] at hp
    exact Fr.bind ps vs _ _ ds hp.2 (h.put hp.1 v)

def RecOf (rec : LoopState → Option Code → Loop) (N : Nat) (env : Env) (ps : List Tmp) (assign body : Code) : Prop :=
  ∃ fn tmps D, Fr N { tmps := tmps, defers := [] } env ∧ rec = fun st pe => { state := st, pending := pe, fn, tmps, params := ps.toArray, assign, body, defers := D }
def lp (rec : LoopState → Option Code → Loop) (l : Nat) (st : LoopState) (pe : Option Code) : Assn := one l (.loop (rec st pe))

/-- how a round may end -/
def RndQ (C : Assn) (Cr : Assn) (Cx : Nat → Assn) : Post
  | .normal, _, L => Ent L [C]
  | .ret, _, L => Ent L [Cr]
  | .exit i, _, L => Ent L [Cx i]
  | _, _, _ => False
theorem rnd_n {C Cr : Assn} {Cx : Nat → Assn} (h : Ent L [C]) : RndQ C Cr Cx .normal env L := h
theorem rnd_r {C Cr : Assn} {Cx : Nat → Assn} (h : Ent L [Cr]) : RndQ C Cr Cx .ret env L := h
theorem rnd_x {C Cr : Assn} {Cx : Nat → Assn} {i : Nat} (h : Ent L [Cx i]) : RndQ C Cr Cx (.exit i) env L := h

/-- what a loop that is left leaves -/
def Left (rec : LoopState → Option Code → Loop) (l : Nat) (Cr : Assn) (Cx : Nat → Assn) : Assn := fun m =>
  Sat [lp rec l .done (some .ret), Cr] m ∨ ∃ i, Sat [lp rec l .done (some (.exit i)), Cx i] m

theorem H.drop {E : Ctx} {w : World} {L R : List Assn} (h : H E w (L ++ R)) : H E w L := h.ent (by
  have key : ∀ K : List Assn, Ent (K ++ R) K := fun K => by
    induction K with
    | nil => exact fun _ _ => trivial
    | cons A K ih => exact Ent.cons ih
  exact key L)
theorem H.undfr {E : Ctx} {D : List Nat} {w : World} {L : List Assn} (h : H (E.add D) w L) : H E w L :=
  ⟨h.1, h.2.1, h.2.2.1, h.2.2.2.1, by
    have k := h.2.2.2.2
    have k2 : Sat (dfr D ++ (E.X ++ L)) (fun b => w.heap[b]?) := by rw [← List.append_assoc]; exact k
    have key : ∀ (X K : List Assn) m, Sat (X ++ K) m → Sat K m := fun X K => by
      induction X with
      | nil => exact fun _ h => h
      | cons A X ih => exact fun m h => ih m h.tail
    exact key _ _ _ k2⟩

theorem H.loop {E : Ctx} {w : World} {L : List Assn} {l : Nat} {r r' : Loop} (h : H E w (one l (.loop r) :: L)) : H E (w.putObj l (.loop r')) (one l (.loop r') :: L) := by
  have hb := h.one_get .here
  refine h.upd (.here) _ rfl rfl rfl (by simp) (World.putObj_heap_same (Array.getElem?_eq_some_iff.1 hb).1) fun k hk => World.putObj_heap_other hk

theorem ysp_round {rec : LoopState → Option Code → Loop} {l : Nat} {ps : List Tmp} {assign body : Code} (hrec : RecOf rec N env ps assign body) {args : List Value} {Ci C Cr : Assn} {Cx : Nat → Assn}
    (hlen : args.length = ps.length) (hps : ps.all (Nat.blt · N) = true)
    (h : swp P (some l) assign (SThen (fun env' L' => swp P (some l) body (RndQ C Cr Cx) N env' L') (fun _ _ _ => False)) N (bindE ps args env) [Ci]) :
    YSp P l args [star [lp rec l .ready none, Ci]] (fun v L' => (v = .bool true ∧ L' = [star [lp rec l .ready none, C]]) ∨ (v = .bool false ∧ L' = [Left rec l Cr Cx])) := by
  intro E w hw
  obtain ⟨fn, tmps, DD, hfr, hreq⟩ := hrec
  have hw1 : H E w [lp rec l .ready none, Ci] := hw.ent (star_ent (L := []))
  have hl := hw1.one_get .here
  have p1 : (rec .ready none).params = ps.toArray := by rw [hreq]
  have p2 : (rec .ready none).tmps = tmps := by rw [hreq]
  have p3 : (rec .ready none).assign = assign := by rw [hreq]
  have p4 : (rec .ready none).body = body := by rw [hreq]
  have p5 : (rec .ready none).state = .ready := by rw [hreq]
  have p6 : ({ rec .ready none with state := .busy } : Loop) = rec .busy none := by rw [hreq]
  refine ⟨_, _, _, _, run_yield hl (by rw [p1]; simpa using hlen), fun ro => ?_⟩
  have h0 := bindT_eq ps args tmps
  rw [p1, p2, p3, p4]
  refine roundIn_of_wpIn (F := FW ro) trivial ?_
  have hfr' := Fr.bind ps args tmps env [] hps hfr
  have hw2 : H (Ctx.add ⟨E.w, E.X ++ [lp rec l .ready none]⟩ []) w [Ci] := H.hide (L := [Ci]) (R := [lp rec l .ready none]) (hw1.ent (Ent.perm (.swap _ _ _)))
  have key := h ⟨E.w, E.X ++ [lp rec l .ready none]⟩ [] { tmps := bindT ps args tmps, defers := [] } w rfl hfr' hw2
  rw [← h0] at key
  refine wpIn_mono key fun e a' w' hq => ?_
  cases e with
  | normal =>
    obtain ⟨D', env', L', d', f', h', k⟩ := hq
    have g1 : H ⟨E.w, E.X ++ [lp rec l .ready none]⟩ w' L' := h'.undfr
    have g2 : H E w' (lp rec l .ready none :: L') := (g1.show_).ent (Ent.perm List.perm_append_comm)
    have hl' := g2.one_get .here
    refine ⟨_, run_beginRound hl' p5, ?_⟩
    rw [p6]
    have h1 : H (Ctx.add ⟨E.w, E.X ++ [lp rec l .busy none]⟩ D') (w'.putObj l (.loop (rec .busy none))) L' := by
      have a1 : H ⟨E.w, dfr D' ++ E.X⟩ w' (one l (.loop (rec .ready none)) :: L') := by
        refine ⟨h'.1, h'.2.1, h'.2.2.1, h'.2.2.2.1, Sat.perm ?_ _ h'.2.2.2.2⟩
        show ((dfr D' ++ (E.X ++ [_])) ++ L').Perm ((dfr D' ++ E.X) ++ (_ :: L'))
        simp only [List.append_assoc, List.singleton_append]
        exact .refl _
      have a2 := a1.loop (r' := rec .busy none)
      refine ⟨a2.1, a2.2.1, a2.2.2.1, a2.2.2.2.1, Sat.perm ?_ _ a2.2.2.2.2⟩
      show ((dfr D' ++ E.X) ++ (_ :: L')).Perm ((dfr D' ++ (E.X ++ [_])) ++ L')
      simp only [List.append_assoc, List.singleton_append]
      exact .refl _
    refine wpIn_mono (k _ D' a' _ d' f' h1) fun e2 a2 w2 hq2 => ?_
    have fin : ∀ {D2 : List Nat} {L2 : List Assn} {C2 : Assn} (jump : Option Code), H (Ctx.add ⟨E.w, E.X ++ [lp rec l .busy none]⟩ D2) w2 L2 → Ent L2 [C2] →
        ∃ w3, (Instr.endRound l jump).run P w2 = .ok (.bool jump.isNone) w3 ∧ H E w3 [lp rec l (if jump.isNone then .ready else .done) jump, C2] := by
      intro D2 L2 C2 jump hh he
      have b1 : H E w2 [lp rec l .busy none, C2] := ((hh.undfr.ent he).show_).ent (Ent.perm List.perm_append_comm)
      have b2 := b1.loop (r' := rec (if jump.isNone then .ready else .done) jump)
      have b3 := run_endRound (P := P) jump (b1.one_get .here)
      refine ⟨_, b3, ?_⟩
      have e9 : ({ rec .busy none with state := if jump.isNone then .ready else .done, pending := jump } : Loop) = rec (if jump.isNone then .ready else .done) jump := by rw [hreq]
      rw [e9]; exact b2
    cases e2 with
    | normal =>
      obtain ⟨D2, env2, L2, d2, f2, h2, k2⟩ := hq2
      obtain ⟨w3, r3, h3⟩ := fin none h2 k2
      exact ⟨_, w3, r3, _, _, rfl, .inl ⟨rfl, rfl⟩, h3.ent star_close1⟩
    | ret =>
      obtain ⟨D2, env2, L2, d2, f2, h2, k2⟩ := hq2
      obtain ⟨w3, r3, h3⟩ := fin (some .ret) h2 k2
      exact ⟨_, w3, r3, _, _, rfl, .inr ⟨rfl, rfl⟩, (h3.ent star_close1).ent (Ent.imp fun m hm => .inl hm)⟩
    | exit i =>
      obtain ⟨D2, env2, L2, d2, f2, h2, k2⟩ := hq2
      obtain ⟨w3, r3, h3⟩ := fin (some (.exit i)) h2 k2
      exact ⟨_, w3, r3, _, _, rfl, .inr ⟨rfl, rfl⟩, (h3.ent star_close1).ent (Ent.imp fun m hm => .inr ⟨i, hm⟩)⟩
    | goto t => obtain ⟨D2, env2, L2, d2, f2, h2, k2⟩ := hq2; exact k2.elim
    | panic c => exact hq2.elim
    | outgrown => exact hq2.elim
  | ret => obtain ⟨D', env', L', d', f', h', k⟩ := hq; exact k.elim
  | exit i => obtain ⟨D', env', L', d', f', h', k⟩ := hq; exact k.elim
  | goto t => obtain ⟨D', env', L', d', f', h', k⟩ := hq; exact k.elim
  | panic c => exact hq.elim
  | outgrown => exact hq.elim

/-- an iterator's contract: it owns A (or lends it), and gives what ok lets it give -/
def Iter {α : Type} (P : Program) (f : FuncId) (ca : List Value) (enc : α → List Value) (ok : List α → α → Prop) (fin : List α → Prop) (A : List Assn) : Prop :=
  ∀ (l : Nat) (I : List α → Assn) (X R : Assn), Ent (A ++ [R]) [I []] →
    (∀ pre x, ok pre x → YSp P l (enc x) [I pre] (fun v L' => (v = .bool true ∧ L' = [I (pre ++ [x])]) ∨ (v = .bool false ∧ L' = [X]))) →
    Spec P f (yv l :: ca) (A ++ [R]) (fun _ L' => (∃ ys, fin ys ∧ L' = [I ys]) ∨ L' = [X])

theorem swp_range {α : Type} {g : Operand} {ps : List Tmp} {assign body : Code} {f : FuncId} [hbf : Body P f] {ca : List Value} {enc : α → List Value} {ok : List α → α → Prop} {fin : List α → Prop} {A B : List Assn}
    (it : Iter P f ca enc ok fin A) (C : List α → Assn) (Cr : Assn) (Cx : Nat → Assn)
    (hg : evalE env g = some (.func (.func f) #[] ca.toArray)) (hps : ps.all (Nat.blt · N) = true) (hlen : ∀ x, (enc x).length = ps.length)
    (hL : Ent L (A ++ B)) (h0 : Ent (A ++ B) [C []])
    (round : ∀ l pre x, ok pre x → swp P (some l) assign (SThen (fun env' L' => swp P (some l) body (RndQ (C (pre ++ [x])) Cr Cx) N env' L') (fun _ _ _ => False)) N (bindE ps (enc x) env) [C pre])
    (kn : ∀ ys, fin ys → Q .normal env [C ys]) (kr : swp P none .ret Q N env [Cr]) (kx : ∀ i, swp P none (.exit i) Q N env [Cx i]) :
    swp P none (.rangeFunc g ps.toArray assign body) Q N env L := by
  intro E D a w hd hf hh
  refine wpIn_rangeFunc fun fn _ => ?_
  obtain ⟨rec, hr⟩ : ∃ rec : LoopState → Option Code → Loop, rec = fun st pe => { state := st, pending := pe, fn, tmps := a.tmps, params := ps.toArray, assign, body, defers := w.heap.size } := ⟨_, rfl⟩
  have hrec : RecOf rec N env ps assign body := ⟨fn, a.tmps, w.heap.size, ⟨hf.1, hf.2⟩, hr⟩
  have hW1 := (hh.alloc (.deferred (some []))).alloc (.loop (rec .ready none))
  rw [World.size_alloc] at hW1
  have hE := hf.ev _ _ hg
  refine ⟨w.heap.size + 1, [mark w.heap.size], (w.alloc (.deferred (some []))).alloc (.loop (rec .ready none)), { target := .fn (.func f) ca.toArray, args := #[yv (w.heap.size + 1)] }, (w.alloc (.deferred (some []))).alloc (.loop (rec .ready none)), f, #[yv (w.heap.size + 1)] ++ ca.toArray, (w.alloc (.deferred (some []))).alloc (.loop (rec .ready none)),
    by rw [hr]; exact run_enterLoop_outer _ _ _ _ _, ?_, fun _ _ => trivial, ?_, fun hd => (by cases hd), ?_⟩
  · simp only [resolve, hE]
    simp [go_sem, yv]
  · simp [invoke, go_sem, run_callFunc]
  · have hs := it (w.heap.size + 1) (fun pre => star [lp rec (w.heap.size + 1) .ready none, C pre]) (Left rec (w.heap.size + 1) Cr Cx) (star (lp rec (w.heap.size + 1) .ready none :: B))
      (by
        refine (Ent.perm List.perm_append_comm).trans ?_
        refine star_ent.trans ?_
        refine Ent.trans (L2 := lp rec (w.heap.size + 1) .ready none :: [C []]) (Ent.cons ?_) star_close1
        exact (Ent.perm List.perm_append_comm).trans h0)
      (fun pre x hok => ysp_round hrec (hlen x) hps (round _ pre x hok))
    have hE2 : H (E.add (w.heap.size :: D)) ((w.alloc (.deferred (some []))).alloc (.loop (rec .ready none))) (A ++ [star (lp rec (w.heap.size + 1) .ready none :: B)]) := by
      have b1 : H (E.add (w.heap.size :: D)) ((w.alloc (.deferred (some []))).alloc (.loop (rec .ready none))) (lp rec (w.heap.size + 1) .ready none :: L) := by
        refine ⟨hW1.1, hW1.2.1, hW1.2.2.1, hW1.2.2.2.1, Sat.perm ?_ _ hW1.2.2.2.2⟩
        show ((dfr D ++ E.X) ++ (_ :: one _ _ :: L)).Perm ((one _ _ :: (dfr D ++ E.X)) ++ (_ :: L))
        exact (List.Perm.append_left _ (.swap _ _ _)).trans List.perm_middle
      refine b1.ent ((Ent.cons hL).trans ?_)
      refine Ent.trans ?_ ((star_close (K := lp rec (w.heap.size + 1) .ready none :: B) (L := A)).trans (Ent.perm (List.perm_append_comm (l₁ := [_]))))
      exact Ent.perm (List.Perm.cons _ List.perm_append_comm)
    have hc := hs _ _ hE2
    have ha : (yv (w.heap.size + 1) :: ca).toArray = #[yv (w.heap.size + 1)] ++ ca.toArray := by simp
    rw [ha] at hc
    refine fw_calls (hc.mono fun e w3 ⟨v, L', he, hp, h3⟩ => ?_)
    subst he
    have hd2 : ({ a with defers := [mark w.heap.size] ++ a.defers } : Act).defers = (w.heap.size :: D).map mark := by simp [hd]
    have fin2 : ∀ {st : LoopState} {pe : Option Code} {K : Assn}, st ≠ .busy → H (E.add (w.heap.size :: D)) w3 [lp rec (w.heap.size + 1) st pe, K] →
        ∃ w4, (Instr.endLoop (w.heap.size + 1)).run P w3 = .ok pe w4 ∧ H (E.add (w.heap.size :: D)) w4 [K] := by
      intro st pe K hst h4
      rw [hr] at h4
      exact ⟨_, run_endLoop (h4.one_get .here) hst, (h4.loop).ent Ent.drop⟩
    rcases hp with ⟨ys, hy, rfl⟩ | rfl
    · obtain ⟨w4, r4, h4⟩ := fin2 (by decide) (h3.ent (star_ent (L := [])))
      exact ⟨none, w4, r4, _, env, _, hd2, ⟨hf.1, hf.2⟩, h4, kn ys hy⟩
    · have h5 : H (E.add (w.heap.size :: D)) w3 [lp rec (w.heap.size + 1) .done (some .ret), Cr] ∨ ∃ i, H (E.add (w.heap.size :: D)) w3 [lp rec (w.heap.size + 1) .done (some (.exit i)), Cx i] := by
        obtain ⟨q1, q2, q3, q4, q5⟩ := h3
        obtain ⟨m1, m2, z1, z2, z3, z4, z5⟩ := Sat.perm (List.perm_append_comm) _ q5
        rcases z1 with z1 | ⟨i, z1⟩
        · exact .inl ⟨q1, q2, q3, q4, Sat.perm (List.perm_append_comm) _ (star_open ⟨m1, m2, z1, z2, z3, z4, z5⟩)⟩
        · exact .inr ⟨i, q1, q2, q3, q4, Sat.perm (List.perm_append_comm) _ (star_open ⟨m1, m2, z1, z2, z3, z4, z5⟩)⟩
      rcases h5 with h5 | ⟨i, h5⟩
      · obtain ⟨w4, r4, h4⟩ := fin2 (by decide) h5
        exact ⟨some .ret, w4, r4, kr E _ _ w4 hd2 ⟨hf.1, hf.2⟩ h4⟩
      · obtain ⟨w4, r4, h4⟩ := fin2 (by decide) h5
        exact ⟨some (.exit i), w4, r4, kx i E _ _ w4 hd2 ⟨hf.1, hf.2⟩ h4⟩
end SX
