/- A range over a function whose iterator keeps something of its own from round to round. -/
import Derived.Test.YtplekpdckcidjaaSxRange
namespace SX
open Go
variable {P : Program} {Q : Post} {N : Nat} {env : Env} {L : List Assn}

/-- an iterator's contract: A is lent to the loop's body, K is kept (K' behind the last round) -/
def IterK {α : Type} (P : Program) (f : FuncId) (ca : List Value) (enc : α → List Value) (ok : List α → α → Prop) (fin : List α → Prop) (A : List Assn) (K K' : Assn) : Prop :=
  ∀ (l : Nat) (I : List α → Assn) (X R : Assn), Ent (A ++ [R]) [I []] →
    (∀ pre x, ok pre x → YSp P l (enc x) [I pre] (fun v L' => (v = .bool true ∧ L' = [I (pre ++ [x])]) ∨ (v = .bool false ∧ L' = [X]))) →
    Spec P f (yv l :: ca) (A ++ [R, K]) (fun _ L' => (∃ ys, fin ys ∧ L' = [I ys, K']) ∨ L' = [X, K'])

theorem swp_rangeK {α : Type} {g : Operand} {ps : List Tmp} {assign body : Code} {f : FuncId} [hbf : Body P f] {ca : List Value} {enc : α → List Value} {ok : List α → α → Prop} {fin : List α → Prop} {A B : List Assn} {K K' : Assn}
    (it : IterK P f ca enc ok fin A K K') (C : List α → Assn) (Cr : Assn) (Cx : Nat → Assn)
    (hg : evalE env g = some (.func (.func f) #[] ca.toArray)) (hps : ps.all (Nat.blt · N) = true) (hlen : ∀ x, (enc x).length = ps.length)
    (hL : Ent L (K :: (A ++ B))) (h0 : Ent (A ++ B) [C []])
    (round : ∀ l pre x, ok pre x → swp P (some l) assign (SThen (fun env' L' => swp P (some l) body (RndQ (C (pre ++ [x])) Cr Cx) N env' L') (fun _ _ _ => False)) N (bindE ps (enc x) env) [C pre])
    (kn : ∀ ys, fin ys → Q .normal env [C ys, K']) (kr : swp P none .ret Q N env [Cr, K']) (kx : ∀ i, swp P none (.exit i) Q N env [Cx i, K']) :
    swp P none (.rangeFunc g ps.toArray assign body) Q N env L := by
  intro E D a w hd hf hh
  refine wpIn_rangeFunc fun fn _ => ?_
  obtain ⟨rec, hr⟩ : ∃ rec : LoopState → Option Code → Loop, rec = fun st pe => { state := st, pending := pe, fn, tmps := a.tmps, params := ps.toArray, assign, body, defers := w.heap.size } := ⟨_, rfl⟩
  have hrec : RecOf rec N env ps assign body := ⟨fn, a.tmps, w.heap.size, ⟨hf.1, hf.2⟩, hr⟩
  have hW1 := (hh.alloc (.deferred (some []))).alloc (.loop (rec .ready none))
  rw [World.size_alloc] at hW1
  have hE := hf.ev _ _ hg
  refine ⟨w.heap.size + 1, [mark w.heap.size], (w.alloc (.deferred (some []))).alloc (.loop (rec .ready none)), { target := .fn (.func f) ca.toArray, args := #[yv (w.heap.size + 1)] }, (w.alloc (.deferred (some []))).alloc (.loop (rec .ready none)), f, #[yv (w.heap.size + 1)] ++ ca.toArray, (w.alloc (.deferred (some []))).alloc (.loop (rec .ready none)),
    by rw [hr]; exact run_enterLoop_outer _ _ _ _ _, ?_, fun _ _ => trivial, ?_, fun hd => (by cases hd), ?_⟩
  · simp only [resolve, hE]
    simp [go_sem, yv]
  · simp [invoke, go_sem, run_callFunc]
  · have hs := it (w.heap.size + 1) (fun pre => star [lp rec (w.heap.size + 1) .ready none, C pre]) (Left rec (w.heap.size + 1) Cr Cx) (star (lp rec (w.heap.size + 1) .ready none :: B))
      (by
        refine (Ent.perm List.perm_append_comm).trans ?_
        refine star_ent.trans ?_
        refine Ent.trans (L2 := lp rec (w.heap.size + 1) .ready none :: [C []]) (Ent.cons ?_) star_close1
        exact (Ent.perm List.perm_append_comm).trans h0)
      (fun pre x hok => ysp_round hrec (hlen x) hps (round _ pre x hok))
    have hE2 : H (E.add (w.heap.size :: D)) ((w.alloc (.deferred (some []))).alloc (.loop (rec .ready none))) (A ++ [star (lp rec (w.heap.size + 1) .ready none :: B), K]) := by
      have b1 : H (E.add (w.heap.size :: D)) ((w.alloc (.deferred (some []))).alloc (.loop (rec .ready none))) (lp rec (w.heap.size + 1) .ready none :: L) := by
        refine ⟨hW1.1, hW1.2.1, hW1.2.2.1, hW1.2.2.2.1, Sat.perm ?_ _ hW1.2.2.2.2⟩
        show ((dfr D ++ E.X) ++ (_ :: one _ _ :: L)).Perm ((one _ _ :: (dfr D ++ E.X)) ++ (_ :: L))
        exact (List.Perm.append_left _ (.swap _ _ _)).trans List.perm_middle
      refine b1.ent ((Ent.cons hL).trans ?_)
      refine Ent.trans (L2 := K :: (star (lp rec (w.heap.size + 1) .ready none :: B) :: A)) ?_ ?_
      · refine Ent.swap.trans (Ent.cons ?_)
        refine Ent.trans ?_ (star_close (K := lp rec (w.heap.size + 1) .ready none :: B) (L := A))
        exact Ent.perm (List.Perm.cons _ List.perm_append_comm)
      · refine Ent.swap.trans ?_
        exact Ent.perm (List.perm_append_comm (l₁ := [_, _]))
    have hc := hs _ _ hE2
    have ha : (yv (w.heap.size + 1) :: ca).toArray = #[yv (w.heap.size + 1)] ++ ca.toArray := by simp
    rw [ha] at hc
    refine fw_calls (hc.mono fun e w3 ⟨v, L', he, hp, h3⟩ => ?_)
    subst he
    have hd2 : ({ a with defers := [mark w.heap.size] ++ a.defers } : Act).defers = (w.heap.size :: D).map mark := by simp [hd]
    have fin2 : ∀ {st : LoopState} {pe : Option Code} {M : List Assn}, st ≠ .busy → H (E.add (w.heap.size :: D)) w3 (lp rec (w.heap.size + 1) st pe :: M) →
        ∃ w4, (Instr.endLoop (w.heap.size + 1)).run P w3 = .ok pe w4 ∧ H (E.add (w.heap.size :: D)) w4 M := by
      intro st pe M hst h4
      rw [hr] at h4
      exact ⟨_, run_endLoop (h4.one_get .here) hst, (h4.loop).ent Ent.drop⟩
    rcases hp with ⟨ys, hy, rfl⟩ | rfl
    · obtain ⟨w4, r4, h4⟩ := fin2 (by decide) (h3.ent (star_ent (L := [K'])))
      exact ⟨none, w4, r4, _, env, _, hd2, ⟨hf.1, hf.2⟩, h4, kn ys hy⟩
    · have h5 : H (E.add (w.heap.size :: D)) w3 [lp rec (w.heap.size + 1) .done (some .ret), Cr, K'] ∨ ∃ i, H (E.add (w.heap.size :: D)) w3 [lp rec (w.heap.size + 1) .done (some (.exit i)), Cx i, K'] := by
        obtain ⟨q1, q2, q3, q4, q5⟩ := h3
        obtain ⟨m1, m2, z1, z2, z3, z4, z5⟩ := Sat.perm (perm_out (.refl _)) _ q5
        have back : ∀ {M1 M2 : Assn}, Sat [M1, M2] m1 → Sat ((E.add (w.heap.size :: D)).X ++ [M1, M2, K']) (fun b => w3.heap[b]?) := fun {M1 M2} z => by
          have s1 : Sat (M1 :: M2 :: ((E.add (w.heap.size :: D)).X ++ [K'])) (fun b => w3.heap[b]?) := star_open ⟨m1, m2, z, z2, z3, z4, z5⟩
          exact Sat.perm ((perm_out (.refl _)).trans (List.Perm.cons _ (perm_out (.refl _)))).symm _ s1
        rcases z1 with z1 | ⟨i, z1⟩
        · exact .inl ⟨q1, q2, q3, q4, back z1⟩
        · exact .inr ⟨i, q1, q2, q3, q4, back z1⟩
      rcases h5 with h5 | ⟨i, h5⟩
      · obtain ⟨w4, r4, h4⟩ := fin2 (by decide) h5
        exact ⟨some .ret, w4, r4, kr E _ _ w4 hd2 ⟨hf.1, hf.2⟩ h4⟩
      · obtain ⟨w4, r4, h4⟩ := fin2 (by decide) h5
        exact ⟨some (.exit i), w4, r4, kx i E _ _ w4 hd2 ⟨hf.1, hf.2⟩ h4⟩
end SX
