/- More operations: append, make, slice, method calls, results. -/
import Derived.Test.YtfbfmokgpdmcfaaDoorSxDraw
import Derived.RangeFuncLeaves
namespace SX
open Go

section
variable {P : Program} {env : Env} {L : List Assn}

theorem run_builtin_append {ρ : Operand → Value} {x y : Operand} {t t' : TypeId} {dst : Option Tmp} {tt : TypeId} {pos : String} {af : Array Edge} {g : Option (Nat × Bool)} {w w' : World} {v : Value}
    (h : (Builtin.append_ #[t, t'] tt #[ρ x, ρ y]).run P w = .ok v w') : (execOp ρ ⟨dst, .call { callee := .builtin .append, args := #[x, y], argTypes := #[t, t'] }, tt, pos, af, g⟩).run P w = .ok (.value v) w' := by
  simp [execOp, resolve, invoke, builtin, h]

/-- append of what a literal's fresh block holds; the block is dropped -/
theorem ef_append_lit {t e n by_ : Nat} [ht : TSl P t e n by_] {zs : List Value} [hz : TZero P e zs] {x y : Operand} {v : Value} {l sb m c sty : Nat} {xs news : List Value} {R : List Assn}
    (hx : evalE env x = some v) (hy : evalE env y = some (.slice (some ⟨sb, 0, none⟩) m c)) (hL : Split L [own e n v l xs, blk sb sty news] R) (h63 : l + m ≤ maxLen) (hby : (l + m) * by_ ≤ 140737488355328) (hzl : zs.length = n := by rfl) (hn0 : 0 < n := by decide) (hnl : news.length = m * n := by rfl) (h1 : news.all Value.oneCell' = true := by rfl) :
    Ef P env L (.call { callee := .builtin .append, args := #[x, y], argTypes := #[t, t] }) (fun k => ∀ v', (m ≠ 0 → ∃ g cap, v' = .slice (some ⟨g, 0, none⟩) (l + m) cap) → k v' (own e n v' (l + m) (xs ++ news) :: R)) := by
  intro ro dst tt pos af g N E a w next Q k hf hh hk hn
  have h2 := hh.ent hL.ent
  have hsrc : w.heap[sb]? = some (.cells news.toArray sty (0, 0)) := h2.one_get (.there .here)
  obtain ⟨v', w', hrun, h', hform⟩ := H.append (P := P) ht hz hzl hn0 h2 hsrc news hnl (fun j u hj => by rw [Nat.zero_add]; exact hj) h1 h63 hby tt
  exact wpIn_value (run_builtin_append (v := v') (w' := w') (by rw [hf.ev x _ hx, hf.ev y _ hy]; exact hrun)) <| hn _ _ _ (hk v' hform) (h'.ent (Ent.swap.trans Ent.drop))

/-- a slice of the call's own, laid open -/
theorem own_open {e n : Nat} {v : Value} {l : Nat} {xs : List Value} {m : PH} (h : Sat (own e n v l xs :: L) m) :
    (v = .slice none 0 0 ∧ l = 0 ∧ xs = []) ∨ ∃ b cap ex, v = .slice (some ⟨b, 0, none⟩) l cap ∧ l ≤ cap ∧ cap ≤ maxLen ∧ xs.length = l * n ∧ ex.length = (cap - l) * n ∧ Sat (blk b e (xs ++ ex) :: L) m := by
  obtain ⟨m1, m2, ⟨hl, ho⟩, h2, hd, s1, s2⟩ := h
  rcases ho with ⟨rfl, rfl⟩ | ⟨g, cap, cur, rfl, hg, h3, h4, h5, h6⟩
  · exact .inl ⟨rfl, rfl, List.eq_nil_of_length_eq_zero (by simpa using hl)⟩
  · refine .inr ⟨g, cap, cur.toList.drop (l * n), rfl, h3, h4, hl, ?_, m1, m2, ?_, h2, hd, s1, s2⟩
    · rw [List.length_drop, Array.length_toList, h5, Nat.sub_mul]
    · show m1 g = _
      rw [hg, ← h6, List.take_append_drop]
theorem own_close {e n b l cap : Nat} {xs ex : List Value} (hl : xs.length = l * n) (hx : ex.length = (cap - l) * n) (h1 : l ≤ cap) (h2 : cap ≤ maxLen) : Ent (blk b e (xs ++ ex) :: L) (own e n (.slice (some ⟨b, 0, none⟩) l cap) l xs :: L) :=
  Ent.imp fun m hm => ⟨hl, .inr ⟨b, cap, (xs ++ ex).toArray, rfl, hm, h1, h2, by rw [List.size_toArray, List.length_append, hl, hx, ← Nat.add_mul]; congr 1; omega, by simp [← hl]⟩⟩
theorem swp_own {ro : Option Nat} {Q : Post} {N : Nat} {c : Code} {e n : Nat} {v : Value} {l : Nat} {xs : List Value}
    (h0 : v = .slice none 0 0 → l = 0 → xs = [] → swp P ro c Q N env L)
    (h1 : ∀ b cap ex, v = .slice (some ⟨b, 0, none⟩) l cap → l ≤ cap → cap ≤ maxLen → xs.length = l * n → ex.length = (cap - l) * n → swp P ro c Q N env (blk b e (xs ++ ex) :: L)) : swp P ro c Q N env (own e n v l xs :: L) := by
  intro E D a w hd hf hh
  obtain ⟨k1, k2, k3, k4, k5⟩ := hh
  have k6 : Sat (own e n v l xs :: ((E.add D).X ++ L)) (fun b => w.heap[b]?) := Sat.perm (perm_out (.refl _)) _ k5
  rcases own_open k6 with ⟨a1, a2, a3⟩ | ⟨b, cap, ex, a1, a2, a3, a4, a5, a6⟩
  · exact h0 a1 a2 a3 E D a w hd hf ⟨k1, k2, k3, k4, k6.tail⟩
  · exact h1 b cap ex a1 a2 a3 a4 a5 E D a w hd hf ⟨k1, k2, k3, k4, Sat.perm (perm_out (.refl _)).symm _ a6⟩

/-! ### Calls through a function value, and through an interface -/
theorem args_of {xs : Array Operand} {args : List Value} {ρ : Operand → Value} (hρ : Ev ρ env) (hxs : xs.toList.map (evalE env) = args.map some) : xs.map ρ = args.toArray := by
  apply Array.ext'
  rw [Array.toList_map]
  have key : ∀ (xs : List Operand) (args : List Value), xs.map (evalE env) = args.map some → xs.map ρ = args := by
    intro xs
    induction xs with
    | nil => intro args h; cases args <;> simp_all
    | cons x xs ih =>
      intro args h
      cases args with
      | nil => simp at h
      | cons v vs =>
        simp only [List.map_cons, List.cons.injEq] at h
        rw [List.map_cons, hρ _ _ h.1, ih vs h.2]
  simpa using key xs.toList args hxs

/-- f is a function with a body -/
class Body (P : Program) (f : FuncId) : Prop where
  ok : ∃ fn, P.funcs[f]? = some fn ∧ fn.body.isNone = false ∧ (fn.name == "runtime.NumGoroutine") = false
theorem run_callFunc {f : FuncId} [hb : Body P f] (args : Array Value) (w : World) : (callFunc f args).run P w = .ok (.enter f args) w := by
  obtain ⟨fn, h1, h2, h3⟩ := hb.ok
  simp only [callFunc, Sem.run_bind, run_program, Result.andThen_ok, h1, h3, h2]
  simp

theorem ef_enter {op : Op} {f : FuncId} {args : List Value} {pre R : List Assn} {post : Value → List Assn → Prop} (h : Spec P f args pre post) (hL : Split L pre R)
    (hrun : ∀ ρ, Ev ρ env → ∀ dst ty pos af g w, (execOp ρ ⟨dst, op, ty, pos, af, g⟩).run P w = .ok (.enter f args.toArray) w) : Ef P env L op (fun k => ∀ v L', post v L' → k v (L' ++ R)) := by
  intro ro dst ty pos af g N E a w next Q k hfr hh hk hn
  refine wpIn_enter (hrun _ hfr.ev _ _ _ _ _ _) ((h.frame (hh.ent hL.ent)).mono fun e w' ⟨v, L', he, hp, h'⟩ => ⟨v, he, ?_⟩)
  exact hn v w' (L' ++ R) (hk v L' hp) h'

theorem ef_fn {f : FuncId} [hb : Body P f] {fo : Operand} {xs : Array Operand} {ats : Array TypeId} {args : List Value} {pre R : List Assn} {post : Value → List Assn → Prop}
    (h : Spec P f args pre post) (hfo : evalE env fo = some (.func (.func f) #[] #[])) (hxs : xs.toList.map (evalE env) = args.map some) (hL : Split L pre R) :
    Ef P env L (.call { callee := .value fo, args := xs, argTypes := ats }) (fun k => ∀ v L', post v L' → k v (L' ++ R)) :=
  ef_enter h hL fun ρ hρ dst ty pos af g w => by
    have e1 := args_of hρ hxs
    have e2 := hρ _ _ hfo
    simp [execOp, resolve, e2, Deferred.ofValue, invoke, e1, run_callFunc]
theorem ef_clo {f : FuncId} [hb : Body P f] {fo : Operand} {xs : Array Operand} {ats : Array TypeId} {fi ca args : List Value} {pre R : List Assn} {post : Value → List Assn → Prop}
    (h : Spec P f (fi ++ args ++ ca) pre post) (hfo : evalE env fo = some (.func (.func f) fi.toArray ca.toArray)) (hxs : xs.toList.map (evalE env) = args.map some) (hL : Split L pre R) :
    Ef P env L (.call { callee := .value fo, args := xs, argTypes := ats }) (fun k => ∀ v L', post v L' → k v (L' ++ R)) :=
  ef_enter h hL fun ρ hρ dst ty pos af g w => by
    have e1 := args_of hρ hxs
    have e2 := hρ _ _ hfo
    simp [execOp, resolve, e2, Deferred.ofValue, invoke, e1, run_callFunc]
/-- the method of a type's values -/
class Meth (P : Program) (t : TypeId) (name : String) (f : outParam FuncId) : Prop where
  ok : ∀ (v : Value) (w : World), (method (P.types.size + Made.depth) t v name).run P w = .ok (f, v) w
theorem ef_inv {f : FuncId} {ro : Operand} {name : String} {xs : Array Operand} {ats : Array TypeId} {t : TypeId} {v : Value} {args : List Value} {pre R : List Assn} {post : Value → List Assn → Prop}
    (hro : evalE env ro = some (.iface t v)) [hm : Meth P t name f] [hb : Body P f] (h : Spec P f (v :: args) pre post) (hxs : xs.toList.map (evalE env) = args.map some) (hL : Split L pre R) :
    Ef P env L (.call { callee := .invoke ro name, args := xs, argTypes := ats }) (fun k => ∀ v L', post v L' → k v (L' ++ R)) :=
  ef_enter h hL fun ρ hρ dst ty pos af g w => by
    have e1 := args_of hρ hxs
    have e2 := hρ _ _ hro
    have e3 : (#[Value.iface t v] ++ args.toArray).extract 1 (#[Value.iface t v] ++ args.toArray).size = args.toArray := by simp
    simp [execOp, resolve, e2, invoke, e1, callMethod, hm.ok, run_callFunc]

/-! ### The end of a function -/
inductive ResOk (P : Program) (env : Env) (L : List Assn) : List ResultVar → List Value → Prop
  | nil : ResOk P env L [] []
  | tmp {t : Nat} {v : Value} {rs : List ResultVar} {vs : List Value} (h : look env t = some v) (k : ResOk P env L rs vs) : ResOk P env L (.tmp t :: rs) (v :: vs)
  | cell {t : Nat} {ty : TypeId} {ad : Addr} {v : Value} {rs : List ResultVar} {vs : List Value} (h : look env t = some (.pointer (some ad))) (hl : Ld P L ty ad v) (k : ResOk P env L rs vs) : ResOk P env L (.cell t ty :: rs) (v :: vs)

def resV : List Value → Value
  | [v] => v
  | vs => .tuple vs.toArray
def resF (a : Act) : ResultVar → Sem Value
  | .tmp t => pure (a.tmps.getD t undef)
  | .cell c t => do loadVar t (← asAddr (a.tmps.getD c undef))
theorem resF_tmp {a : Act} {t : Nat} {v : Value} (h : a.tmps[t]? = some v) (P : Program) (w : World) : (resF a (.tmp t)).run P w = .ok v w := by simp [resF, h]
theorem resF_cell {a : Act} {t : Nat} {ad : Addr} {v : Value} {ty : TypeId} (h : a.tmps[t]? = some (.pointer (some ad))) {P : Program} {w : World} (hl : (loadVar ty ad).run P w = .ok v w) : (resF a (.cell t ty)).run P w = .ok v w := by
  simp [resF, h, asAddr, hl]
theorem run_results {fn : Func} {N : Nat} {a : Act} {E : Ctx} {w : World} {vs : List Value} (hf : Fr N a env) (hh : H E w L) (h : ResOk P env L fn.results.toList vs) : (results fn a.tmps).run P w = .ok (resV vs) w := by
  have key : ∀ (rs : List ResultVar) (vs : List Value), ResOk P env L rs vs → (rs.mapM (resF a)).run P w = .ok vs w := by
    intro rs vs h
    induction h with
    | nil => simp
    | tmp h _ ih => rw [List.mapM_cons, Sem.run_bind, resF_tmp (hf.2 _ _ h)]; simp [ih]
    | cell h hl _ ih => rw [List.mapM_cons, Sem.run_bind, resF_cell (hf.2 _ _ h) (hl E w hh)]; simp [ih]
  have k := key _ _ h
  have e : (fn.results.mapM (resF a)).run P w = .ok vs.toArray w := by
    rw [Array.mapM_eq_mapM_toList, Sem.run_map, k]; rfl
  unfold results
  rw [Sem.run_bind]
  refine Eq.trans (congrArg (fun r => Result.andThen r _) e) ?_
  simp only [Result.andThen_ok, Sem.run_pure]
  congr 1
  match vs with
  | [] => simp [resV]
  | [v] => simp [resV]
  | v :: u :: vs => simp [resV]

/-- what is to be shown where a function ends -/
def Done (P : Program) (fn : Func) (N : Nat) (post : Value → List Assn → Prop) : Post := fun e env L => (match e with | .ret | .normal => True | _ => False) ∧
        ∀ E a w, Fr N a env → H E w L → ∃ v L', (results fn a.tmps).run P w = .ok v w ∧ post v L' ∧ H E w L'
theorem done_ret {fn : Func} {N : Nat} {post : Value → List Assn → Prop} {vs : List Value} (L' : List Assn) (h : ResOk P env L fn.results.toList vs) (hp : post (resV vs) L') {R : List Assn} (hL : Split L L' R) : Done P fn N post .ret env L :=
  ⟨trivial, fun _ _ _ hf hh => ⟨_, L', run_results hf hh h, hp, hh.ent hL.ent'⟩⟩
theorem done_end {fn : Func} {N : Nat} {post : Value → List Assn → Prop} {vs : List Value} (L' : List Assn) (h : ResOk P env L fn.results.toList vs) (hp : post (resV vs) L') {R : List Assn} (hL : Split L L' R) : Done P fn N post .normal env L :=
  ⟨trivial, fun _ _ _ hf hh => ⟨_, L', run_results hf hh h, hp, hh.ent hL.ent'⟩⟩

theorem done_retE {fn : Func} {N : Nat} {post : Value → List Assn → Prop} {vs : List Value} (L' : List Assn) (h : ResOk P env L fn.results.toList vs) (hp : post (resV vs) L') (hL : Ent L L') : Done P fn N post .ret env L :=
  ⟨trivial, fun _ _ _ hf hh => ⟨_, L', run_results hf hh h, hp, hh.ent hL⟩⟩
theorem done_endE {fn : Func} {N : Nat} {post : Value → List Assn → Prop} {vs : List Value} (L' : List Assn) (h : ResOk P env L fn.results.toList vs) (hp : post (resV vs) L') (hL : Ent L L') : Done P fn N post .normal env L :=
  ⟨trivial, fun _ _ _ hf hh => ⟨_, L', run_results hf hh h, hp, hh.ent hL⟩⟩
/-- the marks are met on the way out -/
theorem run_takeDeferred {w : World} {r : Nat} (h : w.heap[r]? = some (.deferred (some []))) : (Instr.takeDeferred r).run P w = .ok [] { w with heap := w.heap.setIfInBounds r (.deferred none) } := by
  simp [Instr.takeDeferred, getObj, setObj, Sem.run, h]
theorem unwinds {E : Ctx} {cs : List Frame} : ∀ (D : List Nat) (fr : Frame) (w : World), fr.mode = .returning → fr.defers = D.map mark → H (E.add D) w L →
    ∃ w', H E w' L ∧ Steps P (lone fr cs w) (lone { fr with defers := [] } cs w')
  | [], fr, w, _, hd, hh => ⟨w, hh, by
      have : { fr with defers := [] } = fr := by cases fr; simp_all
      rw [this]; exact .refl _ _⟩
  | r :: D, fr, w, hm, hd, hh => by
    have hr : w.heap[r]? = some (.deferred (some [])) := by
      obtain ⟨m1, m2, h1, _, _, s1, _⟩ := hh.2.2.2.2
      exact s1 r _ h1
    have hh' : H (E.add D) { w with heap := w.heap.setIfInBounds r (.deferred none) } L := by
      obtain ⟨k1, k2, k3, k4, m1, m2, h1, h2, hd', s1, s2⟩ := hh
      refine ⟨k1, k2, k3, by simpa [Ctx.add] using k4, h2.mono fun b o hb => ?_⟩
      have hne : b ≠ r := by
        rintro rfl
        rcases hd' b with h | h
        · unfold one at h1; rw [h1] at h; cases h
        · rw [h] at hb; cases hb
      show (w.heap.setIfInBounds r _)[b]? = some o
      rw [Array.getElem?_setIfInBounds_ne (Ne.symm hne)]
      exact s2 b o hb
    obtain ⟨w', hw', hs⟩ := unwinds D { fr with defers := D.map mark } _ hm rfl hh'
    refine ⟨w', hw', .head (step_collected (d := mark r) (ds := D.map mark) (calls := []) (by rw [hm]; intro h; cases h) hd rfl (run_takeDeferred hr)) ?_⟩
    exact hs

theorem Spec.of {f : FuncId} {fn : Func} {c : Code} {args : List Value} {pre : List Assn} {post : Value → List Assn → Prop} (N : Nat)
    (hf : P.funcs[f]? = some fn) (hb : fn.body = some c) (hn : fn.ntmps = N) (hle : Nat.ble args.length N = true) (h : swp P none c (Done P fn N post) N (envOf 0 args) pre) : Spec P f args pre post := by
  intro E w hw cs
  have hle' : args.length ≤ N := Nat.le_of_ble_eq_true hle
  let b : Frame := { (default : Frame) with fn := f, kind := .normal, roundOf := none }
  let a₀ : Act := { tmps := args.toArray ++ Array.replicate (fn.ntmps - args.toArray.size) undef, defers := [] }
  have hfr : Fr N a₀ (envOf 0 args) := by
    refine ⟨by simp [a₀, hn]; omega, fun t v hv => ?_⟩
    have ⟨_, h2⟩ := look_envOf 0 args t v hv
    simp only [Nat.sub_zero] at h2
    have hlt : t < args.length := by
      rcases Nat.lt_or_ge t args.length with h | h
      · exact h
      · rw [List.getElem?_eq_none h] at h2; cases h2
    simp only [a₀]
    rw [Array.getElem?_append_left (by simpa using hlt)]
    simpa using h2
  have henter : Frame.enter P f args.toArray .normal = b.atR a₀ [.code c] := by
    simp [Frame.enter, Frame.atR, hf, hb, b, a₀]
  obtain ⟨e, a', w', hq, harr⟩ := h E [] a₀ w rfl hfr hw b [] cs rfl trivial (room_wide _)
  rw [← henter] at harr
  -- from a frame on its way out
  have done : ∀ (fr : Frame), fr.fn = f → fr.tmps = a'.tmps → fr.kind = .normal → fr.mode = .returning → fr.defers = a'.defers → Steps P (lone (Frame.enter P f args.toArray .normal) cs w) (lone fr cs w') →
      (∃ D env L, a'.defers = D.map mark ∧ Fr N a' env ∧ H (E.add D) w' L ∧ (True ∧ ∀ E a w, Fr N a env → H E w L → ∃ v L', (results fn a.tmps).run P w = .ok v w ∧ post v L' ∧ H E w L')) →
      ∃ e w' fr, (∃ v L', e = .returned v ∧ post v L' ∧ H E w' L') ∧ Comes P (lone (Frame.enter P f args.toArray .normal) cs w) (lone fr cs w') e ∧ fr.fn = f ∧ fr.leaving P w' e := by
    rintro fr e1 e2 e3 e4 e5 hs ⟨D, env, L, hD, hF, hH, _, k⟩
    obtain ⟨w₂, hw₂, hs₂⟩ := unwinds (P := P) (cs := cs) D fr w' e4 (e5.trans hD) hH
    obtain ⟨v, L', hr, hp, hh⟩ := k E a' w₂ hF hw₂
    exact ⟨.returned v, w₂, { fr with defers := [] }, ⟨v, L', rfl, hp, hh⟩, hs.trans hs₂, e1, e4, rfl, e3, fn, by rw [e1]; exact hf, by rw [e2]; exact hr⟩
  cases e with
  | normal => exact done { b.atR a' [] with mode := .returning } rfl rfl rfl rfl rfl (Steps.trans harr.steps (.one (stepR_end rfl))) hq
  | ret =>
    obtain ⟨todo, hs⟩ := harr.1 rfl
    exact done { b.atR a' todo with mode := .returning } rfl rfl rfl rfl rfl hs.steps hq
  | exit id => obtain ⟨_, _, _, _, _, _, h, _⟩ := hq; exact h.elim
  | goto l => obtain ⟨_, _, _, _, _, _, h, _⟩ := hq; exact h.elim
  | panic c => exact hq.elim
  | outgrown => exact hq.elim

/-- L1 and L2, one list -/
class AppC (L1 L2 : List Assn) (L3 : outParam (List Assn)) : Prop where
  ok : L1 ++ L2 = L3
instance AppC.nil {L : List Assn} : AppC [] L L := ⟨rfl⟩
instance AppC.cons {A : Assn} {L1 L2 L3 : List Assn} [h : AppC L1 L2 L3] : AppC (A :: L1) L2 (A :: L3) := ⟨by rw [List.cons_append, h.ok]⟩
section
variable {ro : Option Nat} {ops : Array Oper} {Q : Post} {N : Nat} {rds : List Nat} {fuel : Nat} {listed : Array Bool} {live : Bool} {Lr Lx L' : List Assn} {d : Nat} {op : Op} {ty : TypeId} {pos : String} {af : Array Edge}
theorem d_fint (i : Nat) {Φ : (Value → List Assn → Prop) → Prop} (hi : ops[i]? = some ⟨some d, op, ty, pos, af, none⟩) (hr : Region.ready .any ops listed = [i]) (hex : (rds.all fun r => ancB .any ops r ops.size i) = true) [hl : AppC Lr Lx L'] (h : Ef P env L' op Φ)
    (hk : Φ (fun v L'' => swd P ro ops Q N rds fuel (listed.setIfInBounds i true) false ((d, v) :: env) Lr L'')) (hd : Nat.blt d N = true := by rfl) : swd P ro ops Q N rds (fuel + 1) listed true env Lr Lx := d_fin i hi hr hex hl.ok h hk hd
theorem d_finf (i : Nat) {Φ : (Value → List Assn → Prop) → Prop} (hi : ops[i]? = some ⟨some d, op, ty, pos, af, none⟩) (hr : Region.ready .any ops listed = [i]) (hex : (rds.all fun r => ancB .any ops r ops.size i) = true) (h : Ef P env Lx op Φ)
    (hk : Φ (fun v L'' => swd P ro ops Q N rds fuel (listed.setIfInBounds i true) false ((d, v) :: env) Lr L'')) (hd : Nat.blt d N = true := by rfl) : swd P ro ops Q N rds (fuel + 1) listed false env Lr Lx := d_fin i hi hr hex rfl h hk hd
theorem d_fin0t (i : Nat) {Φ : (Value → List Assn → Prop) → Prop} (hi : ops[i]? = some ⟨none, op, ty, pos, af, none⟩) (hr : Region.ready .any ops listed = [i]) (hex : (rds.all fun r => ancB .any ops r ops.size i) = true) [hl : AppC Lr Lx L'] (h : Ef P env L' op Φ)
    (hk : Φ (fun _ L'' => swd P ro ops Q N rds fuel (listed.setIfInBounds i true) false env Lr L'')) : swd P ro ops Q N rds (fuel + 1) listed true env Lr Lx := d_fin0 i hi hr hex hl.ok h hk
theorem d_fin0f (i : Nat) {Φ : (Value → List Assn → Prop) → Prop} (hi : ops[i]? = some ⟨none, op, ty, pos, af, none⟩) (hr : Region.ready .any ops listed = [i]) (hex : (rds.all fun r => ancB .any ops r ops.size i) = true) (h : Ef P env Lx op Φ)
    (hk : Φ (fun _ L'' => swd P ro ops Q N rds fuel (listed.setIfInBounds i true) false env Lr L'')) : swd P ro ops Q N rds (fuel + 1) listed false env Lr Lx := d_fin0 i hi hr hex rfl h hk
theorem d_eft (i : Nat) {Φ : (Value → List Assn → Prop) → Prop} (hi : ops[i]? = some ⟨some d, op, ty, pos, af, none⟩) (hr : Region.ready .any ops listed = [i]) [hl : AppC Lr Lx L'] (h : Ef P env L' op Φ)
    (hk : Φ (fun v L'' => ∃ Lx', Ent L'' (Lr ++ Lx') ∧ swd P ro ops Q N rds fuel (listed.setIfInBounds i true) true ((d, v) :: env) Lr Lx')) (hd : Nat.blt d N = true := by rfl) : swd P ro ops Q N rds (fuel + 1) listed true env Lr Lx := d_ef i hi hr (by rw [hl.ok]; exact h) hk hd
theorem d_nilt [hl : AppC Lr Lx L'] (hr : Region.ready .any ops listed = []) (h : Q .normal env L') : swd P ro ops Q N rds fuel listed true env Lr Lx := d_nil hr hl.ok h
theorem d_nilf (hr : Region.ready .any ops listed = []) (h : Q .normal env Lx) : swd P ro ops Q N rds fuel listed false env Lr Lx := d_nil hr rfl h
theorem swd_app {L1 L2 L3 : List Assn} [h : AppC L1 L2 L3] (k : swd P ro ops Q N rds fuel listed live env Lr L3) : swd P ro ops Q N rds fuel listed live env Lr (L1 ++ L2) := by rw [h.ok]; exact k
end
theorem swl_app {ro : Option Nat} {ops : Array Oper} {Q : Post} {N : Nat} {l : List Oper} {L1 L2 L3 : List Assn} [h : AppC L1 L2 L3] (k : swl P ro ops Q N l env L3) : swl P ro ops Q N l env (L1 ++ L2) := by rw [h.ok]; exact k
theorem swp_app {ro : Option Nat} {Q : Post} {N : Nat} {c : Code} {L1 L2 L3 : List Assn} [h : AppC L1 L2 L3] (k : swp P ro c Q N env L3) : swp P ro c Q N env (L1 ++ L2) := by rw [h.ok]; exact k

/-! ### Assertions put together -/
def exA {α : Type} (F : α → List Assn) : Assn := fun m => ∃ x, Sat (F x) m
theorem sat_append {L1 L2 : List Assn} : ∀ {m1 m2 m : PH}, Sat L1 m1 → Sat L2 m2 → (∀ b, m1 b = none ∨ m2 b = none) → (∀ b o, m1 b = some o → m b = some o) → (∀ b o, m2 b = some o → m b = some o) → Sat (L1 ++ L2) m := by
  induction L1 with
  | nil => intro m1 m2 m _ h2 _ _ s2; exact h2.mono s2
  | cons A L1 ih =>
    intro m1 m2 m ⟨a1, a2, ha, hL, hd, t1, t2⟩ h2 hdis s1 s2
    have key : Sat (L1 ++ L2) (a2.or m2) := ih hL h2 (fun b => by
      rcases hdis b with h | h
      · left
        cases h' : a2 b with
        | none => rfl
        | some o => rw [t2 b o h'] at h; cases h
      · exact .inr h) (fun b o h => PH.or_left h) (fun b o h => PH.or_right (fun b => by
      rcases hdis b with h | h
      · left
        cases h' : a2 b with
        | none => rfl
        | some o => rw [t2 b o h'] at h; cases h
      · exact .inr h) h)
    refine ⟨a1, a2.or m2, ha, key, fun b => ?_, fun b o h => s1 b o (t1 b o h), fun b o h => ?_⟩
    · cases h1 : a1 b with
      | none => exact .inl rfl
      | some o =>
        right
        have e1 : a2 b = none := (hd b).resolve_left (by rw [h1]; simp)
        have e2 : m2 b = none := (hdis b).resolve_left (by rw [t1 b o h1]; simp)
        simp [PH.or, e1, e2]
    · rcases PH.or_inv h with h | h
      · exact s1 b o (t2 b o h)
      · exact s2 b o h
theorem sat_split {L1 L2 : List Assn} : ∀ {m : PH}, Sat (L1 ++ L2) m → ∃ m1 m2, Sat L1 m1 ∧ Sat L2 m2 ∧ (∀ b, m1 b = none ∨ m2 b = none) ∧ (∀ b o, m1 b = some o → m b = some o) ∧ (∀ b o, m2 b = some o → m b = some o) := by
  induction L1 with
  | nil => intro m h; exact ⟨fun _ => none, m, trivial, h, fun _ => .inl rfl, fun _ _ h => by (cases h), fun _ _ h => h⟩
  | cons A L1 ih =>
    intro m ⟨a1, a2, ha, hL, hd, t1, t2⟩
    obtain ⟨n1, n2, h1, h2, hdn, u1, u2⟩ := ih hL
    have ap : ∀ b, a1 b = none ∨ n1 b = none := fun b => (hd b).imp_right fun h => by
      cases h' : n1 b with
      | none => rfl
      | some o => rw [u1 b o h'] at h; cases h
    refine ⟨a1.or n1, n2, ⟨a1, n1, ha, h1, ap, fun b o h => PH.or_left h, fun b o h => PH.or_right ap h⟩, h2, fun b => ?_, fun b o h => ?_, fun b o h => t2 b o (u2 b o h)⟩
    · cases h' : n2 b with
      | none => exact .inr rfl
      | some o =>
        left
        have e1 : a1 b = none := (hd b).resolve_right (by rw [u2 b o h']; simp)
        have e2 : n1 b = none := (hdn b).resolve_right (by rw [h']; simp)
        simp [PH.or, e1, e2]
    · rcases PH.or_inv h with h | h
      · exact t1 b o h
      · exact t2 b o (u1 b o h)
theorem exA_open {α : Type} {F : α → List Assn} {m : PH} (h : Sat (exA F :: L) m) : ∃ x, Sat (F x ++ L) m := by
  obtain ⟨m1, m2, ⟨x, hx⟩, h2, hd, s1, s2⟩ := h
  exact ⟨x, sat_append hx h2 hd s1 s2⟩
theorem exA_close {α : Type} {F : α → List Assn} (x : α) : Ent (F x ++ L) (exA F :: L) := fun m h => by
  obtain ⟨m1, m2, h1, h2, hd, s1, s2⟩ := sat_split h
  exact ⟨m1, m2, ⟨x, h1⟩, h2, hd, s1, s2⟩
theorem Ent.one {A : Assn} {R : List Assn} : Ent (A :: R) [A] := Ent.cons fun _ _ => trivial
theorem ent_ex {α : Type} {F : α → List Assn} {R : List Assn} (x : α) (h : Split L (F x) R) : Ent L (exA F :: R) := h.ent.trans (exA_close x)
theorem swp_ex {ro : Option Nat} {α : Type} {F : α → List Assn} {c : Code} {Q : Post} {N : Nat} (h : ∀ x, swp P ro c Q N env (F x ++ L)) : swp P ro c Q N env (exA F :: L) := fun E D a w hd hf hh => by
  obtain ⟨k1, k2, k3, k4, k5⟩ := hh
  have k6 : Sat (exA F :: ((E.add D).X ++ L)) (fun b => w.heap[b]?) := Sat.perm (perm_out (.refl _)) _ k5
  obtain ⟨x, hx⟩ := exA_open k6
  exact h x E D a w hd hf ⟨k1, k2, k3, k4, Sat.perm (by rw [← List.append_assoc, ← List.append_assoc]; exact List.Perm.append_right _ List.perm_append_comm) _ hx⟩
theorem swp_front {ro : Option Nat} {c : Code} {Q : Post} {N : Nat} {A : Assn} {L' : List Assn} (t : Take A L L') (h : swp P ro c Q N env (A :: L')) : swp P ro c Q N env L := swp_ent (Ent.perm t.perm) h
end
theorem not_t {b : Bool} (h : (!b) = true) : b = false := by cases b <;> simp_all
theorem not_f {b : Bool} (h : (!b) = false) : b = true := by cases b <;> simp_all
/-! ### Rows of cells -/
section
variable {β : Type} {f : β → List Value} {k : Nat}
theorem flat_length (hk : ∀ e, (f e).length = k) : ∀ es : List β, (es.flatMap f).length = es.length * k
  | [] => by simp
  | e :: es => by rw [List.flatMap_cons, List.length_append, hk, flat_length hk es, List.length_cons, Nat.succ_mul]; omega
theorem flat_get (hk : ∀ e, (f e).length = k) : ∀ (es : List β) (ex : List Value) (i : Nat) (e : β), es[i]? = some e → ∀ j v, (f e)[j]? = some v → (es.flatMap f ++ ex)[i * k + j]? = some v
  | [], _, _, _, h => by simp at h
  | e' :: es, ex, 0, e, h => fun j v hv => by
    simp at h; subst h
    have hj : j < (f e').length := (List.getElem?_eq_some_iff.1 hv).1
    rw [List.flatMap_cons, List.append_assoc, Nat.zero_mul, Nat.zero_add, List.getElem?_append_left hj]; exact hv
  | e' :: es, ex, i + 1, e, h => fun j v hv => by
    rw [List.flatMap_cons, List.append_assoc, List.getElem?_append_right (by rw [hk, Nat.succ_mul]; omega), hk]
    rw [show (i + 1) * k + j - k = i * k + j by rw [Nat.succ_mul]; omega]
    exact flat_get hk es ex i e (by simpa using h) j v hv
theorem flat_sub (hk : ∀ e, (f e).length = k) (es : List β) (ex : List Value) (i : Nat) (e : β) (he : es[i]? = some e) (a vs c : List Value) (hf : f e = a ++ (vs ++ c)) : ∀ j v, vs[j]? = some v → (es.flatMap f ++ ex)[i * k + a.length + j]? = some v := fun j v hv => by
  have hj : j < vs.length := (List.getElem?_eq_some_iff.1 hv).1
  rw [Nat.add_assoc]
  refine flat_get hk es ex i e he (a.length + j) v ?_
  rw [hf, List.getElem?_append_right (by omega), show a.length + j - a.length = j by omega, List.getElem?_append_left hj]
  exact hv
theorem flat_over (hk : ∀ e, (f e).length = k) : ∀ (es : List β) (ex : List Value) (i : Nat) (e : β), i < es.length → over (es.flatMap f ++ ex) (f e) (i * k) = (es.set i e).flatMap f ++ ex
  | [], _, _, _, h => by simp at h
  | e' :: es, ex, 0, e, _ => by
    unfold over
    rw [Nat.zero_mul, List.take_zero, List.nil_append, Nat.zero_add, hk, List.flatMap_cons, List.append_assoc, List.set_cons_zero, List.flatMap_cons, List.append_assoc]
    rw [List.drop_append_of_le_length (by rw [hk]; exact Nat.le_refl _), List.drop_of_length_le (by rw [hk]; exact Nat.le_refl _)]; simp
  | e' :: es, ex, i + 1, e, h => by
    have ih := flat_over hk es ex i e (by simpa using h)
    unfold over at ih ⊢
    have e1 : ((e' :: es).set (i + 1) e).flatMap f ++ ex = f e' ++ ((es.set i e).flatMap f ++ ex) := by rw [List.set_cons_succ, List.flatMap_cons, List.append_assoc]
    have e2 : (e' :: es).flatMap f ++ ex = f e' ++ (es.flatMap f ++ ex) := by rw [List.flatMap_cons, List.append_assoc]
    have e3 : (i + 1) * k = (f e').length + i * k := by rw [hk, Nat.succ_mul]; omega
    rw [e1, e2, ← ih, e3, List.take_length_add_append, Nat.add_assoc, List.drop_length_add_append, List.append_assoc, List.append_assoc, List.append_assoc]
end
end SX
