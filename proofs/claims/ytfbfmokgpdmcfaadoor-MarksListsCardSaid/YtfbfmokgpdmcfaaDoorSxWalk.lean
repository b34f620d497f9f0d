/- The walk: frames as lists of slots, code, regions in the order of the text, regions that draw their order. -/
import Derived.Test.YtfbfmokgpdmcfaaDoorSxBase
import Derived.TacticsIn
import Derived.OrdersIn
import Derived.RangeFuncIn
namespace SX
open Go

/-! ## Frames -/
abbrev Env := List (Nat × Value)
def look : Env → Nat → Option Value
  | [], _ => none
  | (s, v) :: env, t => bif Nat.beq s t then some v else look env t

def evalE (env : Env) : Operand → Option Value
  | .tmp t => look env t
  | .const v => some v
  | .global g => some (.pointer (some ⟨g, 0, none⟩))
  | .func f => some (.func (.func f) #[] #[])

def Fr (N : Nat) (a : Act) (env : Env) : Prop := a.tmps.size = N ∧ ∀ t v, look env t = some v → a.tmps[t]? = some v
/-- what an operand is, whatever else -/
def Ev (ρ : Operand → Value) (env : Env) : Prop := ∀ x v, evalE env x = some v → ρ x = v

theorem Fr.ev {N : Nat} {a : Act} {env : Env} (h : Fr N a env) : Ev a.eval env := by
  intro x v hx
  cases x with
  | tmp t =>
    have := h.2 t v hx
    simp [Act.eval, this]
  | const u => simp only [evalE, Option.some.injEq] at hx; exact hx
  | global g => simp only [evalE, Option.some.injEq] at hx; exact hx
  | func f => simp only [evalE, Option.some.injEq] at hx; exact hx

theorem beq_cases (s t : Nat) : (Nat.beq s t = true ∧ s = t) ∨ (Nat.beq s t = false ∧ s ≠ t) := by
  cases hb : Nat.beq s t with
  | true => exact .inl ⟨rfl, Nat.eq_of_beq_eq_true hb⟩
  | false => exact .inr ⟨rfl, Nat.ne_of_beq_eq_false hb⟩

theorem Fr.put {N : Nat} {a : Act} {env : Env} (h : Fr N a env) {d : Nat} (hd : Nat.blt d N = true) (v : Value) : Fr N (a.put (some d) v) ((d, v) :: env) := by
  have hlt : d < N := Nat.le_of_ble_eq_true hd
  refine ⟨by simp [Act.put, h.1], fun t u hu => ?_⟩
  unfold look at hu
  rcases beq_cases d t with ⟨hb, rfl⟩ | ⟨hb, hne⟩
  · rw [hb] at hu
    simp only [cond_true, Option.some.injEq] at hu
    subst hu
    simp [Act.put, h.1, hlt]
  · rw [hb] at hu
    simp only [cond_false] at hu
    simp only [Act.put]
    rw [Array.getElem?_setIfInBounds_ne hne]
    exact h.2 t u hu
theorem Fr.put0 {N : Nat} {a : Act} {env : Env} (h : Fr N a env) (v : Value) : Fr N (a.put none v) env := h
/-- fewer slots -/
theorem Fr.less {N : Nat} {a : Act} {env env' : Env} (h : Fr N a env) (hs : ∀ t v, look env' t = some v → look env t = some v) : Fr N a env' := ⟨h.1, fun t v hv => h.2 t v (hs t v hv)⟩

/-- every slot of env' is a slot of env, with its value -/
def Sub (env : Env) : Env → Prop
  | [] => True
  | (t, v) :: env' => look env t = some v ∧ Sub env env'
theorem Sub.spec {env : Env} : ∀ {env' : Env}, Sub env env' → ∀ t v, look env' t = some v → look env t = some v
  | [], _, t, v, h => by cases h
  | (s, u) :: env', ⟨h1, h2⟩, t, v, h => by
    unfold look at h
    rcases beq_cases s t with ⟨hb, rfl⟩ | ⟨hb, _⟩
    · rw [hb] at h; simp only [cond_true, Option.some.injEq] at h; subst h; exact h1
    · rw [hb] at h; exact Sub.spec h2 t v h

/-! ## Code -/
/-- a fence that lets everything in; in a round of a range over a function, or not -/
def FW (ro : Option Nat) : Fence := { Fence.wide with round := ro }
theorem fw_calls {ro : Option Nat} {n : Nat} {P : Program} {f : FuncId} {args : Array Value} {w : World} {R : Ending → World → Prop} (h : Calls P f args w R) : CallsIn (FW ro) n P f args w R := callsIn_wide.2 h

/-- the marks of the ranges over functions that have been met -/
def mark (r : Nat) : Deferred := { target := .collected r, args := #[] }
def dfr (D : List Nat) : List Assn := D.map fun r => one r (.deferred (some []))
def Ctx.add (E : Ctx) (D : List Nat) : Ctx := ⟨E.w, dfr D ++ E.X⟩

abbrev Post := Exit → Env → List Assn → Prop
def PQ (E : Ctx) (N : Nat) (Q : Post) : Exit → Act → World → Prop
  | .panic _, _, _ => False
  | .outgrown, _, _ => False
  | e, a, w => ∃ D env L, a.defers = D.map mark ∧ Fr N a env ∧ H (E.add D) w L ∧ Q e env L

def swp (P : Program) (ro : Option Nat) (c : Code) (Q : Post) (N : Nat) (env : Env) (L : List Assn) : Prop :=
  ∀ E D a w, a.defers = D.map mark → Fr N a env → H (E.add D) w L → c.wpIn (FW ro) 0 P (PQ E N Q) a w

def SThen (k : Env → List Assn → Prop) (Q : Post) : Post
  | .normal, env, L => k env L
  | e, env, L => Q e env L
def SBlock (id : Nat) (Q : Post) : Post
  | .exit i, env, L => bif Nat.beq i id then Q .normal env L else Q (.exit i) env L
  | e, env, L => Q e env L

section
variable {P : Program} {ro : Option Nat} {Q : Post} {N : Nat} {env : Env} {L : List Assn}

theorem swp_ent {c : Code} {L' : List Assn} (h : Ent L L') (k : swp P ro c Q N env L') : swp P ro c Q N env L := fun E D a w hd hf hh => k E D a w hd hf (hh.ent h)
theorem swp_sub {c : Code} (env' : Env) (h : Sub env env') (k : swp P ro c Q N env' L) : swp P ro c Q N env L := fun E D a w hd hf hh => k E D a w hd (hf.less h.spec) hh
/-- a pure fact that the heap gives -/
theorem swp_fact {c : Code} {p : Prop} (h : ∀ m, Sat L m → p) (k : p → swp P ro c Q N env L) : swp P ro c Q N env L :=
  fun E D a w hd hf hh => k (h _ hh.sat) E D a w hd hf hh

theorem swp_seq {x y : Code} (h : swp P ro x (SThen (swp P ro y Q N) Q) N env L) : swp P ro (.seq x y) Q N env L := by
  intro E D a w hd hf hh
  refine wpIn_seq (wpIn_mono (h E D a w hd hf hh) fun e a' w' hq => ?_)
  cases e with
  | normal => obtain ⟨D', env', L', d', f', h', k⟩ := hq; exact k E D' a' w' d' f' h'
  | exit id => exact hq
  | goto l => exact hq
  | ret => exact hq
  | panic c => exact hq
  | outgrown => exact hq
theorem swp_skip (h : Q .normal env L) : swp P ro .skip Q N env L := fun _ D _ _ hd hf hh => wpIn_skip ⟨D, env, L, hd, hf, hh, h⟩
theorem swp_exit {id : Nat} (h : Q (.exit id) env L) : swp P ro (.exit id) Q N env L := fun _ D _ _ hd hf hh => wpIn_exit ⟨D, env, L, hd, hf, hh, h⟩
theorem swp_ret (h : Q .ret env L) : swp P ro .ret Q N env L := fun _ D _ _ hd hf hh => wpIn_ret ⟨D, env, L, hd, hf, hh, h⟩
theorem swp_block {id : Nat} {c : Code} (h : swp P ro c (SBlock id Q) N env L) : swp P ro (.block id c) Q N env L := by
  intro E D a w hd hf hh
  refine wpIn_block (wpIn_mono (h E D a w hd hf hh) fun e a' w' hq => ?_)
  cases e with
  | normal => exact hq
  | exit i =>
    obtain ⟨D', env', L', d', f', h', k⟩ := hq
    replace k : (bif Nat.beq i id then Q .normal env' L' else Q (.exit i) env' L') := k
    rcases beq_cases i id with ⟨hb, rfl⟩ | ⟨hb, hne⟩
    · rw [hb] at k; simp only [cond_true] at k
      simp only [Exit.inBlock, if_true]; exact ⟨D', env', L', d', f', h', k⟩
    · rw [hb] at k; simp only [cond_false] at k
      simp only [Exit.inBlock, if_neg hne]; exact ⟨D', env', L', d', f', h', k⟩
  | goto l => exact hq
  | ret => exact hq
  | panic c => exact hq
  | outgrown => exact hq
theorem swp_cond {c : Operand} {x y : Code} {b : Bool} (hc : evalE env c = some (.bool b)) (ht : b = true → swp P ro x Q N env L) (hn : b = false → swp P ro y Q N env L) : swp P ro (.cond c x y) Q N env L :=
  fun E D a w hd hf hh => wpIn_cond_split (hf.ev _ _ hc) (fun h => ht h E D a w hd hf hh) (fun h => hn h E D a w hd hf hh)

/-- a loop: I x: the slots, the heap and what is known at the head of a round, x whatever the round goes by -/
theorem swp_loop {ι : Type} {c : Code} (I : ι → Env → List Assn → Prop) (μ : ι → Nat) (x₀ : ι) (h₀ : I x₀ env L)
    (round : ∀ x env L, I x env L → swp P ro c (SThen (fun env' L' => ∃ x', I x' env' L' ∧ μ x' < μ x) Q) N env L) : swp P ro (.loop c) Q N env L := by
  intro E D a w hd hf hh b k cs hro hb hr
  have key : ∀ n x env L D a w, μ x = n → I x env L → a.defers = D.map mark → Fr N a env → H (E.add D) w L →
      ∃ e a' w', PQ E N Q e a' w' ∧ ArrivesIn (Machine.fenced P (FW ro)) P (lone (b.atR a (.code c :: .inLoop c :: k)) cs w) b k cs e a' w' := by
    intro n
    induction n using Nat.strongRecOn with
    | _ n ih =>
      intro x env L D a w hn hI hd hf hh
      obtain ⟨e, a₁, w₁, hq, harr⟩ := round x env L hI E D a w hd hf hh b (.inLoop c :: k) cs hro hb hr
      cases e with
      | normal =>
        obtain ⟨D₁, env₁, L₁, d₁, f₁, h₁, x₁, hI₁, hlt⟩ := hq
        obtain ⟨e₂, a₂, w₂, hq₂, harr₂⟩ := ih (μ x₁) (hn ▸ hlt) x₁ env₁ L₁ D₁ a₁ w₁ rfl hI₁ d₁ f₁ h₁
        exact ⟨e₂, a₂, w₂, hq₂, .of_steps (StepsIn.trans harr (.one (fenced_calm hb hr rfl) stepR_inLoop)) harr₂⟩
      | exit id => exact ⟨.exit id, a₁, w₁, show PQ E N Q (.exit id) a₁ w₁ from hq, .pass (x := .inLoop c) rfl (fun _ _ => .inl (by simp)) harr⟩
      | goto l => exact ⟨.goto l, a₁, w₁, show PQ E N Q (.goto l) a₁ w₁ from hq, .pass (x := .inLoop c) rfl (fun _ _ => .inl (by simp)) harr⟩
      | ret => exact ⟨.ret, a₁, w₁, show PQ E N Q (.ret) a₁ w₁ from hq, .pass (x := .inLoop c) rfl (fun _ _ => .inl (by simp)) harr⟩
      | panic ch => exact hq.elim
      | outgrown => exact hq.elim
  obtain ⟨e, a', w', hq, harr⟩ := key _ x₀ env L D a w rfl h₀ hd hf hh
  exact ⟨e, a', w', hq, .of_steps (.one (fenced_calm hb hr rfl) stepR_loop) harr⟩
end

section
variable {Q : Post} {k : Env → List Assn → Prop} {env : Env} {L : List Assn} {id i : Nat}
theorem then_n (h : k env L) : SThen k Q .normal env L := h
theorem then_x (h : Q (.exit i) env L) : SThen k Q (.exit i) env L := h
theorem then_r (h : Q .ret env L) : SThen k Q .ret env L := h
theorem block_n (h : Q .normal env L) : SBlock id Q .normal env L := h
theorem block_r (h : Q .ret env L) : SBlock id Q .ret env L := h
theorem block_hit (hi : Nat.beq i id = true) (h : Q .normal env L) : SBlock id Q (.exit i) env L := by
  show (bif Nat.beq i id then Q .normal env L else Q (.exit i) env L); rw [hi]; exact h
theorem block_miss (hi : Nat.beq i id = false) (h : Q (.exit i) env L) : SBlock id Q (.exit i) env L := by
  show (bif Nat.beq i id then Q .normal env L else Q (.exit i) env L); rw [hi]; exact h
theorem Sub.nil {env : Env} : Sub env [] := trivial
theorem Sub.cons {env env' : Env} {t : Nat} {v : Value} (h : look env t = some v) (h' : Sub env env') : Sub env ((t, v) :: env') := ⟨h, h'⟩
/-- one after the other, with what holds between the two laid down -/
theorem swp_cut {P : Program} {ro : Option Nat} {N : Nat} {x y : Code} (J : Env → List Assn → Prop) (h : swp P ro x (SThen J Q) N env L) (h' : ∀ env L, J env L → swp P ro y Q N env L) : swp P ro (.seq x y) Q N env L :=
  swp_seq fun E D a w hd hf hh => wpIn_mono (h E D a w hd hf hh) fun e a' w' hq => by
    cases e with
    | normal => obtain ⟨D', env', L', d', f', h1, k⟩ := hq; exact ⟨D', env', L', d', f', h1, h' env' L' k⟩
    | exit id => exact hq
    | goto l => exact hq
    | ret => exact hq
    | panic c => exact hq
    | outgrown => exact hq
end

/-! ## Operations -/
/-- the value hangs on no world -/
def Pu (P : Program) (env : Env) (op : Op) (v : Value) : Prop :=
  ∀ ρ, Ev ρ env → ∀ dst ty pos af g w, (execOp ρ ⟨dst, op, ty, pos, af, g⟩).run P w = .ok (.value v) w
/-- it only reads -/
def Rd (P : Program) (env : Env) (L : List Assn) (op : Op) (v : Value) : Prop :=
  ∀ ρ, Ev ρ env → ∀ dst ty pos af g E w, H E w L → (execOp ρ ⟨dst, op, ty, pos, af, g⟩).run P w = .ok (.value v) w
theorem Pu.rd {P : Program} {env : Env} {op : Op} {v : Value} (h : Pu P env op v) (L : List Assn) : Rd P env L op v := fun ρ hρ d t p f g _ w _ => h ρ hρ d t p f g w
/-- whatever it does: k holds of its value and of the heap behind it -/
def Ef (P : Program) (env : Env) (L : List Assn) (op : Op) (Φ : (Value → List Assn → Prop) → Prop) : Prop :=
  ∀ ro dst ty pos af g N E a w next Q k, Fr N a env → H E w L → Φ k → (∀ v w' L', k v L' → H E w' L' → next (a.put dst v) w') → Oper.wpIn (FW ro) 0 P ⟨dst, op, ty, pos, af, g⟩ a w next Q

theorem not_defer {P : Program} {ρ : Operand → Value} {o : Oper} {w w' : World} {x : Next} (hx : ∀ d, x ≠ .defer d) (h : (execOp ρ o).run P w = .ok x w') : ∀ c, o.op ≠ .defer c := by
  intro c hc
  unfold execOp at h
  rw [hc] at h
  simp only [Sem.run_bind] at h
  cases hr : (resolve ρ c o.type).run P w with
  | ok d w1 => rw [hr] at h; simp at h; exact hx d h.1.symm
  | halt e w1 => rw [hr] at h; simp [Result.andThen] at h
section
variable {P : Program} {ro : Option Nat} {o : Oper} {a : Act} {w w' : World} {next : Act → World → Prop} {Q : Exit → Act → World → Prop}
theorem wpIn_value {v : Value} (h : (execOp a.eval o).run P w = .ok (.value v) w') (k : next (a.put o.dst v) w') : Oper.wpIn (FW ro) 0 P o a w next Q := by
  refine ⟨fun _ _ => trivial, ?_⟩
  rw [Oper.semAt_eq _ _ _ (not_defer (by intro d hd; cases hd) h), h]; exact k
theorem wpIn_skip_op (h : (execOp a.eval o).run P w = .ok .skip w') (k : next (a.put o.dst undef) w') : Oper.wpIn (FW ro) 0 P o a w next Q := by
  refine ⟨fun _ _ => trivial, ?_⟩
  rw [Oper.semAt_eq _ _ _ (not_defer (by intro d hd; cases hd) h), h]; exact k
theorem wpIn_enter {f : FuncId} {args : Array Value} (h : (execOp a.eval o).run P w = .ok (.enter f args) w') (k : Calls P f args w' fun e w'' => ∃ v, e = .returned v ∧ next (a.put o.dst v) w'') : Oper.wpIn (FW ro) 0 P o a w next Q := by
  refine ⟨fun _ _ => trivial, ?_⟩
  rw [Oper.semAt_eq _ _ _ (not_defer (by intro d hd; cases hd) h), h]
  refine ⟨fun hd => (by cases hd), fw_calls (k.mono fun e w'' ⟨v, he, hn⟩ => ?_)⟩
  subst he; exact hn
end

theorem Rd.ef {P : Program} {env : Env} {L : List Assn} {op : Op} {v : Value} (h : Rd P env L op v) : Ef P env L op (fun k => k v L) := by
  intro ro dst ty pos af g N E a w next Q k hf hh hk hn
  exact wpIn_value (h _ hf.ev dst ty pos af g E w hh) (hn v w L hk hh)

/-! ### a region in the order of the text -/
def swl (P : Program) (ro : Option Nat) (ops : Array Oper) (Q : Post) (N : Nat) (l : List Oper) (env : Env) (L : List Assn) : Prop :=
  ∀ E D a w, a.defers = D.map mark → Fr N a env → H (E.add D) w L → wpListIn (FW ro) 0 P ops (PQ E N Q) l a w

theorem put_defers (a : Act) (d : Option Tmp) (v : Value) : (a.put d v).defers = a.defers := by cases d <;> rfl

section
variable {P : Program} {ro : Option Nat} {ops : Array Oper} {Q : Post} {N : Nat} {env : Env} {L : List Assn} {rest : List Oper}

theorem swp_region {id : Nat} {l : List Oper} (h : swl P ro l.toArray Q N l env L) : swp P ro (.region id l.toArray false) Q N env L :=
  fun E D a w hd hf hh => wpIn_region_lit (h E D a w hd hf hh)
theorem swl_nil (h : Q .normal env L) : swl P ro ops Q N [] env L := fun _ D _ _ hd hf hh => wpListIn_nil ⟨D, env, L, hd, hf, hh, h⟩
theorem swl_ent {l : List Oper} {L' : List Assn} (h : Ent L L') (k : swl P ro ops Q N l env L') : swl P ro ops Q N l env L := fun E D a w hd hf hh => k E D a w hd hf (hh.ent h)
theorem swl_sub {l : List Oper} (env' : Env) (h : Sub env env') (k : swl P ro ops Q N l env' L) : swl P ro ops Q N l env L := fun E D a w hd hf hh => k E D a w hd (hf.less h.spec) hh
theorem swl_fact {l : List Oper} {p : Prop} (h : ∀ m, Sat L m → p) (k : p → swl P ro ops Q N l env L) : swl P ro ops Q N l env L :=
  fun E D a w hd hf hh => k (h _ hh.sat) E D a w hd hf hh

variable {d : Nat} {op : Op} {ty : TypeId} {pos : String} {af : Array Edge}
theorem s_ef {Φ : (Value → List Assn → Prop) → Prop} (h : Ef P env L op Φ) (hk : Φ (fun v L' => swl P ro ops Q N rest ((d, v) :: env) L')) (hd : Nat.blt d N = true := by rfl) :
    swl P ro ops Q N (⟨some d, op, ty, pos, af, none⟩ :: rest) env L :=
  fun E D a w hD hf hh => wpListIn_plain rfl fun K hK => h ro (some d) ty pos af none N _ a w K _ _ hf hh hk fun v w' _ hs h' => hK _ _ (hs E D _ w' ((put_defers a _ v).trans hD) (hf.put hd v) h')
theorem s_ef0 {Φ : (Value → List Assn → Prop) → Prop} (h : Ef P env L op Φ) (hk : Φ (fun _ L' => swl P ro ops Q N rest env L')) :
    swl P ro ops Q N (⟨none, op, ty, pos, af, none⟩ :: rest) env L :=
  fun E D a w hD hf hh => wpListIn_plain rfl fun K hK => h ro none ty pos af none N _ a w K _ _ hf hh hk fun v w' _ hs h' => hK _ _ (hs E D _ w' hD (hf.put0 v) h')
theorem s_rd {v : Value} (h : Rd P env L op v) (k : swl P ro ops Q N rest ((d, v) :: env) L) (hd : Nat.blt d N = true := by rfl) :
    swl P ro ops Q N (⟨some d, op, ty, pos, af, none⟩ :: rest) env L := s_ef h.ef k hd
theorem s_pu {v : Value} (h : Pu P env op v) (k : swl P ro ops Q N rest ((d, v) :: env) L) (hd : Nat.blt d N = true := by rfl) :
    swl P ro ops Q N (⟨some d, op, ty, pos, af, none⟩ :: rest) env L := s_ef (h.rd L).ef k hd

/-- which slot a guard looks at -/
def gslot (ops : Array Oper) (g : Nat) : Option Nat := (ops[g]?).bind (·.dst)
theorem yielded_of {a : Act} {g t : Nat} {b : Bool} (hf : Fr N a env) (hg : gslot ops g = some t) (hb : look env t = some (.bool b)) : yielded ops a.tmps g = some b := by
  have := hf.2 t _ hb
  unfold gslot at hg
  simp [yielded, hg, this]
theorem wpListIn_skip' {o : Oper} {a : Act} {w : World} {Q : Exit → Act → World → Prop} (hw : Region.wanted o (yielded ops a.tmps) = false) (h : wpListIn (FW ro) 0 P ops Q rest (a.put o.dst undef) w) : wpListIn (FW ro) 0 P ops Q (o :: rest) a w := by
  simp only [wpListIn, hw]
  exact ⟨fun _ _ => trivial, h⟩
theorem s_on {dst : Option Nat} {g t : Nat} {want : Bool} (hg : gslot ops g = some t) (hb : look env t = some (.bool want))
    (k : swl P ro ops Q N (⟨dst, op, ty, pos, af, none⟩ :: rest) env L) : swl P ro ops Q N (⟨dst, op, ty, pos, af, some (g, want)⟩ :: rest) env L := by
  intro E D a w hD hf hh
  have h := k E D a w hD hf hh
  have hy := yielded_of hf hg hb
  have e1 : Region.wanted ⟨dst, op, ty, pos, af, some (g, want)⟩ (yielded ops a.tmps) = true := by simp [Region.wanted, hy]
  have e2 : Region.wanted ⟨dst, op, ty, pos, af, none⟩ (yielded ops a.tmps) = true := by simp [Region.wanted]
  unfold wpListIn at h ⊢
  rw [if_pos e2] at h
  rw [if_pos e1]
  exact h
theorem not_wanted {a : Act} {dst : Option Nat} {g t : Nat} {want : Bool} {u : Value} (hf : Fr N a env) (hg : gslot ops g = some t) (hu : look env t = some u) (hne : (match u with | .bool b => b != want | _ => true) = true) :
    Region.wanted ⟨dst, op, ty, pos, af, some (g, want)⟩ (yielded ops a.tmps) = false := by
  have := hf.2 t _ hu
  unfold gslot at hg
  cases u <;> simp_all [Region.wanted, yielded]
theorem s_off {g t : Nat} {want : Bool} {u : Value} (hg : gslot ops g = some t) (hb : look env t = some u) (hne : (match u with | .bool b => b != want | _ => true) = true)
    (k : swl P ro ops Q N rest ((d, undef) :: env) L) (hd : Nat.blt d N = true := by rfl) : swl P ro ops Q N (⟨some d, op, ty, pos, af, some (g, want)⟩ :: rest) env L :=
  fun E D a w hD hf hh => wpListIn_skip' (not_wanted hf hg hb hne) (k E D _ w ((put_defers a _ undef).trans hD) (hf.put hd undef) hh)
theorem s_off0 {g t : Nat} {want : Bool} {u : Value} (hg : gslot ops g = some t) (hb : look env t = some u) (hne : (match u with | .bool b => b != want | _ => true) = true)
    (k : swl P ro ops Q N rest env L) : swl P ro ops Q N (⟨none, op, ty, pos, af, some (g, want)⟩ :: rest) env L :=
  fun E D a w hD hf hh => wpListIn_skip' (not_wanted hf hg hb hne) (k E D _ w hD hf hh)
theorem Fr.bool {a : Act} {t : Nat} {b : Bool} {u : Value} (hf : Fr N a env) (hb : look env t = some (.bool b)) (hu : (.bool b : Value) = u) : Fr N a ((t, u) :: env) := ⟨hf.1, fun s x hx => by
    unfold look at hx
    rcases beq_cases t s with ⟨he, rfl⟩ | ⟨he, _⟩
    · rw [he] at hx; simp only [cond_true, Option.some.injEq] at hx; subst hx; rw [hf.2 _ _ hb, hu]
    · rw [he] at hx; exact hf.2 s x hx⟩
/-- a Bool in a slot is one of the two -/
theorem s_split {l : List Oper} (t : Nat) {b : Bool} (hb : look env t = some (.bool b)) (h1 : b = true → swl P ro ops Q N l ((t, .bool true) :: env) L) (h2 : b = false → swl P ro ops Q N l ((t, .bool false) :: env) L) :
    swl P ro ops Q N l env L := by
  intro E D a w hD hf hh
  cases b with
  | true => exact h1 rfl E D a w hD (hf.bool hb rfl) hh
  | false => exact h2 rfl E D a w hD (hf.bool hb rfl) hh
end

/-! ## Calls -/
def Spec (P : Program) (f : FuncId) (args : List Value) (pre : List Assn) (post : Value → List Assn → Prop) : Prop :=
  ∀ E w, H E w pre → Calls P f args.toArray w fun e w' => ∃ v L', e = .returned v ∧ post v L' ∧ H E w' L'

theorem Spec.mono {P : Program} {f : FuncId} {args : List Value} {pre : List Assn} {post post' : Value → List Assn → Prop} (h : Spec P f args pre post) (hh : ∀ v L, post v L → post' v L) : Spec P f args pre post' :=
  fun E w hw => (h E w hw).mono fun _ _ ⟨v, L', e, p, k⟩ => ⟨v, L', e, hh _ _ p, k⟩
theorem Spec.pre {P : Program} {f : FuncId} {args : List Value} {pre pre' : List Assn} {post : Value → List Assn → Prop} (h : Spec P f args pre post) (hh : Ent pre' pre) : Spec P f args pre' post :=
  fun E w hw => h E w (hw.ent hh)
theorem Spec.frame {P : Program} {f : FuncId} {args : List Value} {pre : List Assn} {post : Value → List Assn → Prop} (h : Spec P f args pre post) {E : Ctx} {w : World} {R : List Assn} (hw : H E w (pre ++ R)) :
    Calls P f args.toArray w fun e w' => ∃ v L', e = .returned v ∧ post v L' ∧ H E w' (L' ++ R) :=
  (h _ w hw.hide).mono fun _ _ ⟨v, L', e, p, k⟩ => ⟨v, L', e, p, k.show_⟩

/-- the slots that the parameters fill -/
def envOf : Nat → List Value → Env
  | _, [] => []
  | k, v :: vs => (k, v) :: envOf (k + 1) vs

theorem look_envOf : ∀ (k : Nat) (vs : List Value) (t : Nat) (v : Value), look (envOf k vs) t = some v → k ≤ t ∧ vs[t - k]? = some v
  | _, [], _, _, h => by cases h
  | k, u :: vs, t, v, h => by
    unfold envOf look at h
    rcases beq_cases k t with ⟨hb, rfl⟩ | ⟨hb, hne⟩
    · rw [hb] at h; simp only [cond_true, Option.some.injEq] at h; subst h; exact ⟨Nat.le_refl _, by simp⟩
    · rw [hb] at h
      have ⟨h1, h2⟩ := look_envOf (k + 1) vs t v h
      refine ⟨by omega, ?_⟩
      rw [show t - k = (t - (k + 1)) + 1 by omega]
      simpa using h2
end SX
