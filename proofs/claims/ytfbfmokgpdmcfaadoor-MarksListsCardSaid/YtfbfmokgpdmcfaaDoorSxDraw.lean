/- Regions that draw their order: what only reads is taken first; what acts comes when all that it may stand before has come. -/
import Derived.Test.YtfbfmokgpdmcfaaDoorSxMem
namespace SX
open Go

section
variable {P : Program} {ops : Array Oper} {Q : Exit → Act → World → Prop} {md : Region.Mode} {S : World → Prop} {ex : Nat → Bool}

/-- i stands ahead of j, by the edges -/
inductive Anc (md : Region.Mode) (ops : Array Oper) (i : Nat) : Nat → Prop
  | edge {j : Nat} {o : Oper} {e : Edge} (h : ops[j]? = some o) (he : e ∈ o.after) (hb : Region.binds md e = true) (hi : e.on = i) : Anc md ops i j
  | step {j : Nat} {o : Oper} {e : Edge} (h : ops[j]? = some o) (he : e ∈ o.after) (hb : Region.binds md e = true) (hi : Anc md ops i e.on) : Anc md ops i j

def Closed (md : Region.Mode) (ops : Array Oper) (listed : Array Bool) : Prop :=
  ∀ (j : Nat) (o : Oper), ops[j]? = some o → listed.getD j false = true → ∀ e ∈ o.after, Region.binds md e = true → listed.getD e.on false = true

theorem Anc.listed {listed : Array Bool} {i j : Nat} (hc : Closed md ops listed) (h : Anc md ops i j) : listed.getD j false = true → listed.getD i false = true := by
  induction h with
  | edge h he hb hi => intro hl; subst hi; exact hc _ _ h hl _ he hb
  | step h he hb _ ih => intro hl; exact ih (hc _ _ h hl _ he hb)
theorem Anc.of_ready {listed : Array Bool} {i j : Nat} (hc : Closed md ops listed) (h : Anc md ops i j) (hr : j ∈ Region.ready md ops listed) : listed.getD i false = true := by
  obtain ⟨_, oj, hoj, hall⟩ := mem_ready.1 hr
  cases h with
  | edge h he hb hi =>
    have : oj = _ := Option.some.inj (hoj.symm.trans h)
    subst this; subst hi; exact hall _ he hb
  | step h he hb hi =>
    have : oj = _ := Option.some.inj (hoj.symm.trans h)
    subst this; exact hi.listed hc (hall _ he hb)
theorem Closed.set {listed : Array Bool} {i : Nat} (hc : Closed md ops listed) (hr : i ∈ Region.ready md ops listed) : Closed md ops (listed.setIfInBounds i true) := by
  obtain ⟨_, oi, hoi, hall⟩ := mem_ready.1 hr
  intro j o hj hl e he hb
  by_cases hij : i = j
  · subst hij
    have : o = oi := Option.some.inj (hj.symm.trans hoi)
    subst this
    exact getD_set_true (hall e he hb)
  · rw [getD_set_ne false hij] at hl
    exact getD_set_true (hc j o hj hl e he hb)

/-- by reckoning: i stands ahead of j -/
def ancB (md : Region.Mode) (ops : Array Oper) (i : Nat) : Nat → Nat → Bool
  | 0, _ => false
  | f + 1, j => match ops[j]? with
    | none => false
    | some o => o.after.any fun e => Region.binds md e && (e.on == i || (Nat.blt i e.on && ancB md ops i f e.on))
theorem ancB.spec {i : Nat} : ∀ (f j : Nat), ancB md ops i f j = true → Anc md ops i j
  | 0, _, h => by simp [ancB] at h
  | f + 1, j, h => by
    unfold ancB at h
    split at h
    · cases h
    · rename_i o ho
      obtain ⟨e, he, hb⟩ := Array.any_eq_true'.1 h
      simp only [Bool.and_eq_true, Bool.or_eq_true, beq_iff_eq] at hb
      rcases hb with ⟨hb, hi | ⟨_, hi⟩⟩
      · exact .edge ho he hb hi
      · exact .step ho he hb (ancB.spec f _ hi)

def noDefer (ops : Array Oper) : Bool := ops.all fun o => match o.op with | .defer _ => false | _ => true
theorem noDefer.spec (h : noDefer ops = true) {j : Nat} {o : Oper} (hj : ops[j]? = some o) (c : Call) : o.op ≠ .defer c := fun he => by
  have := Array.all_eq_true_iff_forall_mem.1 h o (Array.mem_of_getElem? hj)
  simp [he] at this

theorem yields_wpOpIn {ro : Option Nat} {i : Nat} {oi : Oper} {v : Value} {a : Act} (hi : ops[i]? = some oi) (hy : YieldsIf P ops S oi v a) {K : Act → World → Prop} {w : World} (hS : S w) (h : K (a.put oi.dst v) w) : wpOpIn (FW ro) 0 P ops Q i K a w := by
  unfold Go.wpOpIn
  simp only [hi]
  rcases hy with ⟨hw, hv⟩ | ⟨hw, rfl⟩
  · rw [if_pos hw]; exact wpIn_value (hv w hS) h
  · rw [if_neg (by rw [hw]; exact Bool.false_ne_true)]; exact ⟨fun _ _ => trivial, h⟩

/-- oj, apart from oi, is carried out: it is all one whether oi's value is there already -/
theorem wpOpIn_early {ro : Option Nat} {j : Nat} {oi oj : Oper} {v : Value} (hj : ops[j]? = some oj) (hnd : ∀ c, oj.op ≠ .defer c) (hap : oi.apart ops oj = true)
    (hsi : ∀ cs b, oi.op ≠ .select cs b) (hsj : ∀ cs b, oj.op ≠ .select cs b)
    (hQ : ∀ c a w, Q (.panic c) (a.put oi.dst v) w → Q (.panic c) a w) {K : Act → World → Prop} {a : Act} {w : World}
    (hy : YieldsIf P ops S oi v a) (h : wpOpIn (FW ro) 0 P ops Q j K (a.put oi.dst v) w) :
    wpOpIn (FW ro) 0 P ops Q j (fun a' w' => YieldsIf P ops S oi v a' ∧ K (a'.put oi.dst v) w') a w := by
  obtain ⟨h1, h2, h3⟩ := Oper.apart_spec hap
  have keep : ∀ (a : Act), YieldsIf P ops S oi v a → ∀ u, YieldsIf P ops S oi v (a.put oj.dst u) := fun a hy u => hy.of_same (execOp_put oi hsi a oj.dst u h3) (wanted_put oi a oj.dst u h3)
  have comm : ∀ u, (a.put oi.dst v).put oj.dst u = (a.put oj.dst u).put oi.dst v := fun u => Act.put_comm a v u h2
  unfold Go.wpOpIn at *
  simp only [hj] at *
  rw [wanted_put oj a oi.dst v h1] at h
  split
  · rename_i hw
    rw [if_pos hw] at h
    obtain ⟨_, h⟩ := h
    refine ⟨fun _ _ => trivial, ?_⟩
    rw [Oper.semAt_eq _ _ _ hnd] at h ⊢
    rw [execOp_put oj hsj a oi.dst v h1] at h
    generalize (execOp a.eval oj).run P w = r at *
    cases r with
    | ok x w' =>
      cases x <;> simp only [Oper.uponIn] at h ⊢
      case value u => exact ⟨keep a hy u, by rw [← comm]; exact h⟩
      case skip => exact ⟨keep a hy undef, by rw [← comm]; exact h⟩
      case defer d =>
        refine ⟨keep _ (hy.of_same (a' := { a with defers := d :: a.defers }) rfl rfl) undef, ?_⟩
        rw [← Act.put_comm _ v undef h2, ← Act.put_defers]
        exact h
      case enter f args =>
        refine ⟨h.1, CallsIn.mono h.2 fun e w'' he => ?_⟩
        cases e with
        | returned u => exact ⟨keep a hy u, by rw [← comm]; exact he⟩
        | panicked c => exact hQ _ _ _ he
        | outgrown => exact he
      case row row args => exact ⟨h.1, RowsIn.mono h.2 fun u w'' he => ⟨keep a hy u, by rw [← comm]; exact he⟩⟩
      case round l f tmps assign body =>
        refine ⟨h.1, RoundIn.mono h.2 fun e w'' he => ?_⟩
        cases e with
        | returned u => exact ⟨keep a hy u, by rw [← comm]; exact he⟩
        | panicked c => exact hQ _ _ _ he
        | outgrown => exact he
    | halt x w' =>
      cases x <;> simp only [Oper.uponIn] at h ⊢
      case panic u => exact hQ _ _ _ h
  · rename_i hw
    rw [if_neg hw] at h
    exact ⟨fun _ _ => trivial, keep a hy undef, by rw [← comm]; exact h.2⟩

/-- Whatever order is picked: behind each operation S holds, or the operation is one of those that all readers stand ahead of, or the world is as it was. -/
def wpAnyE (P : Program) (ro : Option Nat) (md : Region.Mode) (ops : Array Oper) (Q : Exit → Act → World → Prop) (S : World → Prop) (ex : Nat → Bool) : Nat → Array Bool → Act → World → Prop
  | 0, listed, a, w => Region.ready md ops listed = [] ∧ Q .normal a w
  | fuel + 1, listed, a, w =>
    (Region.ready md ops listed = [] → Q .normal a w) ∧
    ∀ i ∈ Region.ready md ops listed, wpOpIn (FW ro) 0 P ops Q i (fun a' w' => (S w' ∨ ex i = true ∨ w' = w) ∧ wpAnyE P ro md ops Q S ex fuel (listed.setIfInBounds i true) a' w') a w

theorem wpAny_of_E {ro : Option Nat} : ∀ (fuel : Nat) (listed : Array Bool) (a : Act) (w : World), wpAnyE P ro md ops Q S ex fuel listed a w → wpAnyIn (FW ro) 0 P md ops Q fuel listed a w
  | 0, _, _, _, h => h
  | fuel + 1, _, _, _, h => ⟨h.1, fun i hi => wpOpIn_mono (fun a' w' h' => wpAny_of_E fuel _ a' w' h'.2) (h.2 i hi)⟩

/-- what may come and reads no more than S says, or hangs on no world, is taken first -/
theorem wpAnyE_first {ro : Option Nat} {i : Nat} {oi : Oper} {v : Value} (hi : ops[i]? = some oi) (hsel : ∀ (j : Nat) (o : Oper) cs b, ops[j]? = some o → o.op ≠ .select cs b) (hnd : noDefer ops = true)
    (hQ : ∀ c a w, Q (.panic c) (a.put oi.dst v) w → Q (.panic c) a w) (T : World → Prop) (hT : (T = fun _ => True) ∨ (T = S ∧ ∀ j, ex j = true → Anc md ops i j)) :
    ∀ (fuel : Nat) (listed : Array Bool) (a : Act) (w : World), Closed md ops listed →
      (∀ j oj, ops[j]? = some oj → j ≠ i → listed.getD j true = false → (∀ e ∈ oj.after, Region.binds md e = true → e.on ≠ i) → oi.apart ops oj = true) →
      i ∈ Region.ready md ops listed → YieldsIf P ops T oi v a → T w →
      wpAnyE P ro md ops Q S ex fuel (listed.setIfInBounds i true) (a.put oi.dst v) w → wpAnyE P ro md ops Q S ex (fuel + 1) listed a w := by
  intro fuel
  induction fuel with
  | zero =>
    intro listed a w _ _ hr hy hS H
    refine ⟨fun h => (by rw [h] at hr; cases hr), fun j hj => ?_⟩
    by_cases hji : j = i
    · subst hji; exact yields_wpOpIn hi hy hS ⟨.inr (.inr rfl), H⟩
    · have := ready_mono hj hji
      rw [H.1] at this
      cases this
  | succ fuel ih =>
    intro listed a w hcl hfree hr hy hS H
    refine ⟨fun h => (by rw [h] at hr; cases hr), fun j hj => ?_⟩
    by_cases hji : j = i
    · subst hji; exact yields_wpOpIn hi hy hS ⟨.inr (.inr rfl), H⟩
    · have h1 := H.2 j (ready_mono hj hji)
      obtain ⟨hjun, oj, hoj, hall⟩ := mem_ready.1 hj
      have hiun : listed.getD i false = false := by
        have h0 := (mem_ready.1 hr).1
        rcases Nat.lt_or_ge i listed.size with h' | h'
        · simp [h'] at h0 ⊢; exact h0
        · simp [Array.getElem?_eq_none h'] at h0
      have hnot : ∀ e ∈ oj.after, Region.binds md e = true → e.on ≠ i := fun e he hb heq => by
        have h1 := hall e he hb
        rw [heq, hiun] at h1; cases h1
      have hfree' : ∀ k ok, ops[k]? = some ok → k ≠ i → (listed.setIfInBounds j true).getD k true = false →
          (∀ e ∈ ok.after, Region.binds md e = true → e.on ≠ i) → oi.apart ops ok = true := fun k ok hk hki hun hno => by
        refine hfree k ok hk hki ?_ hno
        by_cases hjk : j = k
        · subst hjk; exact hjun
        · rw [getD_set_ne true hjk] at hun; exact hun
      refine wpOpIn_mono (fun a' w' h3 => ?_) (wpOpIn_early hoj (noDefer.spec hnd hoj) (hfree j oj hoj hji hjun hnot) (fun cs b => hsel i oi cs b hi) (fun cs b => hsel j oj cs b hoj) hQ hy h1)
      have hT' : T w' := by
        rcases hT with rfl | ⟨rfl, hex⟩
        · trivial
        · rcases h3.2.1 with h | h | h
          · exact h
          · have := (hex j h).of_ready hcl hj
            rw [hiun] at this; cases this
          · rw [h]; exact hS
      refine ⟨h3.2.1, ih (listed.setIfInBounds j true) a' w' (hcl.set hj) hfree' (ready_mono hr (Ne.symm hji)) h3.1 hT' ?_⟩
      rw [Array.setIfInBounds_comm _ _ hji]
      exact h3.2.2
end

/-! ### the walk -/
section
variable {P : Program} {ro : Option Nat} {ops : Array Oper} {Q : Post} {N : Nat}

/-- rds: who reads; live: what is read (Lr) is still there -/
def swd (P : Program) (ro : Option Nat) (ops : Array Oper) (Q : Post) (N : Nat) (rds : List Nat) (fuel : Nat) (listed : Array Bool) (live : Bool) (env : Env) (Lr Lx : List Assn) : Prop :=
  ∀ E D a w, a.defers = D.map mark → Fr N a env → (if live then H (E.add D) w (Lr ++ Lx) else H (E.add D) w Lx) → Closed .any ops listed →
    wpAnyE P ro .any ops (PQ E N Q) (fun w => H (E.add D) w Lr) (fun j => rds.all fun i => ancB .any ops i ops.size j) fuel listed a w

variable {rds : List Nat} {fuel : Nat} {listed : Array Bool} {live : Bool} {env : Env} {Lr Lx : List Assn} {d : Nat} {op : Op} {ty : TypeId} {pos : String} {af : Array Edge}

theorem H.left {E : Ctx} {w : World} {L1 L2 : List Assn} (h : H E w (L1 ++ L2)) : H E w L1 := h.ent (fun m hm => by
  have key : ∀ K : List Assn, Ent (K ++ L2) K := fun K => by
    induction K with
    | nil => exact fun _ _ => trivial
    | cons A K ih => exact Ent.cons ih
  exact key L1 m hm)

theorem closed_none (n : Nat) : Closed .any ops (Array.replicate n false) := by
  intro j o hj hl
  rcases Nat.lt_or_ge j n with h | h
  · simp [h] at hl
  · simp [h] at hl

theorem swp_draw {id : Nat} {l : List Oper} {L : List Assn} (rds : List Nat) (Lr Lx : List Assn) (hL : Ent L (Lr ++ Lx)) (hm : P.follows .mixedOrders = true)
    (h : swd P ro l.toArray Q N rds l.toArray.size (Array.replicate l.toArray.size false) true env Lr Lx) : swp P ro (.region id l.toArray true) Q N env L := by
  intro E D a w hD hf hh
  exact wpIn_region_any hm (wpAny_of_E _ _ _ _ (h E D a _ hD hf (hh.ent hL) (closed_none _)))

theorem PQ_panic {E : Ctx} (dst : Option Tmp) (v : Value) : ∀ c a w, PQ E N Q (.panic c) (a.put dst v) w → PQ E N Q (.panic c) a w := fun _ _ _ h => h.elim
theorem sel_of (h : (Region.noSelect ops && noDefer ops) = true) : Region.noSelect ops = true := (Bool.and_eq_true_iff.1 h).1
theorem def_of (h : (Region.noSelect ops && noDefer ops) = true) : noDefer ops = true := (Bool.and_eq_true_iff.1 h).2
theorem ex_anc {i : Nat} (hm : i ∈ rds) : ∀ j, (rds.all fun i => ancB .any ops i ops.size j) = true → Anc .any ops i j := fun _ hj => ancB.spec _ _ (List.all_eq_true.1 hj i hm)

/-- number i, which hangs on no world, is taken -/
theorem d_any (i : Nat) {g : Option (Nat × Bool)} {v : Value} (hi : ops[i]? = some ⟨some d, op, ty, pos, af, g⟩) (h : ∀ a, Fr N a env → YieldsIf P ops (fun _ => True) ⟨some d, op, ty, pos, af, g⟩ v a) (hs : (Region.noSelect ops && noDefer ops) = true) (hfr : Region.free .any ops listed i = true) (hr : (Region.ready .any ops listed).contains i = true)
    (k : swd P ro ops Q N rds fuel (listed.setIfInBounds i true) live ((d, v) :: env) Lr Lx) (hd : Nat.blt d N = true) : swd P ro ops Q N rds (fuel + 1) listed live env Lr Lx := by
  intro E D a w hD hf hh hc
  have hri : i ∈ Region.ready .any ops listed := by simpa using hr
  refine wpAnyE_first hi (Region.noSelect_spec (sel_of hs)) (def_of hs) (PQ_panic _ _) (fun _ => True) (.inl rfl) fuel listed a w hc (Region.free_spec hi hfr) hri (h a hf) trivial ?_
  exact k E D _ w ((put_defers a _ _).trans hD) (hf.put hd v) hh (hc.set hri)
theorem d_pu (i : Nat) {v : Value} (hi : ops[i]? = some ⟨some d, op, ty, pos, af, none⟩) (h : Pu P env op v) (hs : (Region.noSelect ops && noDefer ops) = true) (hfr : Region.free .any ops listed i = true) (hr : (Region.ready .any ops listed).contains i = true)
    (k : swd P ro ops Q N rds fuel (listed.setIfInBounds i true) live ((d, v) :: env) Lr Lx) (hd : Nat.blt d N = true := by rfl) : swd P ro ops Q N rds (fuel + 1) listed live env Lr Lx :=
  d_any i hi (fun _ hf => .inl ⟨by simp [Region.wanted], fun w _ => h _ hf.ev _ _ _ _ _ w⟩) hs hfr hr k hd
/-- a guard that says no -/
theorem d_off (i : Nat) {g t : Nat} {want : Bool} {u : Value} (hi : ops[i]? = some ⟨some d, op, ty, pos, af, some (g, want)⟩) (hg : gslot ops g = some t) (hb : look env t = some u) (hne : (match u with | .bool b => b != want | _ => true) = true) (hs : (Region.noSelect ops && noDefer ops) = true) (hfr : Region.free .any ops listed i = true) (hr : (Region.ready .any ops listed).contains i = true)
    (k : swd P ro ops Q N rds fuel (listed.setIfInBounds i true) live ((d, undef) :: env) Lr Lx) (hd : Nat.blt d N = true := by rfl) : swd P ro ops Q N rds (fuel + 1) listed live env Lr Lx :=
  d_any i hi (fun _ hf => .inr ⟨not_wanted hf hg hb hne, rfl⟩) hs hfr hr k hd
theorem d_pu_on (i : Nat) {v : Value} {g t : Nat} {want : Bool} (hi : ops[i]? = some ⟨some d, op, ty, pos, af, some (g, want)⟩) (hg : gslot ops g = some t) (hb : look env t = some (.bool want)) (h : Pu P env op v) (hs : (Region.noSelect ops && noDefer ops) = true) (hfr : Region.free .any ops listed i = true) (hr : (Region.ready .any ops listed).contains i = true)
    (k : swd P ro ops Q N rds fuel (listed.setIfInBounds i true) live ((d, v) :: env) Lr Lx) (hd : Nat.blt d N = true := by rfl) : swd P ro ops Q N rds (fuel + 1) listed live env Lr Lx :=
  d_any i hi (fun _ hf => .inl ⟨by simp [Region.wanted, yielded_of hf hg hb], fun w _ => h _ hf.ev _ _ _ _ _ w⟩) hs hfr hr k hd
/-- number i, which reads, is taken -/
theorem d_rdany (i : Nat) {g : Option (Nat × Bool)} {v : Value} (hi : ops[i]? = some ⟨some d, op, ty, pos, af, g⟩) (h : ∀ E a, Fr N a env → YieldsIf P ops (fun w => H E w Lr) ⟨some d, op, ty, pos, af, g⟩ v a) (hm : rds.contains i = true) (hs : (Region.noSelect ops && noDefer ops) = true) (hfr : Region.free .any ops listed i = true) (hr : (Region.ready .any ops listed).contains i = true)
    (k : swd P ro ops Q N rds fuel (listed.setIfInBounds i true) true ((d, v) :: env) Lr Lx) (hd : Nat.blt d N = true) : swd P ro ops Q N rds (fuel + 1) listed true env Lr Lx := by
  intro E D a w hD hf hh hc
  have hri : i ∈ Region.ready .any ops listed := by simpa using hr
  refine wpAnyE_first hi (Region.noSelect_spec (sel_of hs)) (def_of hs) (PQ_panic _ _) (fun w => H (E.add D) w Lr) (.inr ⟨rfl, ex_anc (by simpa using hm)⟩) fuel listed a w hc (Region.free_spec hi hfr) hri (h _ a hf) (H.left hh) ?_
  exact k E D _ w ((put_defers a _ _).trans hD) (hf.put hd v) hh (hc.set hri)
theorem d_rd (i : Nat) {v : Value} (hi : ops[i]? = some ⟨some d, op, ty, pos, af, none⟩) (h : Rd P env Lr op v) (hm : rds.contains i = true) (hs : (Region.noSelect ops && noDefer ops) = true) (hfr : Region.free .any ops listed i = true) (hr : (Region.ready .any ops listed).contains i = true)
    (k : swd P ro ops Q N rds fuel (listed.setIfInBounds i true) true ((d, v) :: env) Lr Lx) (hd : Nat.blt d N = true := by rfl) : swd P ro ops Q N rds (fuel + 1) listed true env Lr Lx :=
  d_rdany i hi (fun E _ hf => .inl ⟨by simp [Region.wanted], fun w' hw' => h _ hf.ev _ _ _ _ _ E w' hw'⟩) hm hs hfr hr k hd
theorem d_rd_on (i : Nat) {v : Value} {g t : Nat} {want : Bool} (hi : ops[i]? = some ⟨some d, op, ty, pos, af, some (g, want)⟩) (hg : gslot ops g = some t) (hb : look env t = some (.bool want)) (h : Rd P env Lr op v) (hm : rds.contains i = true) (hs : (Region.noSelect ops && noDefer ops) = true) (hfr : Region.free .any ops listed i = true) (hr : (Region.ready .any ops listed).contains i = true)
    (k : swd P ro ops Q N rds fuel (listed.setIfInBounds i true) true ((d, v) :: env) Lr Lx) (hd : Nat.blt d N = true := by rfl) : swd P ro ops Q N rds (fuel + 1) listed true env Lr Lx :=
  d_rdany i hi (fun E _ hf => .inl ⟨by simp [Region.wanted, yielded_of hf hg hb], fun w' hw' => h _ hf.ev _ _ _ _ _ E w' hw'⟩) hm hs hfr hr k hd

theorem wpAnyE_one {i : Nat} {o : Oper} {a : Act} {w : World} {S : World → Prop} {ex : Nat → Bool} {Q : Exit → Act → World → Prop} (hi : ops[i]? = some o) (hg : o.guard = none) (hr : Region.ready .any ops listed = [i])
    (h : ∀ K : Act → World → Prop, (∀ a' w', (S w' ∨ ex i = true ∨ w' = w) → wpAnyE P ro .any ops Q S ex fuel (listed.setIfInBounds i true) a' w' → K a' w') → o.wpIn (FW ro) 0 P a w K Q) :
    wpAnyE P ro .any ops Q S ex (fuel + 1) listed a w := by
  refine ⟨fun h0 => (by rw [hr] at h0; cases h0), fun j hj => ?_⟩
  rw [hr, List.mem_singleton] at hj
  subst hj
  unfold wpOpIn
  simp only [hi]
  rw [if_pos (by simp [Region.wanted, hg])]
  exact h _ (fun a' w' x y => ⟨x, y⟩)

/-- the one that comes next acts; what is read stays -/
theorem d_ef (i : Nat) {Φ : (Value → List Assn → Prop) → Prop} (hi : ops[i]? = some ⟨some d, op, ty, pos, af, none⟩) (hr : Region.ready .any ops listed = [i]) (h : Ef P env (Lr ++ Lx) op Φ)
    (hk : Φ (fun v L' => ∃ Lx', Ent L' (Lr ++ Lx') ∧ swd P ro ops Q N rds fuel (listed.setIfInBounds i true) true ((d, v) :: env) Lr Lx')) (hd : Nat.blt d N = true := by rfl) : swd P ro ops Q N rds (fuel + 1) listed true env Lr Lx := by
  intro E D a w hD hf hh hc
  have hri : i ∈ Region.ready .any ops listed := by rw [hr]; simp
  refine wpAnyE_one hi rfl hr fun K hK => h ro (some d) ty pos af none N _ a w K _ _ hf hh hk fun v w' L' ⟨Lx', he, hs⟩ h' => hK _ _ (.inl (H.left (h'.ent he))) ?_
  exact hs E D _ w' ((put_defers a _ _).trans hD) (hf.put hd v) (h'.ent he) (hc.set hri)
theorem d_ef0 (i : Nat) {Φ : (Value → List Assn → Prop) → Prop} (hi : ops[i]? = some ⟨none, op, ty, pos, af, none⟩) (hr : Region.ready .any ops listed = [i]) (h : Ef P env (Lr ++ Lx) op Φ)
    (hk : Φ (fun _ L' => ∃ Lx', Ent L' (Lr ++ Lx') ∧ swd P ro ops Q N rds fuel (listed.setIfInBounds i true) true env Lr Lx')) : swd P ro ops Q N rds (fuel + 1) listed true env Lr Lx := by
  intro E D a w hD hf hh hc
  have hri : i ∈ Region.ready .any ops listed := by rw [hr]; simp
  refine wpAnyE_one hi rfl hr fun K hK => h ro none ty pos af none N _ a w K _ _ hf hh hk fun v w' L' ⟨Lx', he, hs⟩ h' => hK _ _ (.inl (H.left (h'.ent he))) ?_
  exact hs E D _ w' hD (hf.put0 v) (h'.ent he) (hc.set hri)
/-- the one that comes next acts, and all readers stand ahead of it -/
theorem d_fin (i : Nat) {Φ : (Value → List Assn → Prop) → Prop} {L : List Assn} (hi : ops[i]? = some ⟨some d, op, ty, pos, af, none⟩) (hr : Region.ready .any ops listed = [i]) (hex : (rds.all fun r => ancB .any ops r ops.size i) = true) (hl : (bif live then Lr ++ Lx else Lx) = L) (h : Ef P env L op Φ)
    (hk : Φ (fun v L' => swd P ro ops Q N rds fuel (listed.setIfInBounds i true) false ((d, v) :: env) Lr L')) (hd : Nat.blt d N = true := by rfl) : swd P ro ops Q N rds (fuel + 1) listed live env Lr Lx := by
  intro E D a w hD hf hh hc
  have hri : i ∈ Region.ready .any ops listed := by rw [hr]; simp
  have hh' : H (E.add D) w L := by subst hl; cases live <;> exact hh
  refine wpAnyE_one hi rfl hr fun K hK => h ro (some d) ty pos af none N _ a w K _ _ hf hh' hk fun v w' L' hs h' => hK _ _ (.inr (.inl hex)) ?_
  exact hs E D _ w' ((put_defers a _ _).trans hD) (hf.put hd v) h' (hc.set hri)
theorem d_fin0 (i : Nat) {Φ : (Value → List Assn → Prop) → Prop} {L : List Assn} (hi : ops[i]? = some ⟨none, op, ty, pos, af, none⟩) (hr : Region.ready .any ops listed = [i]) (hex : (rds.all fun r => ancB .any ops r ops.size i) = true) (hl : (bif live then Lr ++ Lx else Lx) = L) (h : Ef P env L op Φ)
    (hk : Φ (fun _ L' => swd P ro ops Q N rds fuel (listed.setIfInBounds i true) false env Lr L')) : swd P ro ops Q N rds (fuel + 1) listed live env Lr Lx := by
  intro E D a w hD hf hh hc
  have hri : i ∈ Region.ready .any ops listed := by rw [hr]; simp
  have hh' : H (E.add D) w L := by subst hl; cases live <;> exact hh
  refine wpAnyE_one hi rfl hr fun K hK => h ro none ty pos af none N _ a w K _ _ hf hh' hk fun v w' L' hs h' => hK _ _ (.inr (.inl hex)) ?_
  exact hs E D _ w' hD (hf.put0 v) h' (hc.set hri)

theorem d_nil {L : List Assn} (hr : Region.ready .any ops listed = []) (hl : (bif live then Lr ++ Lx else Lx) = L) (h : Q .normal env L) : swd P ro ops Q N rds fuel listed live env Lr Lx := by
  intro E D a w hD hf hh hc
  have hh' : H (E.add D) w L := by subst hl; cases live <;> exact hh
  have hq : PQ E N Q .normal a w := ⟨D, env, L, hD, hf, hh', h⟩
  cases fuel with
  | zero => exact ⟨hr, hq⟩
  | succ f => exact ⟨fun _ => hq, fun i hi => by rw [hr] at hi; cases hi⟩
theorem d_sub {L : List Assn} (env' : Env) (h : Sub env env') (k : swd P ro ops Q N rds fuel listed live env' Lr L) : swd P ro ops Q N rds fuel listed live env Lr L := fun E D a w hD hf hh hc => k E D a w hD (hf.less h.spec) hh hc
theorem d_split (t : Nat) {b : Bool} (hb : look env t = some (.bool b)) (h1 : b = true → swd P ro ops Q N rds fuel listed live ((t, .bool true) :: env) Lr Lx) (h2 : b = false → swd P ro ops Q N rds fuel listed live ((t, .bool false) :: env) Lr Lx) :
    swd P ro ops Q N rds fuel listed live env Lr Lx := by
  intro E D a w hD hf hh hc
  cases b with
  | true => exact h1 rfl E D a w hD (hf.bool hb rfl) hh hc
  | false => exact h2 rfl E D a w hD (hf.bool hb rfl) hh hc
end
end SX
