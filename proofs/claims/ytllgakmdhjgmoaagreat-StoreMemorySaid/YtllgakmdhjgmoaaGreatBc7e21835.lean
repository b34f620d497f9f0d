/- A part of the proof: walks of the program's functions, and the rules by which they go. -/
import Derived.WalkKit
import Derived.OrdersHeld
import Derived.KernelRfl
import Derived.TacticsIn
import Derived.OrdersIn
import Derived.RangeFuncIn
import Derived.Defers
import Derived.Maps.AppendAt
import Derived.RangeFuncLeaves
import Derived.Laws.StructEq
import Derived.ChangeKeysEq
import Derived.RangeFuncRecord
import Derived.Below
import Derived.ChangeSame
import Derived.Laws.MakeOwn
import Derived.Lib.TrailingZeros
import Derived.MapKept
namespace SX
open Go

/-! ## Heaps -/
abbrev PH := Nat → Option Obj
def Assn := PH → Prop

def Sat : List Assn → PH → Prop
  | [], _ => True
  | A :: L, m => ∃ m1 m2 : PH, A m1 ∧ Sat L m2 ∧ (∀ b, m1 b = none ∨ m2 b = none) ∧ (∀ b o, m1 b = some o → m b = some o) ∧ (∀ b o, m2 b = some o → m b = some o)

theorem Sat.mono {L : List Assn} {m m' : PH} (h : Sat L m) (hm : ∀ b o, m b = some o → m' b = some o) : Sat L m' := by
  cases L with
  | nil => trivial
  | cons A L =>
    obtain ⟨m1, m2, h1, h2, hd, s1, s2⟩ := h
    exact ⟨m1, m2, h1, h2, hd, fun b o h => hm b o (s1 b o h), fun b o h => hm b o (s2 b o h)⟩

/-- the union of two heaps that are apart -/
def PH.or (m1 m2 : PH) : PH := fun b => (m1 b).or (m2 b)

theorem PH.or_left {m1 m2 : PH} {b : Nat} {o : Obj} (h : m1 b = some o) : (m1.or m2) b = some o := by simp [PH.or, h]
theorem PH.or_right {m1 m2 : PH} (hd : ∀ b, m1 b = none ∨ m2 b = none) {b : Nat} {o : Obj} (h : m2 b = some o) : (m1.or m2) b = some o := by
  rcases hd b with h1 | h1
  · simp [PH.or, h1, h]
  · rw [h1] at h; cases h
theorem PH.or_inv {m1 m2 : PH} {b : Nat} {o : Obj} (h : (m1.or m2) b = some o) : m1 b = some o ∨ m2 b = some o := by
  unfold PH.or at h
  cases h1 : m1 b with
  | none => rw [h1] at h; exact .inr (by simpa using h)
  | some x => rw [h1] at h; exact .inl (by simpa using h)

theorem Sat.swap {A B : Assn} {L : List Assn} {m : PH} (h : Sat (A :: B :: L) m) : Sat (B :: A :: L) m := by
  obtain ⟨m1, m2, h1, ⟨n1, n2, k1, k2, kd, t1, t2⟩, hd, s1, s2⟩ := h
  have apart : ∀ b, m1 b = none ∨ n2 b = none := fun b => (hd b).imp_right fun h => by
    cases hn : n2 b with
    | none => rfl
    | some o => rw [t2 b o hn] at h; cases h
  refine ⟨n1, m1.or n2, k1, ⟨m1, n2, h1, k2, apart, fun b o h => PH.or_left h, fun b o h => PH.or_right apart h⟩, ?_, fun b o h => s2 b o (t1 b o h), ?_⟩
  · intro b
    cases hn : n1 b with
    | none => exact .inl rfl
    | some o =>
      right
      have e1 : m1 b = none := (hd b).resolve_right (by rw [t1 b o hn]; simp)
      have e2 : n2 b = none := (kd b).resolve_left (by rw [hn]; simp)
      simp [PH.or, e1, e2]
  · intro b o h
    rcases PH.or_inv h with h | h
    · exact s1 b o h
    · exact s2 b o (t2 b o h)

theorem Sat.cons_mono {A : Assn} {L L' : List Assn} (hh : ∀ m, Sat L m → Sat L' m) {m : PH} (h : Sat (A :: L) m) : Sat (A :: L') m := by
  obtain ⟨m1, m2, h1, h2, hd, s1, s2⟩ := h
  exact ⟨m1, m2, h1, hh _ h2, hd, s1, s2⟩

theorem Sat.perm {L L' : List Assn} (p : L.Perm L') : ∀ m, Sat L m → Sat L' m := by
  induction p with
  | nil => exact fun _ h => h
  | cons A _ ih => exact fun _ h => Sat.cons_mono ih h
  | swap A B L => exact fun _ h => h.swap
  | trans _ _ ih1 ih2 => exact fun m h => ih2 m (ih1 m h)

theorem Sat.tail {A : Assn} {L : List Assn} {m : PH} (h : Sat (A :: L) m) : Sat L m := by
  obtain ⟨m1, m2, h1, h2, hd, s1, s2⟩ := h
  exact h2.mono s2

theorem Sat.imp {A B : Assn} {L : List Assn} {m : PH} (hh : ∀ m, A m → B m) (h : Sat (A :: L) m) : Sat (B :: L) m := by
  obtain ⟨m1, m2, h1, h2, hd, s1, s2⟩ := h
  exact ⟨m1, m2, hh _ h1, h2, hd, s1, s2⟩

/-- entailment -/
def Ent (L L' : List Assn) : Prop := ∀ m, Sat L m → Sat L' m
theorem Ent.refl (L : List Assn) : Ent L L := fun _ h => h
theorem Ent.trans {L1 L2 L3 : List Assn} (h : Ent L1 L2) (k : Ent L2 L3) : Ent L1 L3 := fun m x => k m (h m x)
theorem Ent.perm {L L' : List Assn} (p : L.Perm L') : Ent L L' := Sat.perm p
theorem Ent.cons {A : Assn} {L L' : List Assn} (h : Ent L L') : Ent (A :: L) (A :: L') := fun _ => Sat.cons_mono h
theorem Ent.drop {A : Assn} {L : List Assn} : Ent (A :: L) L := fun _ h => h.tail
theorem Ent.swap {A B : Assn} {L : List Assn} : Ent (A :: B :: L) (B :: A :: L) := fun _ h => h.swap
theorem Ent.imp {A B : Assn} {L : List Assn} (hh : ∀ m, A m → B m) : Ent (A :: L) (B :: L) := fun _ h => h.imp hh
theorem Ent.app {L1 L2 R : List Assn} (h : Ent L1 L2) : Ent (L1 ++ R) (L2 ++ R) := by
  have e : ∀ X : List Assn, (X ++ R).Perm (R ++ X) := fun X => List.perm_append_comm
  have key : ∀ R : List Assn, Ent (R ++ L1) (R ++ L2) := fun R => by
    induction R with
    | nil => exact h
    | cons A R ih => exact Ent.cons ih
  exact (Ent.perm (e L1)).trans ((key R).trans (Ent.perm (e L2).symm))

/-- A is found in L; what is left -/
inductive Take (A : Assn) : List Assn → List Assn → Prop
  | here {L : List Assn} : Take A (A :: L) L
  | there {B : Assn} {L L' : List Assn} (h : Take A L L') : Take A (B :: L) (B :: L')
theorem Take.perm {A : Assn} {L L' : List Assn} (h : Take A L L') : L.Perm (A :: L') := by
  induction h with
  | here => exact .refl _
  | there _ ih => exact (List.Perm.cons _ ih).trans (.swap _ _ _)

/-- L holds all of K, and R besides -/
inductive Split : List Assn → List Assn → List Assn → Prop
  | nil {L : List Assn} : Split L [] L
  | cons {A : Assn} {L L' K R : List Assn} (h : Take A L L') (k : Split L' K R) : Split L (A :: K) R
theorem Split.perm {L K R : List Assn} (h : Split L K R) : L.Perm (K ++ R) := by
  induction h with
  | nil => exact .refl _
  | cons h _ ih => exact h.perm.trans (List.Perm.cons _ ih)
theorem Split.ent {L K R : List Assn} (h : Split L K R) : Ent L (K ++ R) := Ent.perm h.perm
/-- a last step: all that is asked is there (the rest is dropped) -/
theorem Split.ent' {L K R : List Assn} (h : Split L K R) : Ent L K := h.ent.trans (fun m hm => by
  have key : ∀ K : List Assn, Ent (K ++ R) K := fun K => by
    induction K with
    | nil => exact fun _ _ => trivial
    | cons A K ih => exact Ent.cons ih
  exact key K m hm)

/-- one is put in another's place -/
inductive Put (A A' : Assn) : List Assn → List Assn → Prop
  | here {L : List Assn} : Put A A' (A :: L) (A' :: L)
  | there {B : Assn} {L L' : List Assn} (h : Put A A' L L') : Put A A' (B :: L) (B :: L')
theorem Put.spec {A A' : Assn} {L L' : List Assn} (h : Put A A' L L') : ∃ R, L.Perm (A :: R) ∧ (A' :: R).Perm L' := by
  induction h with
  | here => exact ⟨_, .refl _, .refl _⟩
  | there _ ih =>
    obtain ⟨R, h1, h2⟩ := ih
    exact ⟨_ :: R, (List.Perm.cons _ h1).trans (.swap _ _ _), (List.Perm.swap _ _ _).trans (List.Perm.cons _ h2)⟩

/-- what stays: the streams and the tape; and assertions of whoever called -/
structure Ctx where
  w : World
  X : List Assn

def H (E : Ctx) (w : World) (L : List Assn) : Prop :=
  w.os = E.w.os ∧ w.output = E.w.output ∧ w.tape = E.w.tape ∧ E.w.heap.size ≤ w.heap.size ∧ Sat (E.X ++ L) (fun b => w.heap[b]?)

theorem Ent.under {L1 L2 : List Assn} (h : Ent L1 L2) : ∀ X : List Assn, Ent (X ++ L1) (X ++ L2)
  | [] => h
  | _ :: X => Ent.cons (Ent.under h X)
theorem H.ent {E : Ctx} {w : World} {L L' : List Assn} (h : H E w L) (e : Ent L L') : H E w L' := ⟨h.1, h.2.1, h.2.2.1, h.2.2.2.1, e.under E.X _ h.2.2.2.2⟩
theorem H.drew {E : Ctx} {w : World} {L : List Assn} (h : H E w L) : H E w.drew L := h
theorem H.sat {E : Ctx} {w : World} {L : List Assn} (h : H E w L) : Sat L (fun b => w.heap[b]?) := by
  have key : ∀ (X : List Assn) m, Sat (X ++ L) m → Sat L m := fun X => by
    induction X with
    | nil => exact fun _ h => h
    | cons A X ih => exact fun m h => ih m h.tail
  exact key _ _ h.2.2.2.2
/-- what isn't looked at goes to the caller's side, and back -/
theorem H.hide {E : Ctx} {w : World} {L R : List Assn} (h : H E w (L ++ R)) : H ⟨E.w, E.X ++ R⟩ w L :=
  ⟨h.1, h.2.1, h.2.2.1, h.2.2.2.1, Sat.perm (by rw [List.append_assoc]; exact List.Perm.append_left _ List.perm_append_comm) _ h.2.2.2.2⟩
theorem H.show_ {E : Ctx} {w : World} {L R : List Assn} (h : H ⟨E.w, E.X ++ R⟩ w L) : H E w (L ++ R) :=
  ⟨h.1, h.2.1, h.2.2.1, h.2.2.2.1, Sat.perm (by
    show ((E.X ++ R) ++ L).Perm (E.X ++ (L ++ R))
    rw [List.append_assoc]; exact List.Perm.append_left _ List.perm_append_comm) _ h.2.2.2.2⟩

/-- one block, whole -/
def one (b : Nat) (o : Obj) : Assn := fun m => m b = some o
/-- one row of cells, none of them frozen -/
def blk (b : Nat) (t : TypeId) (cs : List Value) : Assn := one b (.cells cs.toArray t (0, 0))

theorem H.one_get {E : Ctx} {w : World} {L L' : List Assn} {b : Nat} {o : Obj} (h : H E w L) (t : Take (one b o) L L') : w.heap[b]? = some o := by
  obtain ⟨m1, m2, h1, _, _, s1, _⟩ := (h.ent (Ent.perm t.perm)).sat
  exact s1 b o h1

theorem perm_out {A : Assn} {X L R : List Assn} (h : L.Perm (A :: R)) : (X ++ L).Perm (A :: (X ++ R)) :=
  (List.Perm.append_left X h).trans List.perm_middle

theorem H.alloc {E : Ctx} {w : World} {L : List Assn} (h : H E w L) (o : Obj) : H E (w.alloc o) (one w.heap.size o :: L) := by
  obtain ⟨h1, h2, h3, h4, h5⟩ := h
  refine ⟨h1, h2, h3, by simp; omega, Sat.perm (perm_out (.refl _)).symm _ ⟨fun b => if b = w.heap.size then some o else none, (fun b => w.heap[b]?), by simp [one], h5, ?_, ?_, ?_⟩⟩
  · intro b
    by_cases hb : b = w.heap.size
    · right; subst hb; simp
    · left; simp [hb]
  · intro b o' hb
    by_cases hb' : b = w.heap.size
    · subst hb'; simp at hb; subst hb; exact heap_alloc_new w _
    · simp [hb'] at hb
  · intro b o' hb
    have hlt : b < w.heap.size := (Array.getElem?_eq_some_iff.1 hb).1
    show (w.alloc o).heap[b]? = some o'
    rw [Go.RowKit.Below.heap_alloc w o b hlt]
    exact hb

theorem H.upd {E : Ctx} {w : World} {L L' : List Assn} {b : Nat} {o o' : Obj} (h : H E w L) (p : Put (one b o) (one b o') L L') (w' : World)
    (e1 : w'.os = w.os) (e2 : w'.output = w.output) (e3 : w'.tape = w.tape) (e4 : w'.heap.size = w.heap.size) (e5 : w'.heap[b]? = some o') (e6 : ∀ k, k ≠ b → w'.heap[k]? = w.heap[k]?) : H E w' L' := by
  obtain ⟨R, p1, p2⟩ := p.spec
  obtain ⟨h1, h2, h3, h4, h5⟩ := h
  obtain ⟨m1, m2, k1, k2, kd, s1, s2⟩ := Sat.perm (perm_out (X := E.X) p1) _ h5
  refine ⟨e1.trans h1, e2.trans h2, e3.trans h3, by omega, Sat.perm ((perm_out (X := E.X) p2.symm).symm) _ ⟨fun k => if k = b then some o' else none, m2, by simp [one], k2, ?_, ?_, ?_⟩⟩
  · intro k
    by_cases hk : k = b
    · right; subst hk
      exact (kd k).resolve_left (by unfold one at k1; rw [k1]; simp)
    · left; simp [hk]
  · intro k x hx
    by_cases hk : k = b
    · subst hk; simp at hx; subst hx; exact e5
    · simp [hk] at hx
  · intro k x hx
    have hkb : k ≠ b := by
      rintro rfl
      rcases kd k with hd | hd
      · unfold one at k1; rw [k1] at hd; cases hd
      · rw [hd] at hx; cases hx
    show w'.heap[k]? = some x
    rw [e6 k hkb]; exact s2 k x hx

theorem H.setCell {E : Ctx} {w : World} {L L' : List Assn} {b t i : Nat} {cs : List Value} (h : H E w L) (v : Value) (p : Put (blk b t cs) (blk b t (cs.set i v)) L L') : H E (w.setCell ⟨b, i, none⟩ v) L' := by
  obtain ⟨R, p1, _⟩ := p.spec
  have hb : w.heap[b]? = some (.cells cs.toArray t (0, 0)) := (h.ent (Ent.perm p1)).one_get .here
  refine h.upd (b := b) (o := .cells cs.toArray t (0, 0)) (o' := .cells (cs.set i v).toArray t (0, 0)) p _ rfl rfl rfl (by simp) ?_ ?_
  · simp [World.setCell, Array.getElem?_modify, hb]
  · intro k hk
    exact Go.RowKit.Below.heap_setCell w _ v k hk

theorem H.cell {E : Ctx} {w : World} {L L' : List Assn} {b t : Nat} {cs : List Value} (h : H E w L) (k : Take (blk b t cs) L L') (i : Nat) : w.cell? ⟨b, i, none⟩ = cs[i]? := by
  have hb := h.one_get k
  simp [World.cell?, hb]

end SX
namespace SX
open Go

/-! ## Frames -/
abbrev Env := List (Nat × Value)
def look : Env → Nat → Option Value
  | [], _ => none
  | (s, v) :: env, t => bif Nat.beq s t then some v else look env t

def evalE (env : Env) : Operand → Option Value
  | .tmp t => look env t
  | .const v => some v
  | .global g => some (.pointer (some ⟨g, 0, none⟩))
  | .func f => some (.func (.func f) #[] #[])

def Fr (N : Nat) (a : Act) (env : Env) : Prop := a.tmps.size = N ∧ ∀ t v, look env t = some v → a.tmps[t]? = some v
/-- what an operand is, whatever else -/
def Ev (ρ : Operand → Value) (env : Env) : Prop := ∀ x v, evalE env x = some v → ρ x = v

theorem Fr.ev {N : Nat} {a : Act} {env : Env} (h : Fr N a env) : Ev a.eval env := by
  intro x v hx
  cases x with
  | tmp t =>
    have := h.2 t v hx
    simp [Act.eval, this]
  | const u => simp only [evalE, Option.some.injEq] at hx; exact hx
  | global g => simp only [evalE, Option.some.injEq] at hx; exact hx
  | func f => simp only [evalE, Option.some.injEq] at hx; exact hx

theorem beq_cases (s t : Nat) : (Nat.beq s t = true ∧ s = t) ∨ (Nat.beq s t = false ∧ s ≠ t) := by
  cases hb : Nat.beq s t with
  | true => exact .inl ⟨rfl, Nat.eq_of_beq_eq_true hb⟩
  | false => exact .inr ⟨rfl, Nat.ne_of_beq_eq_false hb⟩

theorem Fr.put {N : Nat} {a : Act} {env : Env} (h : Fr N a env) {d : Nat} (hd : Nat.blt d N = true) (v : Value) : Fr N (a.put (some d) v) ((d, v) :: env) := by
  have hlt : d < N := Nat.le_of_ble_eq_true hd
  refine ⟨by simp [Act.put, h.1], fun t u hu => ?_⟩
  unfold look at hu
  rcases beq_cases d t with ⟨hb, rfl⟩ | ⟨hb, hne⟩
  · rw [hb] at hu
    simp only [cond_true, Option.some.injEq] at hu
    subst hu
    simp [Act.put, h.1, hlt]
  · rw [hb] at hu
    simp only [cond_false] at hu
    simp only [Act.put]
    rw [Array.getElem?_setIfInBounds_ne hne]
    exact h.2 t u hu
theorem Fr.put0 {N : Nat} {a : Act} {env : Env} (h : Fr N a env) (v : Value) : Fr N (a.put none v) env := h
/-- fewer slots -/
theorem Fr.less {N : Nat} {a : Act} {env env' : Env} (h : Fr N a env) (hs : ∀ t v, look env' t = some v → look env t = some v) : Fr N a env' := ⟨h.1, fun t v hv => h.2 t v (hs t v hv)⟩

/-- every slot of env' is a slot of env, with its value -/
def Sub (env : Env) : Env → Prop
  | [] => True
  | (t, v) :: env' => look env t = some v ∧ Sub env env'
theorem Sub.spec {env : Env} : ∀ {env' : Env}, Sub env env' → ∀ t v, look env' t = some v → look env t = some v
  | [], _, t, v, h => by cases h
  | (s, u) :: env', ⟨h1, h2⟩, t, v, h => by
    unfold look at h
    rcases beq_cases s t with ⟨hb, rfl⟩ | ⟨hb, _⟩
    · rw [hb] at h; simp only [cond_true, Option.some.injEq] at h; subst h; exact h1
    · rw [hb] at h; exact Sub.spec h2 t v h

/-! ## Code -/
/-- a fence that lets everything in; in a round of a range over a function, or not -/
def FW (ro : Option Nat) : Fence := { Fence.wide with round := ro }
theorem fw_calls {ro : Option Nat} {n : Nat} {P : Program} {f : FuncId} {args : Array Value} {w : World} {R : Ending → World → Prop} (h : Calls P f args w R) : CallsIn (FW ro) n P f args w R := callsIn_wide.2 h

/-- the marks of the ranges over functions that have been met -/
def mark (r : Nat) : Deferred := { target := .collected r, args := #[] }
def dfr (D : List Nat) : List Assn := D.map fun r => one r (.deferred (some []))
def Ctx.add (E : Ctx) (D : List Nat) : Ctx := ⟨E.w, dfr D ++ E.X⟩

/-- a deferred call that does nothing where no panic is under way -/
def Harmless (P : Program) (d : Deferred) : Prop := ∃ fv cap f args, d.target = .fn fv cap ∧ ∀ w, (invoke d.target d.args).run P w = .ok (.enter f args) w ∧ CallsD P f args .returning w fun e u w' => (∃ v, e = .returned v) ∧ u = .returning ∧ w' = w
/-- what is deferred: marks, and calls that do nothing -/
inductive Dfs (P : Program) : List Deferred → List Nat → Prop
  | nil : Dfs P [] []
  | mark {ds : List Deferred} {D : List Nat} (h : Dfs P ds D) (r : Nat) : Dfs P (mark r :: ds) (r :: D)
  | clo {d : Deferred} {ds : List Deferred} {D : List Nat} (hd : Harmless P d) (h : Dfs P ds D) : Dfs P (d :: ds) D
abbrev Post := Exit → Env → List Assn → Prop
def PQ (P : Program) (E : Ctx) (N : Nat) (Q : Post) : Exit → Act → World → Prop
  | .panic _, _, _ => False
  | .outgrown, _, _ => False
  | e, a, w => ∃ D env L, Dfs P a.defers D ∧ Fr N a env ∧ H (E.add D) w L ∧ Q e env L

def swp (P : Program) (ro : Option Nat) (c : Code) (Q : Post) (N : Nat) (env : Env) (L : List Assn) : Prop :=
  ∀ E D a w, Dfs P a.defers D → Fr N a env → H (E.add D) w L → c.wpIn (FW ro) 0 P (PQ P E N Q) a w

def SThen (k : Env → List Assn → Prop) (Q : Post) : Post
  | .normal, env, L => k env L
  | e, env, L => Q e env L
def SBlock (id : Nat) (Q : Post) : Post
  | .exit i, env, L => bif Nat.beq i id then Q .normal env L else Q (.exit i) env L
  | e, env, L => Q e env L

section
variable {P : Program} {ro : Option Nat} {Q : Post} {N : Nat} {env : Env} {L : List Assn}

theorem swp_ent {c : Code} {L' : List Assn} (h : Ent L L') (k : swp P ro c Q N env L') : swp P ro c Q N env L := fun E D a w hd hf hh => k E D a w hd hf (hh.ent h)
theorem swp_sub {c : Code} (env' : Env) (h : Sub env env') (k : swp P ro c Q N env' L) : swp P ro c Q N env L := fun E D a w hd hf hh => k E D a w hd (hf.less h.spec) hh
/-- a pure fact that the heap gives -/
theorem swp_fact {c : Code} {p : Prop} (h : ∀ m, Sat L m → p) (k : p → swp P ro c Q N env L) : swp P ro c Q N env L :=
  fun E D a w hd hf hh => k (h _ hh.sat) E D a w hd hf hh

theorem swp_seq {x y : Code} (h : swp P ro x (SThen (swp P ro y Q N) Q) N env L) : swp P ro (.seq x y) Q N env L := by
  intro E D a w hd hf hh
  refine wpIn_seq (wpIn_mono (h E D a w hd hf hh) fun e a' w' hq => ?_)
  cases e with
  | normal => obtain ⟨D', env', L', d', f', h', k⟩ := hq; exact k E D' a' w' d' f' h'
  | exit id => exact hq
  | goto l => exact hq
  | ret => exact hq
  | panic c => exact hq
  | outgrown => exact hq
theorem swp_skip (h : Q .normal env L) : swp P ro .skip Q N env L := fun _ D _ _ hd hf hh => wpIn_skip ⟨D, env, L, hd, hf, hh, h⟩
theorem swp_exit {id : Nat} (h : Q (.exit id) env L) : swp P ro (.exit id) Q N env L := fun _ D _ _ hd hf hh => wpIn_exit ⟨D, env, L, hd, hf, hh, h⟩
theorem swp_ret (h : Q .ret env L) : swp P ro .ret Q N env L := fun _ D _ _ hd hf hh => wpIn_ret ⟨D, env, L, hd, hf, hh, h⟩
theorem swp_block {id : Nat} {c : Code} (h : swp P ro c (SBlock id Q) N env L) : swp P ro (.block id c) Q N env L := by
  intro E D a w hd hf hh
  refine wpIn_block (wpIn_mono (h E D a w hd hf hh) fun e a' w' hq => ?_)
  cases e with
  | normal => exact hq
  | exit i =>
    obtain ⟨D', env', L', d', f', h', k⟩ := hq
    replace k : (bif Nat.beq i id then Q .normal env' L' else Q (.exit i) env' L') := k
    rcases beq_cases i id with ⟨hb, rfl⟩ | ⟨hb, hne⟩
    · rw [hb] at k; simp only [cond_true] at k
      simp only [Exit.inBlock, if_true]; exact ⟨D', env', L', d', f', h', k⟩
    · rw [hb] at k; simp only [cond_false] at k
      simp only [Exit.inBlock, if_neg hne]; exact ⟨D', env', L', d', f', h', k⟩
  | goto l => exact hq
  | ret => exact hq
  | panic c => exact hq
  | outgrown => exact hq
theorem swp_cond {c : Operand} {x y : Code} {b : Bool} (hc : evalE env c = some (.bool b)) (ht : b = true → swp P ro x Q N env L) (hn : b = false → swp P ro y Q N env L) : swp P ro (.cond c x y) Q N env L :=
  fun E D a w hd hf hh => wpIn_cond_split (hf.ev _ _ hc) (fun h => ht h E D a w hd hf hh) (fun h => hn h E D a w hd hf hh)

/-- a loop: I x: the slots, the heap and what is known at the head of a round, x whatever the round goes by -/
theorem swp_loop {ι : Type} {c : Code} (I : ι → Env → List Assn → Prop) (μ : ι → Nat) (x₀ : ι) (h₀ : I x₀ env L)
    (round : ∀ x env L, I x env L → swp P ro c (SThen (fun env' L' => ∃ x', I x' env' L' ∧ μ x' < μ x) Q) N env L) : swp P ro (.loop c) Q N env L := by
  intro E D a w hd hf hh b k cs hro hb hr
  have key : ∀ n x env L D a w, μ x = n → I x env L → Dfs P a.defers D → Fr N a env → H (E.add D) w L →
      ∃ e a' w', PQ P E N Q e a' w' ∧ ArrivesIn (Machine.fenced P (FW ro)) P (lone (b.atR a (.code c :: .inLoop c :: k)) cs w) b k cs e a' w' := by
    intro n
    induction n using Nat.strongRecOn with
    | _ n ih =>
      intro x env L D a w hn hI hd hf hh
      obtain ⟨e, a₁, w₁, hq, harr⟩ := round x env L hI E D a w hd hf hh b (.inLoop c :: k) cs hro hb hr
      cases e with
      | normal =>
        obtain ⟨D₁, env₁, L₁, d₁, f₁, h₁, x₁, hI₁, hlt⟩ := hq
        obtain ⟨e₂, a₂, w₂, hq₂, harr₂⟩ := ih (μ x₁) (hn ▸ hlt) x₁ env₁ L₁ D₁ a₁ w₁ rfl hI₁ d₁ f₁ h₁
        exact ⟨e₂, a₂, w₂, hq₂, .of_steps (StepsIn.trans harr (.one (fenced_calm hb hr rfl) stepR_inLoop)) harr₂⟩
      | exit id => exact ⟨.exit id, a₁, w₁, show PQ P E N Q (.exit id) a₁ w₁ from hq, .pass (x := .inLoop c) rfl (fun _ _ => .inl (by simp)) harr⟩
      | goto l => exact ⟨.goto l, a₁, w₁, show PQ P E N Q (.goto l) a₁ w₁ from hq, .pass (x := .inLoop c) rfl (fun _ _ => .inl (by simp)) harr⟩
      | ret => exact ⟨.ret, a₁, w₁, show PQ P E N Q (.ret) a₁ w₁ from hq, .pass (x := .inLoop c) rfl (fun _ _ => .inl (by simp)) harr⟩
      | panic ch => exact hq.elim
      | outgrown => exact hq.elim
  obtain ⟨e, a', w', hq, harr⟩ := key _ x₀ env L D a w rfl h₀ hd hf hh
  exact ⟨e, a', w', hq, .of_steps (.one (fenced_calm hb hr rfl) stepR_loop) harr⟩
end

section
variable {Q : Post} {k : Env → List Assn → Prop} {env : Env} {L : List Assn} {id i : Nat}
theorem then_n (h : k env L) : SThen k Q .normal env L := h
theorem then_x (h : Q (.exit i) env L) : SThen k Q (.exit i) env L := h
theorem then_r (h : Q .ret env L) : SThen k Q .ret env L := h
theorem block_n (h : Q .normal env L) : SBlock id Q .normal env L := h
theorem block_r (h : Q .ret env L) : SBlock id Q .ret env L := h
theorem block_hit (hi : Nat.beq i id = true) (h : Q .normal env L) : SBlock id Q (.exit i) env L := by
  show (bif Nat.beq i id then Q .normal env L else Q (.exit i) env L); rw [hi]; exact h
theorem block_miss (hi : Nat.beq i id = false) (h : Q (.exit i) env L) : SBlock id Q (.exit i) env L := by
  show (bif Nat.beq i id then Q .normal env L else Q (.exit i) env L); rw [hi]; exact h
theorem Sub.nil {env : Env} : Sub env [] := trivial
theorem Sub.cons {env env' : Env} {t : Nat} {v : Value} (h : look env t = some v) (h' : Sub env env') : Sub env ((t, v) :: env') := ⟨h, h'⟩
/-- one after the other, with what holds between the two laid down -/
theorem swp_cut {P : Program} {ro : Option Nat} {N : Nat} {x y : Code} (J : Env → List Assn → Prop) (h : swp P ro x (SThen J Q) N env L) (h' : ∀ env L, J env L → swp P ro y Q N env L) : swp P ro (.seq x y) Q N env L :=
  swp_seq fun E D a w hd hf hh => wpIn_mono (h E D a w hd hf hh) fun e a' w' hq => by
    cases e with
    | normal => obtain ⟨D', env', L', d', f', h1, k⟩ := hq; exact ⟨D', env', L', d', f', h1, h' env' L' k⟩
    | exit id => exact hq
    | goto l => exact hq
    | ret => exact hq
    | panic c => exact hq
    | outgrown => exact hq
end

/-! ## Operations -/
/-- the value hangs on no world -/
def Pu (P : Program) (env : Env) (op : Op) (v : Value) : Prop :=
  ∀ ρ, Ev ρ env → ∀ dst ty pos af g w, (execOp ρ ⟨dst, op, ty, pos, af, g⟩).run P w = .ok (.value v) w
/-- it only reads -/
def Rd (P : Program) (env : Env) (L : List Assn) (op : Op) (v : Value) : Prop :=
  ∀ ρ, Ev ρ env → ∀ dst ty pos af g E w, H E w L → (execOp ρ ⟨dst, op, ty, pos, af, g⟩).run P w = .ok (.value v) w
theorem Pu.rd {P : Program} {env : Env} {op : Op} {v : Value} (h : Pu P env op v) (L : List Assn) : Rd P env L op v := fun ρ hρ d t p f g _ w _ => h ρ hρ d t p f g w
/-- whatever it does: k holds of its value and of the heap behind it -/
def Ef (P : Program) (env : Env) (L : List Assn) (op : Op) (Φ : (Value → List Assn → Prop) → Prop) : Prop :=
  ∀ ro dst ty pos af g N E a w next Q k, Fr N a env → H E w L → Φ k → (∀ v w' L', k v L' → H E w' L' → next (a.put dst v) w') → Oper.wpIn (FW ro) 0 P ⟨dst, op, ty, pos, af, g⟩ a w next Q

theorem not_defer {P : Program} {ρ : Operand → Value} {o : Oper} {w w' : World} {x : Next} (hx : ∀ d, x ≠ .defer d) (h : (execOp ρ o).run P w = .ok x w') : ∀ c, o.op ≠ .defer c := by
  intro c hc
  unfold execOp at h
  rw [hc] at h
  simp only [Sem.run_bind] at h
  cases hr : (resolve ρ c o.type).run P w with
  | ok d w1 => rw [hr] at h; simp at h; exact hx d h.1.symm
  | halt e w1 => rw [hr] at h; simp [Result.andThen] at h
section
variable {P : Program} {ro : Option Nat} {o : Oper} {a : Act} {w w' : World} {next : Act → World → Prop} {Q : Exit → Act → World → Prop}
theorem wpIn_value {v : Value} (h : (execOp a.eval o).run P w = .ok (.value v) w') (k : next (a.put o.dst v) w') : Oper.wpIn (FW ro) 0 P o a w next Q := by
  refine ⟨fun _ _ => trivial, ?_⟩
  rw [Oper.semAt_eq _ _ _ (not_defer (by intro d hd; cases hd) h), h]; exact k
theorem wpIn_skip_op (h : (execOp a.eval o).run P w = .ok .skip w') (k : next (a.put o.dst undef) w') : Oper.wpIn (FW ro) 0 P o a w next Q := by
  refine ⟨fun _ _ => trivial, ?_⟩
  rw [Oper.semAt_eq _ _ _ (not_defer (by intro d hd; cases hd) h), h]; exact k
theorem wpIn_enter {f : FuncId} {args : Array Value} (h : (execOp a.eval o).run P w = .ok (.enter f args) w') (k : Calls P f args w' fun e w'' => ∃ v, e = .returned v ∧ next (a.put o.dst v) w'') : Oper.wpIn (FW ro) 0 P o a w next Q := by
  refine ⟨fun _ _ => trivial, ?_⟩
  rw [Oper.semAt_eq _ _ _ (not_defer (by intro d hd; cases hd) h), h]
  refine ⟨fun hd => (by cases hd), fw_calls (k.mono fun e w'' ⟨v, he, hn⟩ => ?_)⟩
  subst he; exact hn
end

theorem Rd.ef {P : Program} {env : Env} {L : List Assn} {op : Op} {v : Value} (h : Rd P env L op v) : Ef P env L op (fun k => k v L) := by
  intro ro dst ty pos af g N E a w next Q k hf hh hk hn
  exact wpIn_value (h _ hf.ev dst ty pos af g E w hh) (hn v w L hk hh)

/-! ### a region in the order of the text -/
def swl (P : Program) (ro : Option Nat) (ops : Array Oper) (Q : Post) (N : Nat) (l : List Oper) (env : Env) (L : List Assn) : Prop :=
  ∀ E D a w, Dfs P a.defers D → Fr N a env → H (E.add D) w L → wpListIn (FW ro) 0 P ops (PQ P E N Q) l a w

theorem put_defers (a : Act) (d : Option Tmp) (v : Value) : (a.put d v).defers = a.defers := by cases d <;> rfl
theorem Dfs.put {P : Program} {a : Act} {D : List Nat} (h : Dfs P a.defers D) (d : Option Tmp) (v : Value) : Dfs P (a.put d v).defers D := by rw [put_defers]; exact h

section
variable {P : Program} {ro : Option Nat} {ops : Array Oper} {Q : Post} {N : Nat} {env : Env} {L : List Assn} {rest : List Oper}

theorem swp_region {id : Nat} {l : List Oper} (h : swl P ro l.toArray Q N l env L) : swp P ro (.region id l.toArray false) Q N env L :=
  fun E D a w hd hf hh => wpIn_region_lit (h E D a w hd hf hh)
theorem swl_nil (h : Q .normal env L) : swl P ro ops Q N [] env L := fun _ D _ _ hd hf hh => wpListIn_nil ⟨D, env, L, hd, hf, hh, h⟩
theorem swl_ent {l : List Oper} {L' : List Assn} (h : Ent L L') (k : swl P ro ops Q N l env L') : swl P ro ops Q N l env L := fun E D a w hd hf hh => k E D a w hd hf (hh.ent h)
theorem swl_sub {l : List Oper} (env' : Env) (h : Sub env env') (k : swl P ro ops Q N l env' L) : swl P ro ops Q N l env L := fun E D a w hd hf hh => k E D a w hd (hf.less h.spec) hh
theorem swl_fact {l : List Oper} {p : Prop} (h : ∀ m, Sat L m → p) (k : p → swl P ro ops Q N l env L) : swl P ro ops Q N l env L :=
  fun E D a w hd hf hh => k (h _ hh.sat) E D a w hd hf hh

variable {d : Nat} {op : Op} {ty : TypeId} {pos : String} {af : Array Edge}
theorem s_ef {Φ : (Value → List Assn → Prop) → Prop} (h : Ef P env L op Φ) (hk : Φ (fun v L' => swl P ro ops Q N rest ((d, v) :: env) L')) (hd : Nat.blt d N = true := by rfl) :
    swl P ro ops Q N (⟨some d, op, ty, pos, af, none⟩ :: rest) env L :=
  fun E D a w hD hf hh => wpListIn_plain rfl fun K hK => h ro (some d) ty pos af none N _ a w K _ _ hf hh hk fun v w' _ hs h' => hK _ _ (hs E D _ w' (hD.put _ v) (hf.put hd v) h')
theorem s_ef0 {Φ : (Value → List Assn → Prop) → Prop} (h : Ef P env L op Φ) (hk : Φ (fun _ L' => swl P ro ops Q N rest env L')) :
    swl P ro ops Q N (⟨none, op, ty, pos, af, none⟩ :: rest) env L :=
  fun E D a w hD hf hh => wpListIn_plain rfl fun K hK => h ro none ty pos af none N _ a w K _ _ hf hh hk fun v w' _ hs h' => hK _ _ (hs E D _ w' hD (hf.put0 v) h')
theorem s_rd {v : Value} (h : Rd P env L op v) (k : swl P ro ops Q N rest ((d, v) :: env) L) (hd : Nat.blt d N = true := by rfl) :
    swl P ro ops Q N (⟨some d, op, ty, pos, af, none⟩ :: rest) env L := s_ef h.ef k hd
theorem s_pu {v : Value} (h : Pu P env op v) (k : swl P ro ops Q N rest ((d, v) :: env) L) (hd : Nat.blt d N = true := by rfl) :
    swl P ro ops Q N (⟨some d, op, ty, pos, af, none⟩ :: rest) env L := s_ef (h.rd L).ef k hd

/-- which slot a guard looks at -/
def gslot (ops : Array Oper) (g : Nat) : Option Nat := (ops[g]?).bind (·.dst)
theorem yielded_of {a : Act} {g t : Nat} {b : Bool} (hf : Fr N a env) (hg : gslot ops g = some t) (hb : look env t = some (.bool b)) : yielded ops a.tmps g = some b := by
  have := hf.2 t _ hb
  unfold gslot at hg
  simp [yielded, hg, this]
theorem wpListIn_skip' {o : Oper} {a : Act} {w : World} {Q : Exit → Act → World → Prop} (hw : Region.wanted o (yielded ops a.tmps) = false) (h : wpListIn (FW ro) 0 P ops Q rest (a.put o.dst undef) w) : wpListIn (FW ro) 0 P ops Q (o :: rest) a w := by
  simp only [wpListIn, hw]
  exact ⟨fun _ _ => trivial, h⟩
theorem s_on {dst : Option Nat} {g t : Nat} {want : Bool} (hg : gslot ops g = some t) (hb : look env t = some (.bool want))
    (k : swl P ro ops Q N (⟨dst, op, ty, pos, af, none⟩ :: rest) env L) : swl P ro ops Q N (⟨dst, op, ty, pos, af, some (g, want)⟩ :: rest) env L := by
  intro E D a w hD hf hh
  have h := k E D a w hD hf hh
  have hy := yielded_of hf hg hb
  have e1 : Region.wanted ⟨dst, op, ty, pos, af, some (g, want)⟩ (yielded ops a.tmps) = true := by simp [Region.wanted, hy]
  have e2 : Region.wanted ⟨dst, op, ty, pos, af, none⟩ (yielded ops a.tmps) = true := by simp [Region.wanted]
  unfold wpListIn at h ⊢
  rw [if_pos e2] at h
  rw [if_pos e1]
  exact h
theorem not_wanted {a : Act} {dst : Option Nat} {g t : Nat} {want : Bool} {u : Value} (hf : Fr N a env) (hg : gslot ops g = some t) (hu : look env t = some u) (hne : (match u with | .bool b => b != want | _ => true) = true) :
    Region.wanted ⟨dst, op, ty, pos, af, some (g, want)⟩ (yielded ops a.tmps) = false := by
  have := hf.2 t _ hu
  unfold gslot at hg
  cases u <;> simp_all [Region.wanted, yielded]
theorem s_off {g t : Nat} {want : Bool} {u : Value} (hg : gslot ops g = some t) (hb : look env t = some u) (hne : (match u with | .bool b => b != want | _ => true) = true)
    (k : swl P ro ops Q N rest ((d, undef) :: env) L) (hd : Nat.blt d N = true := by rfl) : swl P ro ops Q N (⟨some d, op, ty, pos, af, some (g, want)⟩ :: rest) env L :=
  fun E D _ w hD hf hh => wpListIn_skip' (not_wanted hf hg hb hne) (k E D _ w (hD.put _ undef) (hf.put hd undef) hh)
theorem Fr.bool {a : Act} {t : Nat} {b : Bool} {u : Value} (hf : Fr N a env) (hb : look env t = some (.bool b)) (hu : (.bool b : Value) = u) : Fr N a ((t, u) :: env) := ⟨hf.1, fun s x hx => by
    unfold look at hx
    rcases beq_cases t s with ⟨he, rfl⟩ | ⟨he, _⟩
    · rw [he] at hx; simp only [cond_true, Option.some.injEq] at hx; subst hx; rw [hf.2 _ _ hb, hu]
    · rw [he] at hx; exact hf.2 s x hx⟩
/-- a Bool in a slot is one of the two -/
theorem s_split {l : List Oper} (t : Nat) {b : Bool} (hb : look env t = some (.bool b)) (h1 : b = true → swl P ro ops Q N l ((t, .bool true) :: env) L) (h2 : b = false → swl P ro ops Q N l ((t, .bool false) :: env) L) :
    swl P ro ops Q N l env L := by
  intro E D a w hD hf hh
  cases b with
  | true => exact h1 rfl E D a w hD (hf.bool hb rfl) hh
  | false => exact h2 rfl E D a w hD (hf.bool hb rfl) hh
end

/-! ## Calls -/
def Spec (P : Program) (f : FuncId) (args : List Value) (pre : List Assn) (post : Value → List Assn → Prop) : Prop :=
  ∀ E w, H E w pre → Calls P f args.toArray w fun e w' => ∃ v L', e = .returned v ∧ post v L' ∧ H E w' L'

theorem Spec.mono {P : Program} {f : FuncId} {args : List Value} {pre : List Assn} {post post' : Value → List Assn → Prop} (h : Spec P f args pre post) (hh : ∀ v L, post v L → post' v L) : Spec P f args pre post' :=
  fun E w hw => (h E w hw).mono fun _ _ ⟨v, L', e, p, k⟩ => ⟨v, L', e, hh _ _ p, k⟩
theorem Spec.pre {P : Program} {f : FuncId} {args : List Value} {pre pre' : List Assn} {post : Value → List Assn → Prop} (h : Spec P f args pre post) (hh : Ent pre' pre) : Spec P f args pre' post :=
  fun E w hw => h E w (hw.ent hh)
theorem Spec.frame {P : Program} {f : FuncId} {args : List Value} {pre : List Assn} {post : Value → List Assn → Prop} (h : Spec P f args pre post) {E : Ctx} {w : World} {R : List Assn} (hw : H E w (pre ++ R)) :
    Calls P f args.toArray w fun e w' => ∃ v L', e = .returned v ∧ post v L' ∧ H E w' (L' ++ R) :=
  (h _ w hw.hide).mono fun _ _ ⟨v, L', e, p, k⟩ => ⟨v, L', e, p, k.show_⟩

/-- the slots that the parameters fill -/
def envOf : Nat → List Value → Env
  | _, [] => []
  | k, v :: vs => (k, v) :: envOf (k + 1) vs

theorem look_envOf : ∀ (k : Nat) (vs : List Value) (t : Nat) (v : Value), look (envOf k vs) t = some v → k ≤ t ∧ vs[t - k]? = some v
  | _, [], _, _, h => by cases h
  | k, u :: vs, t, v, h => by
    unfold envOf look at h
    rcases beq_cases k t with ⟨hb, rfl⟩ | ⟨hb, hne⟩
    · rw [hb] at h; simp only [cond_true, Option.some.injEq] at h; subst h; exact ⟨Nat.le_refl _, by simp⟩
    · rw [hb] at h
      have ⟨h1, h2⟩ := look_envOf (k + 1) vs t v h
      refine ⟨by omega, ?_⟩
      rw [show t - k = (t - (k + 1)) + 1 by omega]
      simpa using h2
end SX
namespace SX
open Go

/-! ## What is asked of the types -/
def aggD : TypeDesc → Bool | .struct _ | .array _ _ => true | _ => false
/-- a type of one cell -/
class TOne (P : Program) (t : TypeId) : Prop where
  und : (P.underlying t).map aggD = some false
  inf : (P.info? t).map (·.size) = some 1
/-- a struct or an array of n cells -/
class TAgg (P : Program) (t : TypeId) (n : outParam Nat) : Prop where
  und : (P.underlying t).map aggD = some true
  inf : (P.info? t).map (·.size) = some n
def fldB (P : Program) (t : TypeId) (i off : Nat) : Bool :=
  match P.underlying t with
  | some (.struct fs) => match fs[i]? with
    | some f => f.offset == off && ((P.info? f.type).map (·.size != 0)).getD false
    | none => false
  | _ => false
/-- field i of a struct lies at off -/
class TFld (P : Program) (t : TypeId) (i : Nat) (off : outParam Nat) : Prop where
  okB : fldB P t i off = true
theorem TFld.ok {P : Program} {t i off : Nat} (h : TFld P t i off) : ∃ fs f j, P.underlying t = some (.struct fs) ∧ fs[i]? = some f ∧ f.offset = off ∧ P.info? f.type = some j ∧ j.size ≠ 0 := by
  have h := h.okB
  unfold fldB at h
  split at h
  · rename_i fs hu
    split at h
    · rename_i f hf
      simp only [Bool.and_eq_true, beq_iff_eq] at h
      cases hj : P.info? f.type with
      | none => simp [hj] at h
      | some j => simp [hj] at h; exact ⟨fs, f, j, hu, hf, h.1, hj, h.2⟩
    · cases h
  · cases h
def partB (P : Program) (t : TypeId) (i off n : Nat) (agg : Bool) : Bool :=
  match P.underlying t with
  | some (.struct fs) => match fs[i]? with
    | some f => f.offset == off && (P.underlying f.type).map aggD == some agg && (P.info? f.type).map (·.size) == some n
    | none => false
  | _ => false
/-- field i of a struct lies at off and has n cells; agg: is it an aggregate? -/
class TPart (P : Program) (t : TypeId) (i : Nat) (off : outParam Nat) (n : outParam Nat) (agg : outParam Bool) : Prop where
  okB : partB P t i off n agg = true
theorem TPart.ok {P : Program} {t i off n : Nat} {agg : Bool} (h : TPart P t i off n agg) : ∃ fs f, P.underlying t = some (.struct fs) ∧ fs[i]? = some f ∧ f.offset = off ∧ (P.underlying f.type).map aggD = some agg ∧ (P.info? f.type).map (·.size) = some n := by
  have h := h.okB
  unfold partB at h
  split at h
  · rename_i fs hu
    split at h
    · rename_i f hf
      simp only [Bool.and_eq_true, beq_iff_eq] at h
      exact ⟨fs, f, hu, hf, h.1.1, h.1.2, h.2⟩
    · cases h
  · cases h
/-- a zero value's cells -/
class TZero (P : Program) (t : TypeId) (zs : outParam (List Value)) : Prop where
  okB : ((P.info? t).bind (·.zero)).map Value.cells = some zs.toArray
theorem TZero.ok {P : Program} {t : TypeId} {zs : List Value} (h : TZero P t zs) : ∃ i z, P.info? t = some i ∧ i.zero = some z ∧ z.cells = zs.toArray := by
  have h := h.okB
  cases hi : P.info? t with
  | none => simp [hi] at h
  | some i =>
    cases hz : i.zero with
    | none => simp [hi, hz] at h
    | some z => simp [hi, hz] at h; exact ⟨i, z, rfl, hz, h⟩
/-- a slice's element: its type, its cells, its bytes -/
class TSl (P : Program) (t : TypeId) (e : outParam TypeId) (n : outParam Nat) (by_ : outParam Nat) : Prop where
  und : P.underlying t = some (.slice e)
  inf : (P.info? e).map (fun i => (i.size, i.bytes)) = some (n, by_)
theorem TSl.ok {P : Program} {t e n by_ : Nat} (h : TSl P t e n by_) : ∃ i, P.underlying t = some (.slice e) ∧ P.info? e = some i ∧ i.size = n ∧ i.bytes = by_ := by
  have h1 := h.inf
  cases hi : P.info? e with
  | none => simp [hi] at h1
  | some i => simp [hi] at h1; exact ⟨i, h.und, rfl, h1.1, h1.2⟩
class TPtr (P : Program) (t : TypeId) : Prop where
  ok : ∃ e, P.underlying t = some (.pointer e)
class TFn (P : Program) (t : TypeId) : Prop where
  ok : ∃ a b c, P.underlying t = some (.func a b c)
class TConc (P : Program) (t : TypeId) : Prop where
  ok : ∃ d, P.underlying t = some d ∧ (match d with | .interface _ => false | _ => true) = true

/-! ## Which block -/
class InB (b : Nat) (L : List Assn) (t : outParam TypeId) (cs : outParam (List Value)) : Prop where
  ok : ∃ L', Take (blk b t cs) L L'
instance InB.here {b t : Nat} {cs : List Value} {L : List Assn} : InB b (blk b t cs :: L) t cs := ⟨_, .here⟩
instance (priority := low) InB.there {b t : Nat} {cs : List Value} {A : Assn} {L : List Assn} [h : InB b L t cs] : InB b (A :: L) t cs := ⟨_, .there h.ok.choose_spec⟩
class SetB (b : Nat) (L : List Assn) (t : outParam TypeId) (cs : outParam (List Value)) (F : outParam (List Value → List Assn)) : Prop where
  ok : ∀ cs', Put (blk b t cs) (blk b t cs') L (F cs')
instance SetB.here {b t : Nat} {cs : List Value} {L : List Assn} : SetB b (blk b t cs :: L) t cs (fun cs' => blk b t cs' :: L) := ⟨fun _ => .here⟩
instance (priority := low) SetB.there {b t : Nat} {cs : List Value} {A : Assn} {L : List Assn} {F : List Value → List Assn} [h : SetB b L t cs F] : SetB b (A :: L) t cs (fun cs' => A :: F cs') := ⟨fun cs' => .there (h.ok cs')⟩
theorem SetB.inB {b t : Nat} {cs : List Value} {L : List Assn} {F : List Value → List Assn} (h : SetB b L t cs F) {E : Ctx} {w : World} (hh : H E w L) : w.heap[b]? = some (.cells cs.toArray t (0, 0)) := by
  obtain ⟨R, p, _⟩ := (h.ok cs).spec
  exact (hh.ent (Ent.perm p)).one_get .here

/-! ## Slots alone -/
section
variable {P : Program} {env : Env}
theorem pu_move {x : Operand} {v : Value} (hx : evalE env x = some v) : Pu P env (.move x) v := fun ρ hρ _ _ _ _ _ w => by
  show Result.ok (Next.value (ρ x)) w = _; rw [hρ x v hx]
theorem pu_assign {x : Operand} {v : Value} (hx : evalE env x = some v) : Pu P env (.assign x) v := fun ρ hρ _ _ _ _ _ w => by
  show Result.ok (Next.value (ρ x)) w = _; rw [hρ x v hx]
theorem pu_pick_t {c x y : Operand} {v : Value} (hc : evalE env c = some (.bool true)) (hx : evalE env x = some v) : Pu P env (.pick c x y) v := fun ρ hρ _ _ _ _ _ w => by
  simp [execOp, hρ c _ hc, asBool, hρ x v hx]
theorem pu_pick_f {c x y : Operand} {v : Value} (hc : evalE env c = some (.bool false)) (hy : evalE env y = some v) : Pu P env (.pick c x y) v := fun ρ hρ _ _ _ _ _ w => by
  simp [execOp, hρ c _ hc, asBool, hρ y v hy]
theorem pu_nilCheck {x : Operand} {a : Addr} (hx : evalE env x = some (.pointer (some a))) : Pu P env (.nilCheck x) (.pointer (some a)) := fun ρ hρ _ _ _ _ _ w => by
  simp [execOp, hρ x _ hx]
theorem pu_nilCheck_fn {x : Operand} {f : FuncId} {fi ca : Array Value} (hx : evalE env x = some (.func (.func f) fi ca)) : Pu P env (.nilCheck x) (.func (.func f) fi ca) := fun ρ hρ _ _ _ _ _ w => by
  simp [execOp, hρ x _ hx]
theorem pu_nilCheck_if {x : Operand} {t : TypeId} {v : Value} (hx : evalE env x = some (.iface t v)) : Pu P env (.nilCheck x) (.iface t v) := fun ρ hρ _ _ _ _ _ w => by
  simp [execOp, hρ x _ hx]
theorem pu_not {t : TypeId} {x : Operand} {b : Bool} (hx : evalE env x = some (.bool b)) : Pu P env (.unOp .not t x) (.bool (!b)) := fun ρ hρ _ _ _ _ _ w => by
  simp [execOp, hρ x _ hx, Op.unary]
theorem pu_add {k : IntKind} {t u : TypeId} {x y : Operand} {a b : Int} (hx : evalE env x = some (.int k a)) (hy : evalE env y = some (.int k b)) : Pu P env (.binOp .add t x y u) (.int k (k.wrap (a + b))) := fun ρ hρ _ _ _ _ _ w => by
  simp [execOp, hρ x _ hx, hρ y _ hy, eqGuard, binOp, Op.intArith]
theorem pu_sub {k : IntKind} {t u : TypeId} {x y : Operand} {a b : Int} (hx : evalE env x = some (.int k a)) (hy : evalE env y = some (.int k b)) : Pu P env (.binOp .sub t x y u) (.int k (k.wrap (a - b))) := fun ρ hρ _ _ _ _ _ w => by
  simp [execOp, hρ x _ hx, hρ y _ hy, eqGuard, binOp, Op.intArith]
theorem pu_mul {k : IntKind} {t u : TypeId} {x y : Operand} {a b : Int} (hx : evalE env x = some (.int k a)) (hy : evalE env y = some (.int k b)) : Pu P env (.binOp .mul t x y u) (.int k (k.wrap (a * b))) := fun ρ hρ _ _ _ _ _ w => by
  simp [execOp, hρ x _ hx, hρ y _ hy, eqGuard, binOp, Op.intArith]
theorem pu_lss {k : IntKind} {t u : TypeId} {x y : Operand} {a b : Int} (hx : evalE env x = some (.int k a)) (hy : evalE env y = some (.int k b)) : Pu P env (.binOp .lss t x y u) (.bool (decide (a < b))) := fun ρ hρ _ _ _ _ _ w => by
  simp [execOp, hρ x _ hx, hρ y _ hy, eqGuard, binOp, Op.intCmp]
theorem pu_leq {k : IntKind} {t u : TypeId} {x y : Operand} {a b : Int} (hx : evalE env x = some (.int k a)) (hy : evalE env y = some (.int k b)) : Pu P env (.binOp .leq t x y u) (.bool (decide (a ≤ b))) := fun ρ hρ _ _ _ _ _ w => by
  simp [execOp, hρ x _ hx, hρ y _ hy, eqGuard, binOp, Op.intCmp]
theorem pu_gtr {k : IntKind} {t u : TypeId} {x y : Operand} {a b : Int} (hx : evalE env x = some (.int k a)) (hy : evalE env y = some (.int k b)) : Pu P env (.binOp .gtr t x y u) (.bool (decide (b < a))) := fun ρ hρ _ _ _ _ _ w => by
  simp [execOp, hρ x _ hx, hρ y _ hy, eqGuard, binOp, Op.intCmp]
theorem pu_geq {k : IntKind} {t u : TypeId} {x y : Operand} {a b : Int} (hx : evalE env x = some (.int k a)) (hy : evalE env y = some (.int k b)) : Pu P env (.binOp .geq t x y u) (.bool (decide (b ≤ a))) := fun ρ hρ _ _ _ _ _ w => by
  simp [execOp, hρ x _ hx, hρ y _ hy, eqGuard, binOp, Op.intCmp]
theorem beq_eq_decide' (a b : Int) : (a == b) = decide (a = b) := by by_cases h : a = b <;> simp [h]
theorem pu_eql {k : IntKind} {t u : TypeId} {x y : Operand} {a b : Int} (hx : evalE env x = some (.int k a)) (hy : evalE env y = some (.int k b)) : Pu P env (.binOp .eql t x y u) (.bool (decide (a = b))) := fun ρ hρ _ _ _ _ _ w => by
  simp [execOp, hρ x _ hx, hρ y _ hy, eqGuard, binOp, Op.intCmp]; exact beq_eq_decide' a b
theorem pu_neq {k : IntKind} {t u : TypeId} {x y : Operand} {a b : Int} (hx : evalE env x = some (.int k a)) (hy : evalE env y = some (.int k b)) : Pu P env (.binOp .neq t x y u) (.bool (!decide (a = b))) := fun ρ hρ _ _ _ _ _ w => by
  simp [execOp, hρ x _ hx, hρ y _ hy, eqGuard, binOp, Op.intCmp]; exact congrArg (!·) (beq_eq_decide' a b)
/-- the wrap of a sum that fits -/
theorem wrap_i64 {n : Int} (h1 : -9223372036854775808 ≤ n) (h2 : n ≤ 9223372036854775807) : IntKind.i64.wrap n = n := IntWalk.i64_in n ⟨h1, h2⟩
theorem pu_add_in {t u : TypeId} {x y : Operand} {a b : Int} (hx : evalE env x = some (.int .i64 a)) (hy : evalE env y = some (.int .i64 b)) (h1 : -9223372036854775808 ≤ a + b) (h2 : a + b ≤ 9223372036854775807) : Pu P env (.binOp .add t x y u) (.int .i64 (a + b)) := by
  have := pu_add (P := P) (t := t) (u := u) hx hy; rwa [wrap_i64 h1 h2] at this
theorem pu_sub_in {t u : TypeId} {x y : Operand} {a b : Int} (hx : evalE env x = some (.int .i64 a)) (hy : evalE env y = some (.int .i64 b)) (h1 : -9223372036854775808 ≤ a - b) (h2 : a - b ≤ 9223372036854775807) : Pu P env (.binOp .sub t x y u) (.int .i64 (a - b)) := by
  have := pu_sub (P := P) (t := t) (u := u) hx hy; rwa [wrap_i64 h1 h2] at this
theorem pu_mul_in {t u : TypeId} {x y : Operand} {a b : Int} (hx : evalE env x = some (.int .i64 a)) (hy : evalE env y = some (.int .i64 b)) (h1 : -9223372036854775808 ≤ a * b) (h2 : a * b ≤ 9223372036854775807) : Pu P env (.binOp .mul t x y u) (.int .i64 (a * b)) := by
  have := pu_mul (P := P) (t := t) (u := u) hx hy; rwa [wrap_i64 h1 h2] at this
/-- a sum with its value given another spelling -/
theorem pu_add_as {t u : TypeId} {x y : Operand} {a b : Int} (c : Int) (hx : evalE env x = some (.int .i64 a)) (hy : evalE env y = some (.int .i64 b)) (hc : a + b = c) (h1 : -9223372036854775808 ≤ c) (h2 : c ≤ 9223372036854775807) : Pu P env (.binOp .add t x y u) (.int .i64 c) := by
  subst hc; exact pu_add_in hx hy h1 h2
theorem pu_sub_as {t u : TypeId} {x y : Operand} {a b : Int} (c : Int) (hx : evalE env x = some (.int .i64 a)) (hy : evalE env y = some (.int .i64 b)) (hc : a - b = c) (h1 : -9223372036854775808 ≤ c) (h2 : c ≤ 9223372036854775807) : Pu P env (.binOp .sub t x y u) (.int .i64 c) := by
  subst hc; exact pu_sub_in hx hy h1 h2
theorem pu_mul_as {t u : TypeId} {x y : Operand} {a b : Int} (c : Int) (hx : evalE env x = some (.int .i64 a)) (hy : evalE env y = some (.int .i64 b)) (hc : a * b = c) (h1 : -9223372036854775808 ≤ c) (h2 : c ≤ 9223372036854775807) : Pu P env (.binOp .mul t x y u) (.int .i64 c) := by
  subst hc; exact pu_mul_in hx hy h1 h2
theorem pu_eq_of {t u : TypeId} {x y : Operand} {vx vy : Value} {b : Bool} (hx : evalE env x = some vx) (hy : evalE env y = some vy) (hg : ∀ op X Y w, (eqGuard op t X Y vx vy).run P w = .ok () w)
    (hb : binOp .eql t vx vy = (do pure (.bool (← Op.equal t vx vy)))) (he : ∀ d w, (Op.equalIn (d + 1) t vx vy).run P w = .ok b w) : Pu P env (.binOp .eql t x y u) (.bool b) := fun ρ hρ _ _ _ _ _ w => by
  have h1 : (Op.equal t vx vy).run P w = .ok b w := he 9999 w
  simp only [execOp, hρ x _ hx, hρ y _ hy, Sem.run_bind, hg, Result.andThen_ok, hb, h1, Sem.run_pure]
theorem pu_ne_of {t u : TypeId} {x y : Operand} {vx vy : Value} {b : Bool} (hx : evalE env x = some vx) (hy : evalE env y = some vy) (hg : ∀ op X Y w, (eqGuard op t X Y vx vy).run P w = .ok () w)
    (hb : binOp .neq t vx vy = (do pure (.bool (!(← Op.equal t vx vy))))) (he : ∀ d w, (Op.equalIn (d + 1) t vx vy).run P w = .ok b w) : Pu P env (.binOp .neq t x y u) (.bool (!b)) := fun ρ hρ _ _ _ _ _ w => by
  have h1 : (Op.equal t vx vy).run P w = .ok b w := he 9999 w
  simp only [execOp, hρ x _ hx, hρ y _ hy, Sem.run_bind, hg, Result.andThen_ok, hb, h1, Sem.run_pure]
theorem eqGuard_ptr {P : Program} {t : TypeId} {a : Option Addr} {v : Value} : ∀ op X Y w, (eqGuard op t X Y (.pointer a) v).run P w = .ok () w := fun op X Y w => by
  cases op <;> rfl
theorem eqGuard_sl {P : Program} {t : TypeId} {a : Option Addr} {l c : Nat} {v : Value} : ∀ op X Y w, (eqGuard op t X Y (.slice a l c) v).run P w = .ok () w := fun op X Y w => by
  cases op <;> rfl
theorem pu_ptr_eq_nil {t u : TypeId} [h : TPtr P t] {x y : Operand} {a : Option Addr} (hx : evalE env x = some (.pointer a)) (hy : evalE env y = some (.pointer none)) : Pu P env (.binOp .eql t x y u) (.bool a.isNone) := by
  obtain ⟨e, he⟩ := h.ok
  exact pu_eq_of hx hy eqGuard_ptr rfl (fun d w => by cases a <;> simp [Op.equalIn, run_underlying he])
theorem pu_ptr_ne_nil {t u : TypeId} [h : TPtr P t] {x y : Operand} {a : Option Addr} (hx : evalE env x = some (.pointer a)) (hy : evalE env y = some (.pointer none)) : Pu P env (.binOp .neq t x y u) (.bool (!a.isNone)) := by
  obtain ⟨e, he⟩ := h.ok
  exact pu_ne_of hx hy eqGuard_ptr rfl (fun d w => by cases a <;> simp [Op.equalIn, run_underlying he])
theorem pu_sl_eq_nil {t u : TypeId} {e n b : Nat} [h : TSl P t e n b] {x y : Operand} {a : Option Addr} {l c l' c' : Nat} (hx : evalE env x = some (.slice a l c)) (hy : evalE env y = some (.slice none l' c')) : Pu P env (.binOp .eql t x y u) (.bool a.isNone) := by
  obtain ⟨i, he, _⟩ := h.ok
  exact pu_eq_of hx hy eqGuard_sl rfl (fun d w => by cases a <;> simp [Op.equalIn, run_underlying he])
theorem pu_iface {t : TypeId} [h : TConc P t] {x : Operand} {v : Value} (hx : evalE env x = some v) : Pu P env (.makeInterface t x) (.iface t v) := fun ρ hρ _ _ _ _ _ w => by
  obtain ⟨d, he, hd⟩ := h.ok
  cases d <;> simp_all [execOp, hρ x _ hx, Instr.makeInterface, run_underlying he]
theorem pu_func {fn : Fn} {fi ca : Array Operand} {vs us : List Value} (h1 : fi.toList.map (evalE env) = vs.map some) (h2 : ca.toList.map (evalE env) = us.map some) : Pu P env (.makeFunc fn fi ca) (.func fn vs.toArray us.toArray) := fun ρ hρ _ _ _ _ _ w => by
  have key : ∀ (xs : List Operand) (args : List Value), xs.map (evalE env) = args.map some → xs.map ρ = args := by
    intro xs
    induction xs with
    | nil => intro args h; cases args <;> simp_all
    | cons x xs ih =>
      intro args h
      cases args with
      | nil => simp at h
      | cons v vs =>
        simp only [List.map_cons, List.cons.injEq] at h
        rw [List.map_cons, hρ _ _ h.1, ih vs h.2]
  have e1 : fi.map ρ = vs.toArray := by apply Array.ext'; rw [Array.toList_map]; simpa using key _ _ h1
  have e2 : ca.map ρ = us.toArray := by apply Array.ext'; rw [Array.toList_map]; simpa using key _ _ h2
  simp [execOp, Instr.makeFunc, e1, e2]
theorem addr_add (b o n : Nat) : (⟨b, o, none⟩ : Addr).add n = ⟨b, o + n, none⟩ := by unfold Addr.add; split <;> simp_all
theorem pu_fieldAddr {t i off b o : Nat} [h : TFld P t i off] {x : Operand} (hx : evalE env x = some (.pointer (some ⟨b, o, none⟩))) : Pu P env (.fieldAddr t x i) (.pointer (some ⟨b, o + off, none⟩)) := fun ρ hρ _ _ _ _ _ w => by
  obtain ⟨fs, f, j, h1, h2, h3, h4, h5⟩ := h.ok
  simp [execOp, hρ x _ hx, Instr.fieldAt, run_underlying h1, h2, Instr.sureAddr, fieldPlace, Go.sizeOf, typeInfo, h4, h5, addr_add, h3]
/-- at a block's head -/
theorem pu_fieldAddr0 {t i off b : Nat} [h : TFld P t i off] {x : Operand} (hx : evalE env x = some (.pointer (some ⟨b, 0, none⟩))) : Pu P env (.fieldAddr t x i) (.pointer (some ⟨b, off, none⟩)) := by
  have := pu_fieldAddr (P := P) (t := t) (i := i) hx; rwa [Nat.zero_add] at this
theorem pu_extract {x : Operand} {vs : Array Value} {i : Nat} {v : Value} (hx : evalE env x = some (.tuple vs)) (hv : vs[i]? = some v) : Pu P env (.extract x i) v := fun ρ hρ _ _ _ _ _ w => by
  simp [execOp, hρ x _ hx, Instr.extract, hv]
theorem pu_len {t : TypeId} {e n b : Nat} [h : TSl P t e n b] {x : Operand} {a : Option Addr} {l c : Nat} (hx : evalE env x = some (.slice a l c)) : Pu P env (.call { callee := .builtin .len, args := #[x], argTypes := #[t] }) (.int .i64 l) := fun ρ hρ _ _ _ _ _ w => by
  obtain ⟨i, he, _⟩ := h.ok
  simp [execOp, resolve, invoke, builtin, hρ x _ hx, Builtin.len_, run_underlying he, goInt]
/-- the address of an element: j the index, k where it lies -/
theorem pu_indexAddr {t : TypeId} {e n by_ : Nat} [h : TSl P t e n by_] {x y : Operand} {b o l c : Nat} {ki : IntKind} {i : Int} (k : Nat) (hx : evalE env x = some (.slice (some ⟨b, o, none⟩) l c)) (hy : evalE env y = some (.int ki i)) (h0 : 0 ≤ i) (hl : i < l) (hk : o + i.toNat * n = k) :
    Pu P env (.indexAddr t x y) (.pointer (some ⟨b, k, none⟩)) := fun ρ hρ _ _ _ _ _ w => by
  obtain ⟨j, he, hj, hn, _⟩ := h.ok
  simp [execOp, hρ x _ hx, hρ y _ hy, Instr.indexAt, asIntOf, run_underlying he, h0, hl, Go.sizeOf, typeInfo, hj, hn, addr_add, hk]
theorem pu_slice_hi {t e n by_ : Nat} [h : TSl P t e n by_] {x y : Operand} {A : Option Addr} {l c : Nat} {ki : IntKind} {hi : Int} (k : Nat) (hx : evalE env x = some (.slice A l c)) (hy : evalE env y = some (.int ki hi)) (hk : hi = (k : Int)) (hc : k ≤ c) :
    Pu P env (.slice t x none (some y) none) (.slice A k c) := fun ρ hρ _ _ _ _ _ w => by
  obtain ⟨j, he, hj, hn, _⟩ := h.ok
  have h0 : (0 : Int) ≤ (k : Int) ∧ (k : Int) ≤ (c : Int) := ⟨by omega, by omega⟩
  cases A with
  | none => (simp [execOp, hρ x _ hx, hρ y _ hy, hk, Instr.sliceAt, run_underlying he, Instr.slice, Instr.sliceBounds, Instr.sliceBound, asIntOf, h0, Go.sizeOf, typeInfo, hj]; try (intro hlt; omega))
  | some A => (simp [execOp, hρ x _ hx, hρ y _ hy, hk, Instr.sliceAt, run_underlying he, Instr.slice, Instr.sliceBounds, Instr.sliceBound, asIntOf, h0, Go.sizeOf, typeInfo, hj, Addr.add]; try (intro hlt; omega))
end
end SX
namespace SX
open Go

theorem run_isAgg {P : Program} {t : TypeId} {x : Bool} (h : (P.underlying t).map aggD = some x) (w : World) : (isAgg t).run P w = .ok x w := by
  cases hd : P.underlying t with
  | none => simp [hd] at h
  | some d =>
    simp [hd] at h
    subst h
    unfold isAgg
    rw [Sem.run_bind, run_underlying hd w]
    cases d <;> rfl
theorem run_sizeOf {P : Program} {t : TypeId} {n : Nat} (h : (P.info? t).map (·.size) = some n) (w : World) : (Go.sizeOf t).run P w = .ok n w := by
  cases hi : P.info? t with
  | none => simp [hi] at h
  | some i => simp [hi] at h; simp [Go.sizeOf, typeInfo, hi, h]

section
variable {P : Program} {env : Env} {L : List Assn}

/-- what a variable's load gives -/
def Ld (P : Program) (L : List Assn) (t : TypeId) (ad : Addr) (v : Value) : Prop := ∀ E w, H E w L → (loadVar t ad).run P w = .ok v w
theorem rd_of_ld {t : TypeId} {x : Operand} {ad : Addr} {v : Value} (hx : evalE env x = some (.pointer (some ad))) (h : Ld P L t ad v) : Rd P env L (.load t x) v := by
  intro ρ hρ dst tt pos af g E w hh
  simp [execOp, hρ x _ hx, Instr.loadAt, Instr.sureAddr, h E w hh]
theorem ld_one {t : TypeId} [ht : TOne P t] {b i ty : Nat} {cs : List Value} {v : Value} [hb : InB b L ty cs] (hv : cs[i]? = some v) : Ld P L t ⟨b, i, none⟩ v := by
  intro E w hh
  obtain ⟨L', tk⟩ := hb.ok
  have hc := hh.cell tk i
  rw [hv] at hc
  have ha := run_isAgg ht.und w
  simp [loadVar, ha, hc]

/-- a load of one cell out of a block that is known whole -/
theorem rd_load {t : TypeId} [ht : TOne P t] {x : Operand} {b i ty : Nat} {cs : List Value} {v : Value} (hx : evalE env x = some (.pointer (some ⟨b, i, none⟩))) [hb : InB b L ty cs] (hv : cs[i]? = some v) : Rd P env L (.load t x) v := by
  exact rd_of_ld hx (ld_one hv)

theorem run_loadRow (w : World) (b i ty : Nat) (cs : List Value) (fr : Nat × Nat) (vs : List Value) (hb : w.heap[b]? = some (.cells cs.toArray ty fr)) (hvs : ∀ j v, vs[j]? = some v → cs[i + j]? = some v) : (loadCells ⟨b, i, none⟩ vs.length).run P w = .ok vs.toArray w :=
  run_loadCells_list (P := P) w ⟨b, i, none⟩ vs (fun j v hv => by
    rw [addr_add, cell_of_row w b (i + j) cs.toArray ty fr hb]
    simpa using hvs j v hv)

theorem ld_agg {t n : Nat} [ht : TAgg P t n] {b i ty : Nat} {cs vs : List Value} [hb : InB b L ty cs] (hl : vs.length = n) (hv : ∀ j v, vs[j]? = some v → cs[i + j]? = some v) : Ld P L t ⟨b, i, none⟩ (.agg vs.toArray) := by
  intro E w hh
  obtain ⟨L', tk⟩ := hb.ok
  have ha := run_isAgg ht.und w
  have hr := run_loadRow (P := P) w b i ty cs (0, 0) vs (hh.one_get tk) hv
  rw [hl] at hr
  simp [loadVar, ha, run_sizeOf ht.inf, hr]
theorem ld_whole {t n : Nat} [ht : TAgg P t n] {b ty : Nat} {cs : List Value} [hb : InB b L ty cs] (hl : cs.length = n) : Ld P L t ⟨b, 0, none⟩ (.agg cs.toArray) := ld_agg hl (fun j v h => by simpa using h)
/-- a load of an aggregate -/
theorem rd_loadA {t n : Nat} [ht : TAgg P t n] {x : Operand} {b i ty : Nat} {cs vs : List Value} (hx : evalE env x = some (.pointer (some ⟨b, i, none⟩))) [hb : InB b L ty cs] (hl : vs.length = n) (hv : ∀ j v, vs[j]? = some v → cs[i + j]? = some v) : Rd P env L (.load t x) (.agg vs.toArray) := by
  exact rd_of_ld hx (ld_agg hl hv)
/-- .. of a whole block -/
theorem rd_loadW {t n : Nat} [ht : TAgg P t n] {x : Operand} {b ty : Nat} {cs : List Value} (hx : evalE env x = some (.pointer (some ⟨b, 0, none⟩))) [hb : InB b L ty cs] (hl : cs.length = n) : Rd P env L (.load t x) (.agg cs.toArray) :=
  rd_loadA hx hl (fun j v h => by simpa using h)
/-- .. of cells of a block whose cells are written out -/
theorem rd_loadX {t n : Nat} [ht : TAgg P t n] {x : Operand} {b i ty : Nat} {cs vs : List Value} (hx : evalE env x = some (.pointer (some ⟨b, i, none⟩))) [hb : InB b L ty cs] (hv : (cs.drop i).take n = vs) (hl : vs.length = n) : Rd P env L (.load t x) (.agg vs.toArray) :=
  rd_loadA hx hl (fun j v h => by
    rw [← hv, List.getElem?_take] at h
    split at h
    · rwa [List.getElem?_drop] at h
    · cases h)

theorem run_store_in {w : World} {b i ty : Nat} {cs : List Value} {v u : Value} (hb : w.heap[b]? = some (.cells cs.toArray ty (0, 0))) (hi : cs[i]? = some u) (hv : v.oneCell' = true) : (store ⟨b, i, none⟩ v).run P w = .ok () (w.setCell ⟨b, i, none⟩ v) := by
  rw [run_store P w _ v _ hv]
  have hc : w.cell? ⟨b, i, none⟩ = some u := by rw [cell_of_row w b i _ _ _ hb]; simpa using hi
  have hf : w.frozen? ⟨b, i, none⟩ = false := by simp [World.frozen?, hb]
  simp [hc, hf]

/-- cs with v at i, worked out where cs is written out -/
class SetL (cs : List Value) (i : Nat) (v : Value) (cs' : outParam (List Value)) : Prop where
  ok : cs.set i v = cs' ∧ i < cs.length
instance SetL.zero {c v : Value} {cs : List Value} : SetL (c :: cs) 0 v (v :: cs) := ⟨rfl, by simp⟩
instance SetL.succ {c v : Value} {cs cs' : List Value} {i : Nat} [h : SetL cs i v cs'] : SetL (c :: cs) (i + 1) v (c :: cs') := ⟨by rw [List.set_cons_succ, h.ok.1], by simpa using h.ok.2⟩
/-- a store of one cell -/
theorem ef_storeP {t : TypeId} [ht : TOne P t] {x y : Operand} {b i ty : Nat} {cs : List Value} {F : List Value → List Assn} {v : Value} (hx : evalE env x = some (.pointer (some ⟨b, i, none⟩))) (hy : evalE env y = some v) (hv : v.oneCell' = true) [hb : SetB b L ty cs F] (hi : i < cs.length) : Ef P env L (.store t x y) (fun k => k undef (F (cs.set i v))) := by
  intro ro dst tt pos af g N E a w next Q k hf hh hk hn
  have hblk := hb.inB hh
  have hcs : cs[i]? = some cs[i] := List.getElem?_eq_getElem hi
  have hst := run_store_in (P := P) hblk hcs hv
  have hcl : v.cells = #[v] := by cases v <;> simp_all [Value.cells, Value.oneCell']
  have hsz := run_sizeOf ht.inf
  have hrun : (execOp a.eval ⟨dst, .store t x y, tt, pos, af, g⟩).run P w = .ok .skip (w.setCell ⟨b, i, none⟩ v) := by
    simp [execOp, hf.ev x _ hx, hf.ev y _ hy, Instr.storeAt, Instr.sureAddr, storeVar, hcl, hsz, storeCells, addr_add, hst]
  exact wpIn_skip_op hrun (hn undef _ _ hk (hh.setCell v (hb.ok _)))

theorem ef_store {t : TypeId} [ht : TOne P t] {x y : Operand} {b i ty : Nat} {cs cs' : List Value} {F : List Value → List Assn} {v : Value} (hx : evalE env x = some (.pointer (some ⟨b, i, none⟩))) (hy : evalE env y = some v) (hv : v.oneCell' = true) [hb : SetB b L ty cs F] [hs : SetL cs i v cs'] : Ef P env L (.store t x y) (fun k => k undef (F cs')) := by
  have := ef_storeP (P := P) (t := t) hx hy hv (hb := hb) hs.ok.2
  rwa [hs.ok.1] at this

/-- cells put over a list's, from i on -/
def over (cs vs : List Value) (i : Nat) : List Value := cs.take i ++ vs ++ cs.drop (i + vs.length)

/-- over, worked out where the list is written out -/
class OverL (cs vs : List Value) (i : Nat) (cs' : outParam (List Value)) : Prop where
  ok : over cs vs i = cs' ∧ i + vs.length ≤ cs.length
instance OverL.nil {cs : List Value} : OverL cs [] 0 cs := ⟨by simp [over], by simp⟩
instance OverL.zero {c v : Value} {cs vs cs' : List Value} [h : OverL cs vs 0 cs'] : OverL (c :: cs) (v :: vs) 0 (v :: cs') := ⟨by
  have := h.ok.1
  simp only [over, Nat.zero_add, List.take_zero, List.nil_append, List.length_cons, List.drop_succ_cons] at this ⊢
  rw [List.cons_append, this], by have := h.ok.2; simp at this ⊢; omega⟩
instance OverL.succ {c : Value} {cs vs cs' : List Value} {i : Nat} [h : OverL cs vs i cs'] : OverL (c :: cs) vs (i + 1) (c :: cs') := ⟨by
  have := h.ok.1
  simp only [over] at this ⊢
  rw [List.take_succ_cons, show i + 1 + vs.length = (i + vs.length) + 1 by omega, List.drop_succ_cons, List.cons_append, List.cons_append, this], by have := h.ok.2; simp at this ⊢; omega⟩
/-- a store of an aggregate -/
theorem ef_storeAP {t n : Nat} [ht : TAgg P t n] {x y : Operand} {b i ty : Nat} {cs vs : List Value} {F : List Value → List Assn} (hx : evalE env x = some (.pointer (some ⟨b, i, none⟩))) (hy : evalE env y = some (.agg vs.toArray)) (hv : vs.all Value.oneCell' = true) (hl : vs.length = n) [hb : SetB b L ty cs F] (hi : i + n ≤ cs.length) : Ef P env L (.store t x y) (fun k => k undef (F (over cs vs i))) := by
  intro ro dst tt pos af g N E a w next Q k hf hh hk hn
  have hblk := hb.inB hh
  have hst := run_storeCells_at P b i ty vs 0 cs.toArray w hblk (by simp; omega) (by simpa using hv)
  have hsz := run_sizeOf ht.inf
  simp only [Nat.add_zero] at hst
  have hrun : (execOp a.eval ⟨dst, .store t x y, tt, pos, af, g⟩).run P w = .ok .skip (w.setRow b (over cs vs i).toArray) := by
    simp [execOp, hf.ev x _ hx, hf.ev y _ hy, Instr.storeAt, Instr.sureAddr, storeVar, Value.cells, hl, hsz, hst, over]
  refine wpIn_skip_op hrun (hn undef _ _ hk (hh.upd (b := b) (o := .cells cs.toArray ty (0, 0)) (o' := .cells (over cs vs i).toArray ty (0, 0)) (hb.ok _) _ rfl rfl rfl ?_ ?_ ?_))
  · simp [World.setRow]
  · simp [World.setRow, Array.getElem?_modify, hblk]
  · intro j hj
    simp only [World.setRow, Array.getElem?_modify]
    rw [if_neg (by omega)]

theorem ef_storeAs {t n : Nat} [ht : TAgg P t n] {x y : Operand} {b i ty : Nat} {cs cs' vs : List Value} {F : List Value → List Assn} (hx : evalE env x = some (.pointer (some ⟨b, i, none⟩))) (hy : evalE env y = some (.agg vs.toArray)) [hb : SetB b L ty cs F] (he : over cs vs i = cs') (hi : i + vs.length ≤ cs.length) (hl : vs.length = n) (hv : vs.all Value.oneCell' = true) : Ef P env L (.store t x y) (fun k => k undef (F cs')) := by
  have := ef_storeAP (P := P) (t := t) hx hy hv hl (hb := hb) (by rw [← hl]; exact hi)
  rwa [he] at this
theorem ef_storeA {t n : Nat} [ht : TAgg P t n] {x y : Operand} {b i ty : Nat} {cs vs cs' : List Value} {F : List Value → List Assn} (hx : evalE env x = some (.pointer (some ⟨b, i, none⟩))) (hy : evalE env y = some (.agg vs.toArray)) (hv : vs.all Value.oneCell' = true) (hl : vs.length = n) [hb : SetB b L ty cs F] [hs : OverL cs vs i cs'] : Ef P env L (.store t x y) (fun k => k undef (F cs')) := by
  have := ef_storeAP (P := P) (t := t) hx hy hv hl (hb := hb) (by rw [← hl]; exact hs.ok.2)
  rwa [hs.ok.1] at this

theorem ef_new_of {op : Op} {o : Obj} {f : Nat → Value} (hrun : ∀ ρ, Ev ρ env → ∀ dst ty pos af g w, (execOp ρ ⟨dst, op, ty, pos, af, g⟩).run P w = .ok (.value (f w.heap.size)) (w.alloc o)) : Ef P env L op (fun k => ∀ b, k (f b) (one b o :: L)) := by
  intro ro dst tt pos af g N E a w next Q k hf hh hk hn
  exact wpIn_value (hrun _ hf.ev _ _ _ _ _ _) (hn _ _ _ (hk _) (hh.alloc o))

theorem ef_box {t : TypeId} {x : Operand} {v : Value} {cs : List Value} (hx : evalE env x = some v) (hc : v.cells = cs.toArray) : Ef P env L (.box t x) (fun k => ∀ b, k (.pointer (some ⟨b, 0, none⟩)) (blk b t cs :: L)) :=
  ef_new_of (f := fun b => .pointer (some ⟨b, 0, none⟩)) (o := .cells cs.toArray t (0, 0)) fun ρ hρ dst ty pos af g w => by
    simp [execOp, hρ x _ hx, Instr.box, newVar, newRow, hc]
theorem ef_alloc {t : TypeId} {zs : List Value} [hz : TZero P t zs] : Ef P env L (.alloc t) (fun k => ∀ b, k (.pointer (some ⟨b, 0, none⟩)) (blk b t zs :: L)) :=
  ef_new_of (f := fun b => .pointer (some ⟨b, 0, none⟩)) (o := .cells zs.toArray t (0, 0)) fun ρ hρ dst ty pos af g w => by
    obtain ⟨i, z, h1, h2, h3⟩ := hz.ok
    simp [execOp, Instr.alloc, zeroValue, typeInfo, h1, h2, newVar, newRow, h3]
end


/-! ## Composite values -/
/-- a value's cells -/
class CellsC (v : Value) (vs : outParam (List Value)) : Prop where
  ok : v.cells = vs.toArray
instance {k : IntKind} {n : Int} : CellsC (.int k n) [.int k n] := ⟨rfl⟩
instance {b : Bool} : CellsC (.bool b) [.bool b] := ⟨rfl⟩
instance {b : ByteArray} : CellsC (.string b) [.string b] := ⟨rfl⟩
instance {a : Option Addr} : CellsC (.pointer a) [.pointer a] := ⟨rfl⟩
instance {a : Option Addr} {l c : Nat} : CellsC (.slice a l c) [.slice a l c] := ⟨rfl⟩
instance {r : Option Nat} : CellsC (.map r) [.map r] := ⟨rfl⟩
instance {f : Fn} {a b : Array Value} : CellsC (.func f a b) [.func f a b] := ⟨rfl⟩
instance : CellsC .nilFunc [.nilFunc] := ⟨rfl⟩
instance {t : TypeId} {v : Value} : CellsC (.iface t v) [.iface t v] := ⟨rfl⟩
instance : CellsC .nilIface [.nilIface] := ⟨rfl⟩
instance {vs : List Value} : CellsC (.agg vs.toArray) vs := ⟨rfl⟩
class PlaceC (places : List (Nat × Nat)) (i : Nat) (off n : outParam Nat) : Prop where
  ok : places[i]? = some (off, n)
instance PlaceC.zero {o n : Nat} {ps : List (Nat × Nat)} : PlaceC ((o, n) :: ps) 0 o n := ⟨rfl⟩
instance PlaceC.succ {i o n : Nat} {p : Nat × Nat} {ps : List (Nat × Nat)} [h : PlaceC ps i o n] : PlaceC (p :: ps) (i + 1) o n := ⟨by simpa using h.ok⟩

theorem foldl_over (vs : List Value) : ∀ (cs : List Value) (off : Nat), off + vs.length ≤ cs.length →
    (vs.toArray.zipIdx.foldl (fun cs (c, j) => cs.setIfInBounds (off + j) c) cs.toArray) = (over cs vs off).toArray := by
  have key : ∀ (vs : List Value) (k : Nat) (cs : List Value) (off : Nat), off + k + vs.length ≤ cs.length →
      ((vs.zipIdx k).foldl (fun (cs : Array Value) (p : Value × Nat) => cs.setIfInBounds (off + p.2) p.1) cs.toArray) = (over cs vs (off + k)).toArray := by
    intro vs
    induction vs with
    | nil => intro k cs off h; simp [over]
    | cons v vs ih =>
      intro k cs off h
      simp only [List.length_cons] at h
      rw [List.zipIdx_cons, List.foldl_cons]
      have e : (cs.toArray.setIfInBounds (off + k) v) = (cs.set (off + k) v).toArray := by simp
      rw [e, ih (k + 1) (cs.set (off + k) v) off (by simp; omega)]
      congr 1
      unfold over
      have hlt : off + k < cs.length := by omega
      rw [show off + (k + 1) = off + k + 1 by omega, List.take_succ_eq_append_getElem (by simpa using hlt)]
      rw [List.take_set_of_le (Nat.le_refl _), List.getElem_set_self, List.drop_set_of_lt (by omega)]
      simp only [List.length_cons, List.append_assoc, List.cons_append, List.nil_append]
      rw [show off + k + 1 + vs.length = off + k + (vs.length + 1) by omega]
  intro cs off h
  have := key vs 0 cs off (by simpa using h)
  simp only [Nat.add_zero] at this
  rw [← this, ← Array.foldl_toList]
  simp

/-- the parts laid over cs -/
inductive BldL (places : List (Nat × Nat)) : List Value → List (Nat × Value) → List Value → Prop
  | nil {cs : List Value} : BldL places cs [] cs
  | cons {cs cs' out vs : List Value} {i off n : Nat} {v : Value} {rest : List (Nat × Value)} (hp : PlaceC places i off n) (hv : CellsC v vs) (hn : vs.length = n) (ho : OverL cs vs off cs') (k : BldL places cs' rest out) : BldL places cs ((i, v) :: rest) out
theorem BldL.fill {places : List (Nat × Nat)} {cs out : List Value} {parts : List (Nat × Value)} (h : BldL places cs parts out) (pl : Nat → Option (Nat × Nat)) (hpl : ∀ i, pl i = places[i]?) : Instr.fill pl cs.toArray parts = some out.toArray := by
  induction h with
  | nil => rfl
  | cons hp hv hn ho _ ih =>
    have hle := ho.ok.2
    unfold Instr.fill
    rw [hpl, hp.ok]
    simp only []
    rw [hv.ok]
    rw [if_neg (by simp [hn]; omega)]
    rw [foldl_over _ _ _ hle, ho.ok.1]
    exact ih
class BldC (places : List (Nat × Nat)) (cs : List Value) (parts : List (Nat × Value)) (out : outParam (List Value)) : Prop where
  ok : BldL places cs parts out
class LenC (vs : List Value) (n : Nat) : Prop where
  ok : vs.length = n
instance LenC.nil : LenC [] 0 := ⟨rfl⟩
instance LenC.cons {v : Value} {vs : List Value} {n : Nat} [h : LenC vs n] : LenC (v :: vs) (n + 1) := ⟨by simp [h.ok]⟩
instance BldC.nil {places : List (Nat × Nat)} {cs : List Value} : BldC places cs [] cs := ⟨.nil⟩
instance BldC.cons {places : List (Nat × Nat)} {cs cs' out vs : List Value} {i off n : Nat} {v : Value} {rest : List (Nat × Value)} [hp : PlaceC places i off n] [hv : CellsC v vs] [hn : LenC vs n] [ho : OverL cs vs off cs'] [k : BldC places cs' rest out] : BldC places cs ((i, v) :: rest) out := ⟨.cons hp hv hn.ok ho k.ok⟩

/-- a struct's zero cells, and where its fields lie -/
class TBld (P : Program) (t : TypeId) (zs : outParam (List Value)) (places : outParam (List (Nat × Nat))) : Prop where
  okZ : ((P.info? t).bind (·.zero)).map Value.cells = some zs.toArray
  okF : (match P.underlying t with | some (.struct fs) => some (fs.toList.map fun f => (P.info? f.type).map fun i => (f.offset, i.size)) | _ => none) = some (places.map some)

theorem operands_of {env : Env} {ρ : Operand → Value} (hρ : Ev ρ env) : ∀ {ps : List (Nat × Operand)} {qs : List (Nat × Value)}, ps.map (fun p => (p.1, evalE env p.2)) = qs.map (fun q => (q.1, some q.2)) → ps.map (fun p => (p.1, ρ p.2)) = qs := by
  intro ps
  induction ps with
  | nil => intro qs h; cases qs <;> simp_all
  | cons p ps ih =>
    intro qs h
    cases qs with
    | nil => simp at h
    | cons q qs =>
      simp only [List.map_cons, List.cons.injEq, Prod.mk.injEq] at h
      rw [List.map_cons, ih h.2, hρ _ _ h.1.2, h.1.1]

def fieldPl (f : Field) : Sem (Nat × Nat) := do pure (f.offset, ← Go.sizeOf f.type)
theorem run_fieldPl {P : Program} {f : Field} {j : TypeInfo} (hj : P.info? f.type = some j) (w : World) : (fieldPl f).run P w = .ok (f.offset, j.size) w := by simp [fieldPl, Go.sizeOf, typeInfo, hj]
theorem pu_bld {P : Program} {env : Env} {t : TypeId} {zs out : List Value} {places : List (Nat × Nat)} [ht : TBld P t zs places] {ps : Array (Nat × Operand)} {qs : List (Nat × Value)} (hp : ps.toList.map (fun p => (p.1, evalE env p.2)) = qs.map (fun q => (q.1, some q.2))) [hb : BldC places zs qs out] : Pu P env (.build t ps) (.agg out.toArray) := fun ρ hρ _ _ _ _ _ w => by
  have e : (ps.map fun p => (p.1, ρ p.2)) = qs.toArray := by apply Array.ext'; rw [Array.toList_map]; simpa using operands_of hρ hp
  have e' : (ps.map fun (i, x) => (i, ρ x)) = qs.toArray := e
  have hz := ht.okZ
  have hf := ht.okF
  cases hi : P.info? t with
  | none => simp [hi] at hz
  | some i =>
    cases hzz : i.zero with
    | none => simp [hi, hzz] at hz
    | some z =>
      simp [hi, hzz] at hz
      cases hu : P.underlying t with
      | none => simp [hu] at hf
      | some d =>
        cases d with
        | struct fs =>
          simp only [hu, Option.some.injEq] at hf
          have hm : ∀ (l : List Field) (pl : List (Nat × Nat)), (l.map fun f => (P.info? f.type).map fun i => (f.offset, i.size)) = pl.map some →
              (l.mapM fieldPl).run P w = .ok pl w := by
            intro l
            induction l with
            | nil => intro pl h; cases pl <;> simp_all
            | cons f l ih =>
              intro pl h
              cases pl with
              | nil => simp at h
              | cons p pl =>
                simp only [List.map_cons, List.cons.injEq] at h
                cases hj : P.info? f.type with
                | none => simp [hj] at h
                | some j =>
                  simp [hj] at h
                  rw [List.mapM_cons, Sem.run_bind, run_fieldPl hj, Result.andThen_ok, Sem.run_bind, ih pl h.2, Result.andThen_ok, Sem.run_pure, h.1]
          have hmm : (fs.mapM fieldPl).run P w = .ok places.toArray w := by
            rw [Array.mapM_eq_mapM_toList, Sem.run_map, hm _ _ hf]; rfl
          have hfill := hb.ok.fill (fun i => places.toArray[i]?) (fun i => by simp)
          have hrun : (Instr.build t qs.toArray).run P w = .ok (.agg out.toArray) w := by
            unfold Instr.build
            simp only [Sem.run_bind, zeroValue, typeInfo, run_program, hi, hzz, Result.andThen_ok, Sem.run_pure, run_underlying hu, hz]
            refine Eq.trans (congrArg (fun r => Result.andThen r _) hmm) ?_
            simp only [Result.andThen_ok]
            rw [hfill]
            rfl
          simp only [execOp, e', Sem.run_bind, hrun, Result.andThen_ok, Sem.run_pure]
        | _ => simp [hu] at hf

/-- parts one behind the other -/
class CatC (i : Nat) (n : Nat) (parts : List (Nat × Value)) (out : outParam (List Value)) : Prop where
  ok : ∀ pre zs : List Value, pre.length = i * n → zs.length = parts.length * n → Instr.fill (fun j => some (j * n, n)) (pre ++ zs).toArray parts = some (pre ++ out).toArray
instance CatC.nil {i n : Nat} : CatC i n [] [] := ⟨fun pre zs _ h => by
  have : zs = [] := List.eq_nil_of_length_eq_zero (by simpa using h)
  subst this; rfl⟩
class CatL (a b : List Value) (c : outParam (List Value)) : Prop where
  ok : a ++ b = c
instance CatL.nil {b : List Value} : CatL [] b b := ⟨rfl⟩
instance CatL.cons {x : Value} {a b c : List Value} [h : CatL a b c] : CatL (x :: a) b (x :: c) := ⟨by rw [List.cons_append, h.ok]⟩
instance CatC.cons {i n : Nat} {v : Value} {vs out out' : List Value} {rest : List (Nat × Value)} [hv : CellsC v vs] [hn : LenC vs n] [hr : CatC (i + 1) n rest out] [hc : CatL vs out out'] : CatC i n ((i, v) :: rest) out' := ⟨fun pre zs hp hz => by
  have hn' := hn.ok
  simp only [List.length_cons, Nat.succ_mul] at hz
  unfold Instr.fill
  simp only []
  rw [hv.ok]
  rw [if_neg (by simp [hn', hp, hz])]
  rw [foldl_over _ _ _ (by rw [List.length_append, hp, hn', hz]; omega)]
  have e : over (pre ++ zs) vs (i * n) = (pre ++ vs) ++ zs.drop n := by
    unfold over
    rw [← hp, List.take_left, hn', List.drop_length_add_append]
  rw [e, ← hc.ok]
  have := hr.ok (pre ++ vs) (zs.drop n) (by rw [List.length_append, hp, hn', Nat.succ_mul]) (by rw [List.length_drop, hz]; omega)
  rw [this, List.append_assoc]⟩

theorem ef_bldS {P : Program} {env : Env} {L : List Assn} {t e n by_ : Nat} [ht : TSl P t e n by_] {zs out : List Value} [hz : TZero P e zs] {ps : Array (Nat × Operand)} {qs : List (Nat × Value)} {len : Nat}
    (hp : ps.toList.map (fun p => (p.1, evalE env p.2)) = qs.map (fun q => (q.1, some q.2))) (hlen : qs.length = len) (hsm : Nat.ble (len * n) 16777216 = true) [hc : CatC 0 n qs out] :
    Ef P env L (.buildSlice t len ps) (fun k => ∀ b, k (.slice (some ⟨b, 0, none⟩) len len) (blk b e out :: L)) :=
  ef_new_of (f := fun b => .slice (some ⟨b, 0, none⟩) len len) (o := .cells out.toArray e (0, 0)) fun ρ hρ dst ty pos af g w => by
    have e1 : (ps.map fun p => (p.1, ρ p.2)) = qs.toArray := by apply Array.ext'; rw [Array.toList_map]; simpa using operands_of hρ hp
    have e' : (ps.map fun (i, x) => (i, ρ x)) = qs.toArray := e1
    obtain ⟨j, hu, hj, hs, _⟩ := ht.ok
    obtain ⟨i, z, h1, h2, h3⟩ := hz.ok
    have : i = j := Option.some.inj (h1.symm.trans hj)
    subst this
    have hsm' : ¬ (len * n > 16777216) := Nat.not_lt.2 (Nat.le_of_ble_eq_true hsm)
    have hfill : ∀ Z : Array Value, Z.size = len * n → Instr.fill (fun j => some (j * n, n)) Z qs = some out.toArray := fun Z hZ => by
      have := hc.ok [] Z.toList (by simp) (by rw [Array.length_toList, hZ, hlen])
      simpa using this
    have hrun : (Instr.buildSlice t len qs.toArray).run P w = .ok (.slice (some ⟨w.heap.size, 0, none⟩) len len) (w.alloc (.cells out.toArray e (0, 0))) := by
      unfold Instr.buildSlice
      simp only [Sem.run_bind, run_underlying hu, Result.andThen_ok, Go.sizeOf, typeInfo, run_program, hj, hs, Sem.run_pure, show (2 : Nat) ^ 24 = 16777216 from rfl, hsm', if_false]
      by_cases h0 : len * n = 0
      · simp only [h0, if_true]
        rw [Sem.run_bind, Sem.run_pure, Result.andThen_ok, hfill _ (by simp [h0])]
        simp [newRow]
      · simp only [h0, if_false, zeroValue, typeInfo, Sem.run_bind, run_program, hj, h2, Result.andThen_ok, Sem.run_pure]
        rw [hfill _ (by simp)]
        simp [newRow]
    simp only [execOp, e', Sem.run_bind, hrun, Result.andThen_ok, Sem.run_pure]

/-! ## Slices of the call's own -/
/-- the slice v, of elements of type e and size cells each, holds the cells xs (nil: none), and owns its array -/
def own (e : TypeId) (size : Nat) (v : Value) (n : Nat) (xs : List Value) : Assn := fun m =>
  xs.length = n * size ∧
  ((v = .slice none 0 0 ∧ n = 0) ∨
   ∃ g cap cur, v = .slice (some ⟨g, 0, none⟩) n cap ∧ m g = some (.cells cur e (0, 0)) ∧ n ≤ cap ∧ cap ≤ maxLen ∧ cur.size = cap * size ∧ cur.toList.take (n * size) = xs)

theorem own_nil (e n : Nat) (m : PH) : own e n (.slice none 0 0) 0 [] m := ⟨by simp, .inl ⟨rfl, rfl⟩⟩
/-- append to a slice of the call's own, of cells that a block holds: the run's law of the kit, said of the heap's assertions -/
theorem H.append {P : Program} {E : Ctx} {w : World} {L : List Assn} {t e : TypeId} {n by_ : Nat} (ht : TSl P t e n by_) {zs : List Value} (hz : TZero P e zs) (hzl : zs.length = n) (hn0 : 0 < n)
    {v : Value} {l : Nat} {xs : List Value} (h : H E w (own e n v l xs :: L)) {sb so m c sty : Nat} {scs : List Value} {fr : Nat × Nat} (hsrc : w.heap[sb]? = some (.cells scs.toArray sty fr)) (news : List Value) (hnl : news.length = m * n)
    (hnews : ∀ j u, news[j]? = some u → scs[so + j]? = some u) (h1 : news.all Value.oneCell' = true) (h63 : l + m ≤ maxLen) (hby : (l + m) * by_ ≤ 140737488355328) (ty : TypeId) :
    ∃ v' w', (Builtin.append_ #[t, t] ty #[v, .slice (some ⟨sb, so, none⟩) m c]).run P w = .ok v' w' ∧ H E w' (own e n v' (l + m) (xs ++ news) :: L) ∧ (m ≠ 0 → ∃ g cap, v' = .slice (some ⟨g, 0, none⟩) (l + m) cap) := by
  obtain ⟨i, hu, hi, hin, hib⟩ := ht.ok
  obtain ⟨i', z, hi', hzz, hzc⟩ := hz.ok
  have : i' = i := Option.some.inj (hi'.symm.trans hi)
  subst this
  obtain ⟨e1, e2, e3, e4, h5⟩ := h
  obtain ⟨m1, m2, ho, hL, hd, s1, s2⟩ := Sat.perm (perm_out (X := E.X) (.refl _)) _ h5
  have hown : w.ownsRow 0 e n v l xs := by
    refine ⟨ho.1, ?_⟩
    rcases ho.2 with hnil | ⟨g, cap, cur, hv, hg, r⟩
    · exact .inl hnil
    · exact .inr ⟨g, cap, cur, hv, Nat.zero_le _, s1 _ _ hg, r⟩
  have hcells : ∀ j u, news[j]? = some u → w.cell? ((⟨sb, so, none⟩ : Addr).add j) = some u := fun j u hju => by
    rw [addr_add, cell_of_row w sb (so + j) scs.toArray sty fr hsrc]
    simpa using hnews j u hju
  obtain ⟨v', w', hrun, hown', hg, hnn, hat⟩ := run_append_own_at (P := P) w 0 t ty e i' z n by_ hu hi hzz hin hib (by rw [hzc]; simpa using hzl) hn0 v l xs hown ⟨sb, so, none⟩ m c news hnl hcells (by simpa using h1) h63 hby (Nat.zero_le _)
  have hlt2 : ∀ k o, m2 k = some o → k < w.heap.size := fun k o hk => (Array.getElem?_eq_some_iff.1 (s2 k o hk)).1
  have hvm : ∀ k, v.ownBlock = some k → m2 k = none := fun k hk => by
    rcases ho.2 with ⟨rfl, _⟩ | ⟨g0, cap, cur, rfl, hgm, _⟩
    · simp [Value.ownBlock] at hk
    · simp [Value.ownBlock] at hk
      subst hk
      exact (hd g0).resolve_left (by rw [hgm]; simp)
  have hm2 : ∀ k o, m2 k = some o → w'.heap[k]? = some o := fun k o hk => by
    rw [hg.block k (hlt2 k o hk) (fun he => by rw [hvm k he.symm] at hk; cases hk)]
    exact s2 k o hk
  refine ⟨v', w', hrun, ⟨hg.os.trans e1, hg.output.trans e2, hg.tape.trans e3, Nat.le_trans e4 hg.size, Sat.perm (perm_out (X := E.X) (.refl _)).symm _ ⟨fun k => if v'.ownBlock = some k then w'.heap[k]? else none, m2, ?_, hL, ?_, ?_, hm2⟩⟩, ?_⟩
  · refine ⟨hown'.1, ?_⟩
    rcases hown'.2 with hnil | ⟨g, cap, cur, rfl, _, hgg, r⟩
    · exact .inl hnil
    · exact .inr ⟨g, cap, cur, rfl, by simpa [Value.ownBlock] using hgg, r⟩
  · intro k
    by_cases hk : v'.ownBlock = some k
    · right
      rcases hat with he | he
      · exact hvm k (he ▸ hk)
      · rw [he] at hk
        cases hm : m2 k with
        | none => rfl
        | some o => have := hlt2 k o hm; simp at hk; omega
    · left; simp [hk]
  · intro k o hk
    by_cases hk' : v'.ownBlock = some k
    · simpa [hk'] using hk
    · simp [hk'] at hk
  · intro hm
    rcases hown'.2 with ⟨hnil, h0⟩ | ⟨g, cap, cur, hv', _⟩
    · omega
    · exact ⟨g, cap, hv'⟩
end SX
namespace SX
open Go

section
variable {P : Program} {ops : Array Oper} {Q : Exit → Act → World → Prop} {md : Region.Mode} {S : World → Prop} {ex : Nat → Bool}

/-- i stands ahead of j, by the edges -/
inductive Anc (md : Region.Mode) (ops : Array Oper) (i : Nat) : Nat → Prop
  | edge {j : Nat} {o : Oper} {e : Edge} (h : ops[j]? = some o) (he : e ∈ o.after) (hb : Region.binds md e = true) (hi : e.on = i) : Anc md ops i j
  | step {j : Nat} {o : Oper} {e : Edge} (h : ops[j]? = some o) (he : e ∈ o.after) (hb : Region.binds md e = true) (hi : Anc md ops i e.on) : Anc md ops i j

def Closed (md : Region.Mode) (ops : Array Oper) (listed : Array Bool) : Prop :=
  ∀ (j : Nat) (o : Oper), ops[j]? = some o → listed.getD j false = true → ∀ e ∈ o.after, Region.binds md e = true → listed.getD e.on false = true

theorem Anc.listed {listed : Array Bool} {i j : Nat} (hc : Closed md ops listed) (h : Anc md ops i j) : listed.getD j false = true → listed.getD i false = true := by
  induction h with
  | edge h he hb hi => intro hl; subst hi; exact hc _ _ h hl _ he hb
  | step h he hb _ ih => intro hl; exact ih (hc _ _ h hl _ he hb)
theorem Anc.of_ready {listed : Array Bool} {i j : Nat} (hc : Closed md ops listed) (h : Anc md ops i j) (hr : j ∈ Region.ready md ops listed) : listed.getD i false = true := by
  obtain ⟨_, oj, hoj, hall⟩ := mem_ready.1 hr
  cases h with
  | edge h he hb hi =>
    have : oj = _ := Option.some.inj (hoj.symm.trans h)
    subst this; subst hi; exact hall _ he hb
  | step h he hb hi =>
    have : oj = _ := Option.some.inj (hoj.symm.trans h)
    subst this; exact hi.listed hc (hall _ he hb)
theorem Closed.set {listed : Array Bool} {i : Nat} (hc : Closed md ops listed) (hr : i ∈ Region.ready md ops listed) : Closed md ops (listed.setIfInBounds i true) := by
  obtain ⟨_, oi, hoi, hall⟩ := mem_ready.1 hr
  intro j o hj hl e he hb
  by_cases hij : i = j
  · subst hij
    have : o = oi := Option.some.inj (hj.symm.trans hoi)
    subst this
    exact getD_set_true (hall e he hb)
  · rw [getD_set_ne false hij] at hl
    exact getD_set_true (hc j o hj hl e he hb)

/-- by reckoning: i stands ahead of j -/
def ancB (md : Region.Mode) (ops : Array Oper) (i : Nat) : Nat → Nat → Bool
  | 0, _ => false
  | f + 1, j => match ops[j]? with
    | none => false
    | some o => o.after.any fun e => Region.binds md e && (e.on == i || (Nat.blt i e.on && ancB md ops i f e.on))
theorem ancB.spec {i : Nat} : ∀ (f j : Nat), ancB md ops i f j = true → Anc md ops i j
  | 0, _, h => by simp [ancB] at h
  | f + 1, j, h => by
    unfold ancB at h
    split at h
    · cases h
    · rename_i o ho
      obtain ⟨e, he, hb⟩ := Array.any_eq_true'.1 h
      simp only [Bool.and_eq_true, Bool.or_eq_true, beq_iff_eq] at hb
      rcases hb with ⟨hb, hi | ⟨_, hi⟩⟩
      · exact .edge ho he hb hi
      · exact .step ho he hb (ancB.spec f _ hi)

def noDefer (ops : Array Oper) : Bool := ops.all fun o => match o.op with | .defer _ => false | _ => true
theorem noDefer.spec (h : noDefer ops = true) {j : Nat} {o : Oper} (hj : ops[j]? = some o) (c : Call) : o.op ≠ .defer c := fun he => by
  have := Array.all_eq_true_iff_forall_mem.1 h o (Array.mem_of_getElem? hj)
  simp [he] at this

theorem yields_wpOpIn {ro : Option Nat} {i : Nat} {oi : Oper} {v : Value} {a : Act} (hi : ops[i]? = some oi) (hy : YieldsIf P ops S oi v a) {K : Act → World → Prop} {w : World} (hS : S w) (h : K (a.put oi.dst v) w) : wpOpIn (FW ro) 0 P ops Q i K a w := by
  unfold Go.wpOpIn
  simp only [hi]
  rcases hy with ⟨hw, hv⟩ | ⟨hw, rfl⟩
  · rw [if_pos hw]; exact wpIn_value (hv w hS) h
  · rw [if_neg (by rw [hw]; exact Bool.false_ne_true)]; exact ⟨fun _ _ => trivial, h⟩

/-- oj, apart from oi, is carried out: it is all one whether oi's value is there already -/
theorem wpOpIn_early {ro : Option Nat} {j : Nat} {oi oj : Oper} {v : Value} (hj : ops[j]? = some oj) (hnd : ∀ c, oj.op ≠ .defer c) (hap : oi.apart ops oj = true)
    (hsi : ∀ cs b, oi.op ≠ .select cs b) (hsj : ∀ cs b, oj.op ≠ .select cs b)
    (hQ : ∀ c a w, Q (.panic c) (a.put oi.dst v) w → Q (.panic c) a w) {K : Act → World → Prop} {a : Act} {w : World}
    (hy : YieldsIf P ops S oi v a) (h : wpOpIn (FW ro) 0 P ops Q j K (a.put oi.dst v) w) :
    wpOpIn (FW ro) 0 P ops Q j (fun a' w' => YieldsIf P ops S oi v a' ∧ K (a'.put oi.dst v) w') a w := by
  obtain ⟨h1, h2, h3⟩ := Oper.apart_spec hap
  have keep : ∀ (a : Act), YieldsIf P ops S oi v a → ∀ u, YieldsIf P ops S oi v (a.put oj.dst u) := fun a hy u => hy.of_same (execOp_put oi hsi a oj.dst u h3) (wanted_put oi a oj.dst u h3)
  have comm : ∀ u, (a.put oi.dst v).put oj.dst u = (a.put oj.dst u).put oi.dst v := fun u => Act.put_comm a v u h2
  unfold Go.wpOpIn at *
  simp only [hj] at *
  rw [wanted_put oj a oi.dst v h1] at h
  split
  · rename_i hw
    rw [if_pos hw] at h
    obtain ⟨_, h⟩ := h
    refine ⟨fun _ _ => trivial, ?_⟩
    rw [Oper.semAt_eq _ _ _ hnd] at h ⊢
    rw [execOp_put oj hsj a oi.dst v h1] at h
    generalize (execOp a.eval oj).run P w = r at *
    cases r with
    | ok x w' =>
      cases x <;> simp only [Oper.uponIn] at h ⊢
      case value u => exact ⟨keep a hy u, by rw [← comm]; exact h⟩
      case skip => exact ⟨keep a hy undef, by rw [← comm]; exact h⟩
      case defer d =>
        refine ⟨keep _ (hy.of_same (a' := { a with defers := d :: a.defers }) rfl rfl) undef, ?_⟩
        rw [← Act.put_comm _ v undef h2, ← Act.put_defers]
        exact h
      case enter f args =>
        refine ⟨h.1, CallsIn.mono h.2 fun e w'' he => ?_⟩
        cases e with
        | returned u => exact ⟨keep a hy u, by rw [← comm]; exact he⟩
        | panicked c => exact hQ _ _ _ he
        | outgrown => exact he
      case row row args => exact ⟨h.1, RowsIn.mono h.2 fun u w'' he => ⟨keep a hy u, by rw [← comm]; exact he⟩⟩
      case round l f tmps assign body =>
        refine ⟨h.1, RoundIn.mono h.2 fun e w'' he => ?_⟩
        cases e with
        | returned u => exact ⟨keep a hy u, by rw [← comm]; exact he⟩
        | panicked c => exact hQ _ _ _ he
        | outgrown => exact he
    | halt x w' =>
      cases x <;> simp only [Oper.uponIn] at h ⊢
      case panic u => exact hQ _ _ _ h
  · rename_i hw
    rw [if_neg hw] at h
    exact ⟨fun _ _ => trivial, keep a hy undef, by rw [← comm]; exact h.2⟩

/-- Whatever order is picked: behind each operation S holds, or the operation is one of those that all readers stand ahead of, or the world is as it was. -/
def wpAnyE (P : Program) (ro : Option Nat) (md : Region.Mode) (ops : Array Oper) (Q : Exit → Act → World → Prop) (S : World → Prop) (ex : Nat → Bool) : Nat → Array Bool → Act → World → Prop
  | 0, listed, a, w => Region.ready md ops listed = [] ∧ Q .normal a w
  | fuel + 1, listed, a, w =>
    (Region.ready md ops listed = [] → Q .normal a w) ∧
    ∀ i ∈ Region.ready md ops listed, wpOpIn (FW ro) 0 P ops Q i (fun a' w' => (S w' ∨ ex i = true ∨ w' = w) ∧ wpAnyE P ro md ops Q S ex fuel (listed.setIfInBounds i true) a' w') a w

theorem wpAny_of_E {ro : Option Nat} : ∀ (fuel : Nat) (listed : Array Bool) (a : Act) (w : World), wpAnyE P ro md ops Q S ex fuel listed a w → wpAnyIn (FW ro) 0 P md ops Q fuel listed a w
  | 0, _, _, _, h => h
  | fuel + 1, _, _, _, h => ⟨h.1, fun i hi => wpOpIn_mono (fun a' w' h' => wpAny_of_E fuel _ a' w' h'.2) (h.2 i hi)⟩

/-- what may come and reads no more than S says, or hangs on no world, is taken first -/
theorem wpAnyE_first {ro : Option Nat} {i : Nat} {oi : Oper} {v : Value} (hi : ops[i]? = some oi) (hsel : ∀ (j : Nat) (o : Oper) cs b, ops[j]? = some o → o.op ≠ .select cs b) (hnd : noDefer ops = true)
    (hQ : ∀ c a w, Q (.panic c) (a.put oi.dst v) w → Q (.panic c) a w) (T : World → Prop) (hT : (T = fun _ => True) ∨ (T = S ∧ ∀ j, ex j = true → Anc md ops i j)) :
    ∀ (fuel : Nat) (listed : Array Bool) (a : Act) (w : World), Closed md ops listed →
      (∀ j oj, ops[j]? = some oj → j ≠ i → listed.getD j true = false → (∀ e ∈ oj.after, Region.binds md e = true → e.on ≠ i) → oi.apart ops oj = true) →
      i ∈ Region.ready md ops listed → YieldsIf P ops T oi v a → T w →
      wpAnyE P ro md ops Q S ex fuel (listed.setIfInBounds i true) (a.put oi.dst v) w → wpAnyE P ro md ops Q S ex (fuel + 1) listed a w := by
  intro fuel
  induction fuel with
  | zero =>
    intro listed a w _ _ hr hy hS H
    refine ⟨fun h => (by rw [h] at hr; cases hr), fun j hj => ?_⟩
    by_cases hji : j = i
    · subst hji; exact yields_wpOpIn hi hy hS ⟨.inr (.inr rfl), H⟩
    · have := ready_mono hj hji
      rw [H.1] at this
      cases this
  | succ fuel ih =>
    intro listed a w hcl hfree hr hy hS H
    refine ⟨fun h => (by rw [h] at hr; cases hr), fun j hj => ?_⟩
    by_cases hji : j = i
    · subst hji; exact yields_wpOpIn hi hy hS ⟨.inr (.inr rfl), H⟩
    · have h1 := H.2 j (ready_mono hj hji)
      obtain ⟨hjun, oj, hoj, hall⟩ := mem_ready.1 hj
      have hiun : listed.getD i false = false := by
        have h0 := (mem_ready.1 hr).1
        rcases Nat.lt_or_ge i listed.size with h' | h'
        · simp [h'] at h0 ⊢; exact h0
        · simp [Array.getElem?_eq_none h'] at h0
      have hnot : ∀ e ∈ oj.after, Region.binds md e = true → e.on ≠ i := fun e he hb heq => by
        have h1 := hall e he hb
        rw [heq, hiun] at h1; cases h1
      have hfree' : ∀ k ok, ops[k]? = some ok → k ≠ i → (listed.setIfInBounds j true).getD k true = false →
          (∀ e ∈ ok.after, Region.binds md e = true → e.on ≠ i) → oi.apart ops ok = true := fun k ok hk hki hun hno => by
        refine hfree k ok hk hki ?_ hno
        by_cases hjk : j = k
        · subst hjk; exact hjun
        · rw [getD_set_ne true hjk] at hun; exact hun
      refine wpOpIn_mono (fun a' w' h3 => ?_) (wpOpIn_early hoj (noDefer.spec hnd hoj) (hfree j oj hoj hji hjun hnot) (fun cs b => hsel i oi cs b hi) (fun cs b => hsel j oj cs b hoj) hQ hy h1)
      have hT' : T w' := by
        rcases hT with rfl | ⟨rfl, hex⟩
        · trivial
        · rcases h3.2.1 with h | h | h
          · exact h
          · have := (hex j h).of_ready hcl hj
            rw [hiun] at this; cases this
          · rw [h]; exact hS
      refine ⟨h3.2.1, ih (listed.setIfInBounds j true) a' w' (hcl.set hj) hfree' (ready_mono hr (Ne.symm hji)) h3.1 hT' ?_⟩
      rw [Array.setIfInBounds_comm _ _ hji]
      exact h3.2.2
end

/-! ### the walk -/
section
variable {P : Program} {ro : Option Nat} {ops : Array Oper} {Q : Post} {N : Nat}

/-- rds: who reads; live: what is read (Lr) is still there -/
def swd (P : Program) (ro : Option Nat) (ops : Array Oper) (Q : Post) (N : Nat) (rds : List Nat) (fuel : Nat) (listed : Array Bool) (live : Bool) (env : Env) (Lr Lx : List Assn) : Prop :=
  ∀ E D a w, Dfs P a.defers D → Fr N a env → (if live then H (E.add D) w (Lr ++ Lx) else H (E.add D) w Lx) → Closed .any ops listed →
    wpAnyE P ro .any ops (PQ P E N Q) (fun w => H (E.add D) w Lr) (fun j => rds.all fun i => ancB .any ops i ops.size j) fuel listed a w

variable {rds : List Nat} {fuel : Nat} {listed : Array Bool} {live : Bool} {env : Env} {Lr Lx : List Assn} {d : Nat} {op : Op} {ty : TypeId} {pos : String} {af : Array Edge}

theorem H.left {E : Ctx} {w : World} {L1 L2 : List Assn} (h : H E w (L1 ++ L2)) : H E w L1 := h.ent (fun m hm => by
  have key : ∀ K : List Assn, Ent (K ++ L2) K := fun K => by
    induction K with
    | nil => exact fun _ _ => trivial
    | cons A K ih => exact Ent.cons ih
  exact key L1 m hm)

theorem closed_none (n : Nat) : Closed .any ops (Array.replicate n false) := by
  intro j o hj hl
  rcases Nat.lt_or_ge j n with h | h
  · simp [h] at hl
  · simp [h] at hl

theorem swp_draw {id : Nat} {l : List Oper} {L : List Assn} (rds : List Nat) (Lr Lx : List Assn) (hL : Ent L (Lr ++ Lx)) (hm : P.follows .mixedOrders = true)
    (h : swd P ro l.toArray Q N rds l.toArray.size (Array.replicate l.toArray.size false) true env Lr Lx) : swp P ro (.region id l.toArray true) Q N env L := by
  intro E D a w hD hf hh
  exact wpIn_region_any hm (wpAny_of_E _ _ _ _ (h E D a _ hD hf (hh.ent hL) (closed_none _)))

theorem PQ_panic {E : Ctx} (dst : Option Tmp) (v : Value) : ∀ c a w, PQ P E N Q (.panic c) (a.put dst v) w → PQ P E N Q (.panic c) a w := fun _ _ _ h => h.elim
theorem sel_of (h : (Region.noSelect ops && noDefer ops) = true) : Region.noSelect ops = true := (Bool.and_eq_true_iff.1 h).1
theorem def_of (h : (Region.noSelect ops && noDefer ops) = true) : noDefer ops = true := (Bool.and_eq_true_iff.1 h).2
theorem ex_anc {i : Nat} (hm : i ∈ rds) : ∀ j, (rds.all fun i => ancB .any ops i ops.size j) = true → Anc .any ops i j := fun _ hj => ancB.spec _ _ (List.all_eq_true.1 hj i hm)

/-- number i, which hangs on no world, is taken -/
theorem d_any (i : Nat) {g : Option (Nat × Bool)} {v : Value} (hi : ops[i]? = some ⟨some d, op, ty, pos, af, g⟩) (h : ∀ a, Fr N a env → YieldsIf P ops (fun _ => True) ⟨some d, op, ty, pos, af, g⟩ v a) (hs : (Region.noSelect ops && noDefer ops) = true) (hfr : Region.free .any ops listed i = true) (hr : (Region.ready .any ops listed).contains i = true)
    (k : swd P ro ops Q N rds fuel (listed.setIfInBounds i true) live ((d, v) :: env) Lr Lx) (hd : Nat.blt d N = true) : swd P ro ops Q N rds (fuel + 1) listed live env Lr Lx := by
  intro E D a w hD hf hh hc
  have hri : i ∈ Region.ready .any ops listed := by simpa using hr
  refine wpAnyE_first hi (Region.noSelect_spec (sel_of hs)) (def_of hs) (PQ_panic _ _) (fun _ => True) (.inl rfl) fuel listed a w hc (Region.free_spec hi hfr) hri (h a hf) trivial ?_
  exact k E D _ w (hD.put _ _) (hf.put hd v) hh (hc.set hri)
theorem d_pu (i : Nat) {v : Value} (hi : ops[i]? = some ⟨some d, op, ty, pos, af, none⟩) (h : Pu P env op v) (hs : (Region.noSelect ops && noDefer ops) = true) (hfr : Region.free .any ops listed i = true) (hr : (Region.ready .any ops listed).contains i = true)
    (k : swd P ro ops Q N rds fuel (listed.setIfInBounds i true) live ((d, v) :: env) Lr Lx) (hd : Nat.blt d N = true := by rfl) : swd P ro ops Q N rds (fuel + 1) listed live env Lr Lx :=
  d_any i hi (fun _ hf => .inl ⟨by simp [Region.wanted], fun w _ => h _ hf.ev _ _ _ _ _ w⟩) hs hfr hr k hd
/-- a guard that says no -/
theorem d_off (i : Nat) {g t : Nat} {want : Bool} {u : Value} (hi : ops[i]? = some ⟨some d, op, ty, pos, af, some (g, want)⟩) (hg : gslot ops g = some t) (hb : look env t = some u) (hne : (match u with | .bool b => b != want | _ => true) = true) (hs : (Region.noSelect ops && noDefer ops) = true) (hfr : Region.free .any ops listed i = true) (hr : (Region.ready .any ops listed).contains i = true)
    (k : swd P ro ops Q N rds fuel (listed.setIfInBounds i true) live ((d, undef) :: env) Lr Lx) (hd : Nat.blt d N = true := by rfl) : swd P ro ops Q N rds (fuel + 1) listed live env Lr Lx :=
  d_any i hi (fun _ hf => .inr ⟨not_wanted hf hg hb hne, rfl⟩) hs hfr hr k hd
theorem d_pu_on (i : Nat) {v : Value} {g t : Nat} {want : Bool} (hi : ops[i]? = some ⟨some d, op, ty, pos, af, some (g, want)⟩) (hg : gslot ops g = some t) (hb : look env t = some (.bool want)) (h : Pu P env op v) (hs : (Region.noSelect ops && noDefer ops) = true) (hfr : Region.free .any ops listed i = true) (hr : (Region.ready .any ops listed).contains i = true)
    (k : swd P ro ops Q N rds fuel (listed.setIfInBounds i true) live ((d, v) :: env) Lr Lx) (hd : Nat.blt d N = true := by rfl) : swd P ro ops Q N rds (fuel + 1) listed live env Lr Lx :=
  d_any i hi (fun _ hf => .inl ⟨by simp [Region.wanted, yielded_of hf hg hb], fun w _ => h _ hf.ev _ _ _ _ _ w⟩) hs hfr hr k hd
/-- number i, which reads, is taken -/
theorem d_rdany (i : Nat) {g : Option (Nat × Bool)} {v : Value} (hi : ops[i]? = some ⟨some d, op, ty, pos, af, g⟩) (h : ∀ E a, Fr N a env → YieldsIf P ops (fun w => H E w Lr) ⟨some d, op, ty, pos, af, g⟩ v a) (hm : rds.contains i = true) (hs : (Region.noSelect ops && noDefer ops) = true) (hfr : Region.free .any ops listed i = true) (hr : (Region.ready .any ops listed).contains i = true)
    (k : swd P ro ops Q N rds fuel (listed.setIfInBounds i true) true ((d, v) :: env) Lr Lx) (hd : Nat.blt d N = true) : swd P ro ops Q N rds (fuel + 1) listed true env Lr Lx := by
  intro E D a w hD hf hh hc
  have hri : i ∈ Region.ready .any ops listed := by simpa using hr
  refine wpAnyE_first hi (Region.noSelect_spec (sel_of hs)) (def_of hs) (PQ_panic _ _) (fun w => H (E.add D) w Lr) (.inr ⟨rfl, ex_anc (by simpa using hm)⟩) fuel listed a w hc (Region.free_spec hi hfr) hri (h _ a hf) (H.left hh) ?_
  exact k E D _ w (hD.put _ _) (hf.put hd v) hh (hc.set hri)
theorem d_rd (i : Nat) {v : Value} (hi : ops[i]? = some ⟨some d, op, ty, pos, af, none⟩) (h : Rd P env Lr op v) (hm : rds.contains i = true) (hs : (Region.noSelect ops && noDefer ops) = true) (hfr : Region.free .any ops listed i = true) (hr : (Region.ready .any ops listed).contains i = true)
    (k : swd P ro ops Q N rds fuel (listed.setIfInBounds i true) true ((d, v) :: env) Lr Lx) (hd : Nat.blt d N = true := by rfl) : swd P ro ops Q N rds (fuel + 1) listed true env Lr Lx :=
  d_rdany i hi (fun E _ hf => .inl ⟨by simp [Region.wanted], fun w' hw' => h _ hf.ev _ _ _ _ _ E w' hw'⟩) hm hs hfr hr k hd
theorem d_rd_on (i : Nat) {v : Value} {g t : Nat} {want : Bool} (hi : ops[i]? = some ⟨some d, op, ty, pos, af, some (g, want)⟩) (hg : gslot ops g = some t) (hb : look env t = some (.bool want)) (h : Rd P env Lr op v) (hm : rds.contains i = true) (hs : (Region.noSelect ops && noDefer ops) = true) (hfr : Region.free .any ops listed i = true) (hr : (Region.ready .any ops listed).contains i = true)
    (k : swd P ro ops Q N rds fuel (listed.setIfInBounds i true) true ((d, v) :: env) Lr Lx) (hd : Nat.blt d N = true := by rfl) : swd P ro ops Q N rds (fuel + 1) listed true env Lr Lx :=
  d_rdany i hi (fun E _ hf => .inl ⟨by simp [Region.wanted, yielded_of hf hg hb], fun w' hw' => h _ hf.ev _ _ _ _ _ E w' hw'⟩) hm hs hfr hr k hd

theorem wpAnyE_one {i : Nat} {o : Oper} {a : Act} {w : World} {S : World → Prop} {ex : Nat → Bool} {Q : Exit → Act → World → Prop} (hi : ops[i]? = some o) (hg : o.guard = none) (hr : Region.ready .any ops listed = [i])
    (h : ∀ K : Act → World → Prop, (∀ a' w', (S w' ∨ ex i = true ∨ w' = w) → wpAnyE P ro .any ops Q S ex fuel (listed.setIfInBounds i true) a' w' → K a' w') → o.wpIn (FW ro) 0 P a w K Q) :
    wpAnyE P ro .any ops Q S ex (fuel + 1) listed a w := by
  refine ⟨fun h0 => (by rw [hr] at h0; cases h0), fun j hj => ?_⟩
  rw [hr, List.mem_singleton] at hj
  subst hj
  unfold wpOpIn
  simp only [hi]
  rw [if_pos (by simp [Region.wanted, hg])]
  exact h _ (fun a' w' x y => ⟨x, y⟩)

/-- the one that comes next acts; what is read stays -/
theorem d_ef (i : Nat) {Φ : (Value → List Assn → Prop) → Prop} (hi : ops[i]? = some ⟨some d, op, ty, pos, af, none⟩) (hr : Region.ready .any ops listed = [i]) (h : Ef P env (Lr ++ Lx) op Φ)
    (hk : Φ (fun v L' => ∃ Lx', Ent L' (Lr ++ Lx') ∧ swd P ro ops Q N rds fuel (listed.setIfInBounds i true) true ((d, v) :: env) Lr Lx')) (hd : Nat.blt d N = true := by rfl) : swd P ro ops Q N rds (fuel + 1) listed true env Lr Lx := by
  intro E D a w hD hf hh hc
  have hri : i ∈ Region.ready .any ops listed := by rw [hr]; simp
  refine wpAnyE_one hi rfl hr fun K hK => h ro (some d) ty pos af none N _ a w K _ _ hf hh hk fun v w' L' ⟨Lx', he, hs⟩ h' => hK _ _ (.inl (H.left (h'.ent he))) ?_
  exact hs E D _ w' (hD.put _ _) (hf.put hd v) (h'.ent he) (hc.set hri)
/-- the one that comes next acts, and all readers stand ahead of it -/
theorem d_fin (i : Nat) {Φ : (Value → List Assn → Prop) → Prop} {L : List Assn} (hi : ops[i]? = some ⟨some d, op, ty, pos, af, none⟩) (hr : Region.ready .any ops listed = [i]) (hex : (rds.all fun r => ancB .any ops r ops.size i) = true) (hl : (bif live then Lr ++ Lx else Lx) = L) (h : Ef P env L op Φ)
    (hk : Φ (fun v L' => swd P ro ops Q N rds fuel (listed.setIfInBounds i true) false ((d, v) :: env) Lr L')) (hd : Nat.blt d N = true := by rfl) : swd P ro ops Q N rds (fuel + 1) listed live env Lr Lx := by
  intro E D a w hD hf hh hc
  have hri : i ∈ Region.ready .any ops listed := by rw [hr]; simp
  have hh' : H (E.add D) w L := by subst hl; cases live <;> exact hh
  refine wpAnyE_one hi rfl hr fun K hK => h ro (some d) ty pos af none N _ a w K _ _ hf hh' hk fun v w' L' hs h' => hK _ _ (.inr (.inl hex)) ?_
  exact hs E D _ w' (hD.put _ _) (hf.put hd v) h' (hc.set hri)
theorem d_fin0 (i : Nat) {Φ : (Value → List Assn → Prop) → Prop} {L : List Assn} (hi : ops[i]? = some ⟨none, op, ty, pos, af, none⟩) (hr : Region.ready .any ops listed = [i]) (hex : (rds.all fun r => ancB .any ops r ops.size i) = true) (hl : (bif live then Lr ++ Lx else Lx) = L) (h : Ef P env L op Φ)
    (hk : Φ (fun _ L' => swd P ro ops Q N rds fuel (listed.setIfInBounds i true) false env Lr L')) : swd P ro ops Q N rds (fuel + 1) listed live env Lr Lx := by
  intro E D a w hD hf hh hc
  have hri : i ∈ Region.ready .any ops listed := by rw [hr]; simp
  have hh' : H (E.add D) w L := by subst hl; cases live <;> exact hh
  refine wpAnyE_one hi rfl hr fun K hK => h ro none ty pos af none N _ a w K _ _ hf hh' hk fun v w' L' hs h' => hK _ _ (.inr (.inl hex)) ?_
  exact hs E D _ w' hD (hf.put0 v) h' (hc.set hri)

theorem d_nil {L : List Assn} (hr : Region.ready .any ops listed = []) (hl : (bif live then Lr ++ Lx else Lx) = L) (h : Q .normal env L) : swd P ro ops Q N rds fuel listed live env Lr Lx := by
  intro E D a w hD hf hh hc
  have hh' : H (E.add D) w L := by subst hl; cases live <;> exact hh
  have hq : PQ P E N Q .normal a w := ⟨D, env, L, hD, hf, hh', h⟩
  cases fuel with
  | zero => exact ⟨hr, hq⟩
  | succ f => exact ⟨fun _ => hq, fun i hi => by rw [hr] at hi; cases hi⟩
theorem d_sub {L : List Assn} (env' : Env) (h : Sub env env') (k : swd P ro ops Q N rds fuel listed live env' Lr L) : swd P ro ops Q N rds fuel listed live env Lr L := fun E D a w hD hf hh hc => k E D a w hD (hf.less h.spec) hh hc
theorem d_split (t : Nat) {b : Bool} (hb : look env t = some (.bool b)) (h1 : b = true → swd P ro ops Q N rds fuel listed live ((t, .bool true) :: env) Lr Lx) (h2 : b = false → swd P ro ops Q N rds fuel listed live ((t, .bool false) :: env) Lr Lx) :
    swd P ro ops Q N rds fuel listed live env Lr Lx := by
  intro E D a w hD hf hh hc
  cases b with
  | true => exact h1 rfl E D a w hD (hf.bool hb rfl) hh hc
  | false => exact h2 rfl E D a w hD (hf.bool hb rfl) hh hc
end
end SX
namespace SX
open Go

section
variable {P : Program} {env : Env} {L : List Assn}

theorem run_builtin_append {ρ : Operand → Value} {x y : Operand} {t t' : TypeId} {dst : Option Tmp} {tt : TypeId} {pos : String} {af : Array Edge} {g : Option (Nat × Bool)} {w w' : World} {v : Value}
    (h : (Builtin.append_ #[t, t'] tt #[ρ x, ρ y]).run P w = .ok v w') : (execOp ρ ⟨dst, .call { callee := .builtin .append, args := #[x, y], argTypes := #[t, t'] }, tt, pos, af, g⟩).run P w = .ok (.value v) w' := by
  simp [execOp, resolve, invoke, builtin, h]

/-- append of what a literal's fresh block holds; the block is dropped -/
theorem ef_append_lit {t e n by_ : Nat} [ht : TSl P t e n by_] {zs : List Value} [hz : TZero P e zs] {x y : Operand} {v : Value} {l sb m c sty : Nat} {xs news : List Value} {R : List Assn}
    (hx : evalE env x = some v) (hy : evalE env y = some (.slice (some ⟨sb, 0, none⟩) m c)) (hL : Split L [own e n v l xs, blk sb sty news] R) (h63 : l + m ≤ maxLen) (hby : (l + m) * by_ ≤ 140737488355328) (hzl : zs.length = n := by rfl) (hn0 : 0 < n := by decide) (hnl : news.length = m * n := by rfl) (h1 : news.all Value.oneCell' = true := by rfl) :
    Ef P env L (.call { callee := .builtin .append, args := #[x, y], argTypes := #[t, t] }) (fun k => ∀ v', (m ≠ 0 → ∃ g cap, v' = .slice (some ⟨g, 0, none⟩) (l + m) cap) → k v' (own e n v' (l + m) (xs ++ news) :: R)) := by
  intro ro dst tt pos af g N E a w next Q k hf hh hk hn
  have h2 := hh.ent hL.ent
  have hsrc : w.heap[sb]? = some (.cells news.toArray sty (0, 0)) := h2.one_get (.there .here)
  obtain ⟨v', w', hrun, h', hform⟩ := H.append (P := P) ht hz hzl hn0 h2 hsrc news hnl (fun j u hj => by rw [Nat.zero_add]; exact hj) h1 h63 hby tt
  exact wpIn_value (run_builtin_append (v := v') (w' := w') (by rw [hf.ev x _ hx, hf.ev y _ hy]; exact hrun)) <| hn _ _ _ (hk v' hform) (h'.ent (Ent.swap.trans Ent.drop))

/-- a slice of the call's own, laid open -/
theorem own_open {e n : Nat} {v : Value} {l : Nat} {xs : List Value} {m : PH} (h : Sat (own e n v l xs :: L) m) :
    (v = .slice none 0 0 ∧ l = 0 ∧ xs = []) ∨ ∃ b cap ex, v = .slice (some ⟨b, 0, none⟩) l cap ∧ l ≤ cap ∧ cap ≤ maxLen ∧ xs.length = l * n ∧ ex.length = (cap - l) * n ∧ Sat (blk b e (xs ++ ex) :: L) m := by
  obtain ⟨m1, m2, ⟨hl, ho⟩, h2, hd, s1, s2⟩ := h
  rcases ho with ⟨rfl, rfl⟩ | ⟨g, cap, cur, rfl, hg, h3, h4, h5, h6⟩
  · exact .inl ⟨rfl, rfl, List.eq_nil_of_length_eq_zero (by simpa using hl)⟩
  · refine .inr ⟨g, cap, cur.toList.drop (l * n), rfl, h3, h4, hl, ?_, m1, m2, ?_, h2, hd, s1, s2⟩
    · rw [List.length_drop, Array.length_toList, h5, Nat.sub_mul]
    · show m1 g = _
      rw [hg, ← h6, List.take_append_drop]
theorem own_close {e n b l cap : Nat} {xs ex : List Value} (hl : xs.length = l * n) (hx : ex.length = (cap - l) * n) (h1 : l ≤ cap) (h2 : cap ≤ maxLen) : Ent (blk b e (xs ++ ex) :: L) (own e n (.slice (some ⟨b, 0, none⟩) l cap) l xs :: L) :=
  Ent.imp fun m hm => ⟨hl, .inr ⟨b, cap, (xs ++ ex).toArray, rfl, hm, h1, h2, by rw [List.size_toArray, List.length_append, hl, hx, ← Nat.add_mul]; congr 1; omega, by simp [← hl]⟩⟩
/-! ### Calls through a function value, and through an interface -/
theorem args_of {xs : Array Operand} {args : List Value} {ρ : Operand → Value} (hρ : Ev ρ env) (hxs : xs.toList.map (evalE env) = args.map some) : xs.map ρ = args.toArray := by
  apply Array.ext'
  rw [Array.toList_map]
  have key : ∀ (xs : List Operand) (args : List Value), xs.map (evalE env) = args.map some → xs.map ρ = args := by
    intro xs
    induction xs with
    | nil => intro args h; cases args <;> simp_all
    | cons x xs ih =>
      intro args h
      cases args with
      | nil => simp at h
      | cons v vs =>
        simp only [List.map_cons, List.cons.injEq] at h
        rw [List.map_cons, hρ _ _ h.1, ih vs h.2]
  simpa using key xs.toList args hxs

/-- f is a function with a body -/
class Body (P : Program) (f : FuncId) : Prop where
  ok : ∃ fn, P.funcs[f]? = some fn ∧ fn.body.isNone = false ∧ (fn.name == "runtime.NumGoroutine") = false
theorem run_callFunc {f : FuncId} [hb : Body P f] (args : Array Value) (w : World) : (callFunc f args).run P w = .ok (.enter f args) w := by
  obtain ⟨fn, h1, h2, h3⟩ := hb.ok
  simp only [callFunc, Sem.run_bind, run_program, Result.andThen_ok, h1, h3, h2]
  simp

theorem ef_enter {op : Op} {f : FuncId} {args : List Value} {pre R : List Assn} {post : Value → List Assn → Prop} (h : Spec P f args pre post) (hL : Split L pre R)
    (hrun : ∀ ρ, Ev ρ env → ∀ dst ty pos af g w, (execOp ρ ⟨dst, op, ty, pos, af, g⟩).run P w = .ok (.enter f args.toArray) w) : Ef P env L op (fun k => ∀ v L', post v L' → k v (L' ++ R)) := by
  intro ro dst ty pos af g N E a w next Q k hfr hh hk hn
  refine wpIn_enter (hrun _ hfr.ev _ _ _ _ _ _) ((h.frame (hh.ent hL.ent)).mono fun e w' ⟨v, L', he, hp, h'⟩ => ⟨v, he, ?_⟩)
  exact hn v w' (L' ++ R) (hk v L' hp) h'

theorem ef_fn {f : FuncId} [hb : Body P f] {fo : Operand} {xs : Array Operand} {ats : Array TypeId} {args : List Value} {pre R : List Assn} {post : Value → List Assn → Prop}
    (h : Spec P f args pre post) (hfo : evalE env fo = some (.func (.func f) #[] #[])) (hxs : xs.toList.map (evalE env) = args.map some) (hL : Split L pre R) :
    Ef P env L (.call { callee := .value fo, args := xs, argTypes := ats }) (fun k => ∀ v L', post v L' → k v (L' ++ R)) :=
  ef_enter h hL fun ρ hρ dst ty pos af g w => by
    have e1 := args_of hρ hxs
    have e2 := hρ _ _ hfo
    simp [execOp, resolve, e2, Deferred.ofValue, invoke, e1, run_callFunc]
theorem ef_clo {f : FuncId} [hb : Body P f] {fo : Operand} {xs : Array Operand} {ats : Array TypeId} {fi ca args : List Value} {pre R : List Assn} {post : Value → List Assn → Prop}
    (h : Spec P f (fi ++ args ++ ca) pre post) (hfo : evalE env fo = some (.func (.func f) fi.toArray ca.toArray)) (hxs : xs.toList.map (evalE env) = args.map some) (hL : Split L pre R) :
    Ef P env L (.call { callee := .value fo, args := xs, argTypes := ats }) (fun k => ∀ v L', post v L' → k v (L' ++ R)) :=
  ef_enter h hL fun ρ hρ dst ty pos af g w => by
    have e1 := args_of hρ hxs
    have e2 := hρ _ _ hfo
    simp [execOp, resolve, e2, Deferred.ofValue, invoke, e1, run_callFunc]
/-- the method of a type's values -/
class Meth (P : Program) (t : TypeId) (name : String) (f : outParam FuncId) : Prop where
  ok : ∀ (k : Nat) (v : Value) (w : World), (method (k + 1) t v name).run P w = .ok (f, v) w
/-- a method of an interface's value, by its name: what the call does (the receiver may be found by way of memory, at most d steps deep) -/
def InvS (P : Program) (d : Nat) (t : TypeId) (v : Value) (name : String) (args : List Value) (pre : List Assn) (post : Value → List Assn → Prop) : Prop :=
  ∀ E w, H E w pre → ∃ f rv, (∀ k, d ≤ k → (method (k + 1) t v name).run P w = .ok (f, rv) w) ∧ Body P f ∧ Calls P f (rv :: args).toArray w fun e w' => ∃ u L', e = .returned u ∧ post u L' ∧ H E w' L'
theorem InvS.of {t : TypeId} {v : Value} {name : String} {f : FuncId} [hm : Meth P t name f] [hb : Body P f] {args : List Value} {pre : List Assn} {post : Value → List Assn → Prop} (h : Spec P f (v :: args) pre post) : InvS P 0 t v name args pre post :=
  fun E w hw => ⟨f, v, fun k _ => hm.ok k v w, hb, h E w hw⟩
theorem InvS.more {d d' : Nat} {t : TypeId} {v : Value} {name : String} {args : List Value} {pre : List Assn} {post : Value → List Assn → Prop} (h : InvS P d t v name args pre post) (hd : d ≤ d') : InvS P d' t v name args pre post := fun E w hw => by
  obtain ⟨f, rv, h1, h2⟩ := h E w hw
  exact ⟨f, rv, fun k hk => h1 k (by omega), h2⟩
theorem InvS.ent {d : Nat} {t : TypeId} {v : Value} {name : String} {args : List Value} {pre pre' : List Assn} {post post' : Value → List Assn → Prop} (h : InvS P d t v name args pre post) (h1 : Ent pre' pre) (h2 : ∀ v L, post v L → ∃ L', Ent L L' ∧ post' v L') : InvS P d t v name args pre' post' := fun E w hw => by
  obtain ⟨f, rv, k1, k2, k3⟩ := h E w (hw.ent h1)
  exact ⟨f, rv, k1, k2, k3.mono fun e w' ⟨u, L', e1, p, k⟩ => let ⟨L2, e2, p2⟩ := h2 u L' p; ⟨u, L2, e1, p2, k.ent e2⟩⟩
/-! ### The end of a function -/
inductive ResOk (P : Program) (env : Env) (L : List Assn) : List ResultVar → List Value → Prop
  | nil : ResOk P env L [] []
  | tmp {t : Nat} {v : Value} {rs : List ResultVar} {vs : List Value} (h : look env t = some v) (k : ResOk P env L rs vs) : ResOk P env L (.tmp t :: rs) (v :: vs)
  | cell {t : Nat} {ty : TypeId} {ad : Addr} {v : Value} {rs : List ResultVar} {vs : List Value} (h : look env t = some (.pointer (some ad))) (hl : Ld P L ty ad v) (k : ResOk P env L rs vs) : ResOk P env L (.cell t ty :: rs) (v :: vs)

def resV : List Value → Value
  | [v] => v
  | vs => .tuple vs.toArray
def resF (a : Act) : ResultVar → Sem Value
  | .tmp t => pure (a.tmps.getD t undef)
  | .cell c t => do loadVar t (← asAddr (a.tmps.getD c undef))
theorem resF_tmp {a : Act} {t : Nat} {v : Value} (h : a.tmps[t]? = some v) (P : Program) (w : World) : (resF a (.tmp t)).run P w = .ok v w := by simp [resF, h]
theorem resF_cell {a : Act} {t : Nat} {ad : Addr} {v : Value} {ty : TypeId} (h : a.tmps[t]? = some (.pointer (some ad))) {P : Program} {w : World} (hl : (loadVar ty ad).run P w = .ok v w) : (resF a (.cell t ty)).run P w = .ok v w := by
  simp [resF, h, asAddr, hl]
theorem run_results {fn : Func} {N : Nat} {a : Act} {E : Ctx} {w : World} {vs : List Value} (hf : Fr N a env) (hh : H E w L) (h : ResOk P env L fn.results.toList vs) : (results fn a.tmps).run P w = .ok (resV vs) w := by
  have key : ∀ (rs : List ResultVar) (vs : List Value), ResOk P env L rs vs → (rs.mapM (resF a)).run P w = .ok vs w := by
    intro rs vs h
    induction h with
    | nil => simp
    | tmp h _ ih => rw [List.mapM_cons, Sem.run_bind, resF_tmp (hf.2 _ _ h)]; simp [ih]
    | cell h hl _ ih => rw [List.mapM_cons, Sem.run_bind, resF_cell (hf.2 _ _ h) (hl E w hh)]; simp [ih]
  have k := key _ _ h
  have e : (fn.results.mapM (resF a)).run P w = .ok vs.toArray w := by
    rw [Array.mapM_eq_mapM_toList, Sem.run_map, k]; rfl
  unfold results
  rw [Sem.run_bind]
  refine Eq.trans (congrArg (fun r => Result.andThen r _) e) ?_
  simp only [Result.andThen_ok, Sem.run_pure]
  congr 1
  match vs with
  | [] => simp [resV]
  | [v] => simp [resV]
  | v :: u :: vs => simp [resV]

/-- what is to be shown where a function ends -/
def Done (P : Program) (fn : Func) (N : Nat) (post : Value → List Assn → Prop) : Post := fun e env L => (match e with | .ret | .normal => True | _ => False) ∧
        ∀ E a w, Fr N a env → H E w L → ∃ v L', (results fn a.tmps).run P w = .ok v w ∧ post v L' ∧ H E w L'
theorem done_ret {fn : Func} {N : Nat} {post : Value → List Assn → Prop} {vs : List Value} (L' : List Assn) (h : ResOk P env L fn.results.toList vs) (hp : post (resV vs) L') {R : List Assn} (hL : Split L L' R) : Done P fn N post .ret env L :=
  ⟨trivial, fun _ _ _ hf hh => ⟨_, L', run_results hf hh h, hp, hh.ent hL.ent'⟩⟩
theorem done_end {fn : Func} {N : Nat} {post : Value → List Assn → Prop} {vs : List Value} (L' : List Assn) (h : ResOk P env L fn.results.toList vs) (hp : post (resV vs) L') {R : List Assn} (hL : Split L L' R) : Done P fn N post .normal env L :=
  ⟨trivial, fun _ _ _ hf hh => ⟨_, L', run_results hf hh h, hp, hh.ent hL.ent'⟩⟩

theorem done_retE {fn : Func} {N : Nat} {post : Value → List Assn → Prop} {vs : List Value} (L' : List Assn) (h : ResOk P env L fn.results.toList vs) (hp : post (resV vs) L') (hL : Ent L L') : Done P fn N post .ret env L :=
  ⟨trivial, fun _ _ _ hf hh => ⟨_, L', run_results hf hh h, hp, hh.ent hL⟩⟩
theorem done_endE {fn : Func} {N : Nat} {post : Value → List Assn → Prop} {vs : List Value} (L' : List Assn) (h : ResOk P env L fn.results.toList vs) (hp : post (resV vs) L') (hL : Ent L L') : Done P fn N post .normal env L :=
  ⟨trivial, fun _ _ _ hf hh => ⟨_, L', run_results hf hh h, hp, hh.ent hL⟩⟩
/-- the marks are met on the way out -/
theorem run_takeDeferred {w : World} {r : Nat} (h : w.heap[r]? = some (.deferred (some []))) : (Instr.takeDeferred r).run P w = .ok [] { w with heap := w.heap.setIfInBounds r (.deferred none) } := by
  simp [Instr.takeDeferred, getObj, setObj, Sem.run, h]
theorem unwinds {E : Ctx} {cs : List Frame} {ds : List Deferred} {D : List Nat} (hD : Dfs P ds D) : ∀ (fr : Frame) (w : World), fr.mode = .returning → fr.defers = ds → H (E.add D) w L →
    ∃ w', H E w' L ∧ Steps P (lone fr cs w) (lone { fr with defers := [] } cs w') := by
  induction hD with
  | nil =>
    intro fr w _ hd hh
    refine ⟨w, hh, ?_⟩
    have : { fr with defers := [] } = fr := by cases fr; simp_all
    rw [this]; exact .refl _ _
  | @mark ds D _ r ih =>
    intro fr w hm hd hh
    have hr : w.heap[r]? = some (.deferred (some [])) := by
      obtain ⟨m1, m2, h1, _, _, s1, _⟩ := hh.2.2.2.2
      exact s1 r _ h1
    have hh' : H (E.add D) { w with heap := w.heap.setIfInBounds r (.deferred none) } L := by
      obtain ⟨k1, k2, k3, k4, m1, m2, h1, h2, hd', s1, s2⟩ := hh
      refine ⟨k1, k2, k3, by simpa [Ctx.add] using k4, h2.mono fun b o hb => ?_⟩
      have hne : b ≠ r := by
        rintro rfl
        rcases hd' b with h | h
        · unfold one at h1; rw [h1] at h; cases h
        · rw [h] at hb; cases hb
      show (w.heap.setIfInBounds r _)[b]? = some o
      rw [Array.getElem?_setIfInBounds_ne (Ne.symm hne)]
      exact s2 b o hb
    obtain ⟨w', hw', hs⟩ := ih { fr with defers := ds } _ hm rfl hh'
    refine ⟨w', hw', .head (step_collected (d := SX.mark r) (ds := ds) (calls := []) (by rw [hm]; intro h; cases h) hd rfl (run_takeDeferred hr)) ?_⟩
    exact hs
  | @clo d ds D hc _ ih =>
    intro fr w hm hd hh
    obtain ⟨fv, cap, f, args, ht, hw⟩ := hc
    obtain ⟨hi, hcall⟩ := hw w
    obtain ⟨e, u', w', frX, ⟨⟨v, rfl⟩, rfl, rfl⟩, hsteps, hk, hgo⟩ := hcall { fr with defers := ds } cs hm
    obtain ⟨w2, hw2, hs⟩ := ih { fr with defers := ds } w' hm rfl hh
    have h1 := step_defer (cs := cs) (by rw [hm]; intro h; cases h) hd ht hi
    have h2 := step_going_returned (c := { { fr with defers := ds } with mode := .returning }) (cs := cs) hk hgo
    have e1 : ({ { { fr with defers := ds } with mode := FrameMode.returning } with mode := settle FrameMode.returning } : Frame) = { fr with defers := ds } := by cases fr; simp_all [settle]
    rw [e1] at h2
    exact ⟨w2, hw2, .head h1 (Steps.trans hsteps (.head h2 hs))⟩

theorem Spec.of {f : FuncId} {fn : Func} {c : Code} {args : List Value} {pre : List Assn} {post : Value → List Assn → Prop} (N : Nat)
    (hf : P.funcs[f]? = some fn) (hb : fn.body = some c) (hn : fn.ntmps = N) (hle : Nat.ble args.length N = true) (h : swp P none c (Done P fn N post) N (envOf 0 args) pre) : Spec P f args pre post := by
  intro E w hw cs
  have hle' : args.length ≤ N := Nat.le_of_ble_eq_true hle
  let b : Frame := { (default : Frame) with fn := f, kind := .normal, roundOf := none }
  let a₀ : Act := { tmps := args.toArray ++ Array.replicate (fn.ntmps - args.toArray.size) undef, defers := [] }
  have hfr : Fr N a₀ (envOf 0 args) := by
    refine ⟨by simp [a₀, hn]; omega, fun t v hv => ?_⟩
    have ⟨_, h2⟩ := look_envOf 0 args t v hv
    simp only [Nat.sub_zero] at h2
    have hlt : t < args.length := by
      rcases Nat.lt_or_ge t args.length with h | h
      · exact h
      · rw [List.getElem?_eq_none h] at h2; cases h2
    simp only [a₀]
    rw [Array.getElem?_append_left (by simpa using hlt)]
    simpa using h2
  have henter : Frame.enter P f args.toArray .normal = b.atR a₀ [.code c] := by
    simp [Frame.enter, Frame.atR, hf, hb, b, a₀]
  obtain ⟨e, a', w', hq, harr⟩ := h E [] a₀ w .nil hfr hw b [] cs rfl trivial (room_wide _)
  rw [← henter] at harr
  -- from a frame on its way out
  have done : ∀ (fr : Frame), fr.fn = f → fr.tmps = a'.tmps → fr.kind = .normal → fr.mode = .returning → fr.defers = a'.defers → Steps P (lone (Frame.enter P f args.toArray .normal) cs w) (lone fr cs w') →
      (∃ D env L, Dfs P a'.defers D ∧ Fr N a' env ∧ H (E.add D) w' L ∧ (True ∧ ∀ E a w, Fr N a env → H E w L → ∃ v L', (results fn a.tmps).run P w = .ok v w ∧ post v L' ∧ H E w L')) →
      ∃ e w' fr, (∃ v L', e = .returned v ∧ post v L' ∧ H E w' L') ∧ Comes P (lone (Frame.enter P f args.toArray .normal) cs w) (lone fr cs w') e ∧ fr.fn = f ∧ fr.leaving P w' e := by
    rintro fr e1 e2 e3 e4 e5 hs ⟨D, env, L, hD, hF, hH, _, k⟩
    obtain ⟨w₂, hw₂, hs₂⟩ := unwinds (P := P) (cs := cs) hD fr w' e4 e5 hH
    obtain ⟨v, L', hr, hp, hh⟩ := k E a' w₂ hF hw₂
    exact ⟨.returned v, w₂, { fr with defers := [] }, ⟨v, L', rfl, hp, hh⟩, hs.trans hs₂, e1, e4, rfl, e3, fn, by rw [e1]; exact hf, by rw [e2]; exact hr⟩
  cases e with
  | normal => exact done { b.atR a' [] with mode := .returning } rfl rfl rfl rfl rfl (Steps.trans harr.steps (.one (stepR_end rfl))) hq
  | ret =>
    obtain ⟨todo, hs⟩ := harr.1 rfl
    exact done { b.atR a' todo with mode := .returning } rfl rfl rfl rfl rfl hs.steps hq
  | exit id => obtain ⟨_, _, _, _, _, _, h, _⟩ := hq; exact h.elim
  | goto l => obtain ⟨_, _, _, _, _, _, h, _⟩ := hq; exact h.elim
  | panic c => exact hq.elim
  | outgrown => exact hq.elim

/-- L1 and L2, one list -/
class AppC (L1 L2 : List Assn) (L3 : outParam (List Assn)) : Prop where
  ok : L1 ++ L2 = L3
instance AppC.nil {L : List Assn} : AppC [] L L := ⟨rfl⟩
instance AppC.cons {A : Assn} {L1 L2 L3 : List Assn} [h : AppC L1 L2 L3] : AppC (A :: L1) L2 (A :: L3) := ⟨by rw [List.cons_append, h.ok]⟩
instance (priority := low) AppC.right {L : List Assn} : AppC L [] L := ⟨List.append_nil L⟩
section
variable {ro : Option Nat} {ops : Array Oper} {Q : Post} {N : Nat} {rds : List Nat} {fuel : Nat} {listed : Array Bool} {live : Bool} {Lr Lx L' : List Assn} {d : Nat} {op : Op} {ty : TypeId} {pos : String} {af : Array Edge}
theorem d_fint (i : Nat) {Φ : (Value → List Assn → Prop) → Prop} (hi : ops[i]? = some ⟨some d, op, ty, pos, af, none⟩) (hr : Region.ready .any ops listed = [i]) (hex : (rds.all fun r => ancB .any ops r ops.size i) = true) [hl : AppC Lr Lx L'] (h : Ef P env L' op Φ)
    (hk : Φ (fun v L'' => swd P ro ops Q N rds fuel (listed.setIfInBounds i true) false ((d, v) :: env) Lr L'')) (hd : Nat.blt d N = true := by rfl) : swd P ro ops Q N rds (fuel + 1) listed true env Lr Lx := d_fin i hi hr hex hl.ok h hk hd
theorem d_finf (i : Nat) {Φ : (Value → List Assn → Prop) → Prop} (hi : ops[i]? = some ⟨some d, op, ty, pos, af, none⟩) (hr : Region.ready .any ops listed = [i]) (hex : (rds.all fun r => ancB .any ops r ops.size i) = true) (h : Ef P env Lx op Φ)
    (hk : Φ (fun v L'' => swd P ro ops Q N rds fuel (listed.setIfInBounds i true) false ((d, v) :: env) Lr L'')) (hd : Nat.blt d N = true := by rfl) : swd P ro ops Q N rds (fuel + 1) listed false env Lr Lx := d_fin i hi hr hex rfl h hk hd
theorem d_fin0t (i : Nat) {Φ : (Value → List Assn → Prop) → Prop} (hi : ops[i]? = some ⟨none, op, ty, pos, af, none⟩) (hr : Region.ready .any ops listed = [i]) (hex : (rds.all fun r => ancB .any ops r ops.size i) = true) [hl : AppC Lr Lx L'] (h : Ef P env L' op Φ)
    (hk : Φ (fun _ L'' => swd P ro ops Q N rds fuel (listed.setIfInBounds i true) false env Lr L'')) : swd P ro ops Q N rds (fuel + 1) listed true env Lr Lx := d_fin0 i hi hr hex hl.ok h hk
theorem d_fin0f (i : Nat) {Φ : (Value → List Assn → Prop) → Prop} (hi : ops[i]? = some ⟨none, op, ty, pos, af, none⟩) (hr : Region.ready .any ops listed = [i]) (hex : (rds.all fun r => ancB .any ops r ops.size i) = true) (h : Ef P env Lx op Φ)
    (hk : Φ (fun _ L'' => swd P ro ops Q N rds fuel (listed.setIfInBounds i true) false env Lr L'')) : swd P ro ops Q N rds (fuel + 1) listed false env Lr Lx := d_fin0 i hi hr hex rfl h hk
theorem d_eft (i : Nat) {Φ : (Value → List Assn → Prop) → Prop} (hi : ops[i]? = some ⟨some d, op, ty, pos, af, none⟩) (hr : Region.ready .any ops listed = [i]) [hl : AppC Lr Lx L'] (h : Ef P env L' op Φ)
    (hk : Φ (fun v L'' => ∃ Lx', Ent L'' (Lr ++ Lx') ∧ swd P ro ops Q N rds fuel (listed.setIfInBounds i true) true ((d, v) :: env) Lr Lx')) (hd : Nat.blt d N = true := by rfl) : swd P ro ops Q N rds (fuel + 1) listed true env Lr Lx := d_ef i hi hr (by rw [hl.ok]; exact h) hk hd
theorem d_nilt [hl : AppC Lr Lx L'] (hr : Region.ready .any ops listed = []) (h : Q .normal env L') : swd P ro ops Q N rds fuel listed true env Lr Lx := d_nil hr hl.ok h
theorem d_nilf (hr : Region.ready .any ops listed = []) (h : Q .normal env Lx) : swd P ro ops Q N rds fuel listed false env Lr Lx := d_nil hr rfl h
theorem swd_app {L1 L2 L3 : List Assn} [h : AppC L1 L2 L3] (k : swd P ro ops Q N rds fuel listed live env Lr L3) : swd P ro ops Q N rds fuel listed live env Lr (L1 ++ L2) := by rw [h.ok]; exact k
end
theorem swl_app {ro : Option Nat} {ops : Array Oper} {Q : Post} {N : Nat} {l : List Oper} {L1 L2 L3 : List Assn} [h : AppC L1 L2 L3] (k : swl P ro ops Q N l env L3) : swl P ro ops Q N l env (L1 ++ L2) := by rw [h.ok]; exact k
theorem swp_app {ro : Option Nat} {Q : Post} {N : Nat} {c : Code} {L1 L2 L3 : List Assn} [h : AppC L1 L2 L3] (k : swp P ro c Q N env L3) : swp P ro c Q N env (L1 ++ L2) := by rw [h.ok]; exact k

/-! ### Assertions put together -/
def exA {α : Type} (F : α → List Assn) : Assn := fun m => ∃ x, Sat (F x) m
theorem sat_append {L1 L2 : List Assn} : ∀ {m1 m2 m : PH}, Sat L1 m1 → Sat L2 m2 → (∀ b, m1 b = none ∨ m2 b = none) → (∀ b o, m1 b = some o → m b = some o) → (∀ b o, m2 b = some o → m b = some o) → Sat (L1 ++ L2) m := by
  induction L1 with
  | nil => intro m1 m2 m _ h2 _ _ s2; exact h2.mono s2
  | cons A L1 ih =>
    intro m1 m2 m ⟨a1, a2, ha, hL, hd, t1, t2⟩ h2 hdis s1 s2
    have key : Sat (L1 ++ L2) (a2.or m2) := ih hL h2 (fun b => by
      rcases hdis b with h | h
      · left
        cases h' : a2 b with
        | none => rfl
        | some o => rw [t2 b o h'] at h; cases h
      · exact .inr h) (fun b o h => PH.or_left h) (fun b o h => PH.or_right (fun b => by
      rcases hdis b with h | h
      · left
        cases h' : a2 b with
        | none => rfl
        | some o => rw [t2 b o h'] at h; cases h
      · exact .inr h) h)
    refine ⟨a1, a2.or m2, ha, key, fun b => ?_, fun b o h => s1 b o (t1 b o h), fun b o h => ?_⟩
    · cases h1 : a1 b with
      | none => exact .inl rfl
      | some o =>
        right
        have e1 : a2 b = none := (hd b).resolve_left (by rw [h1]; simp)
        have e2 : m2 b = none := (hdis b).resolve_left (by rw [t1 b o h1]; simp)
        simp [PH.or, e1, e2]
    · rcases PH.or_inv h with h | h
      · exact s1 b o (t2 b o h)
      · exact s2 b o h
theorem sat_split {L1 L2 : List Assn} : ∀ {m : PH}, Sat (L1 ++ L2) m → ∃ m1 m2, Sat L1 m1 ∧ Sat L2 m2 ∧ (∀ b, m1 b = none ∨ m2 b = none) ∧ (∀ b o, m1 b = some o → m b = some o) ∧ (∀ b o, m2 b = some o → m b = some o) := by
  induction L1 with
  | nil => intro m h; exact ⟨fun _ => none, m, trivial, h, fun _ => .inl rfl, fun _ _ h => by (cases h), fun _ _ h => h⟩
  | cons A L1 ih =>
    intro m ⟨a1, a2, ha, hL, hd, t1, t2⟩
    obtain ⟨n1, n2, h1, h2, hdn, u1, u2⟩ := ih hL
    have ap : ∀ b, a1 b = none ∨ n1 b = none := fun b => (hd b).imp_right fun h => by
      cases h' : n1 b with
      | none => rfl
      | some o => rw [u1 b o h'] at h; cases h
    refine ⟨a1.or n1, n2, ⟨a1, n1, ha, h1, ap, fun b o h => PH.or_left h, fun b o h => PH.or_right ap h⟩, h2, fun b => ?_, fun b o h => ?_, fun b o h => t2 b o (u2 b o h)⟩
    · cases h' : n2 b with
      | none => exact .inr rfl
      | some o =>
        left
        have e1 : a1 b = none := (hd b).resolve_right (by rw [u2 b o h']; simp)
        have e2 : n1 b = none := (hdn b).resolve_right (by rw [h']; simp)
        simp [PH.or, e1, e2]
    · rcases PH.or_inv h with h | h
      · exact t1 b o h
      · exact t2 b o (u1 b o h)
theorem exA_open {α : Type} {F : α → List Assn} {m : PH} (h : Sat (exA F :: L) m) : ∃ x, Sat (F x ++ L) m := by
  obtain ⟨m1, m2, ⟨x, hx⟩, h2, hd, s1, s2⟩ := h
  exact ⟨x, sat_append hx h2 hd s1 s2⟩
theorem exA_close {α : Type} {F : α → List Assn} (x : α) : Ent (F x ++ L) (exA F :: L) := fun m h => by
  obtain ⟨m1, m2, h1, h2, hd, s1, s2⟩ := sat_split h
  exact ⟨m1, m2, ⟨x, h1⟩, h2, hd, s1, s2⟩
theorem Ent.one {A : Assn} {R : List Assn} : Ent (A :: R) [A] := Ent.cons fun _ _ => trivial
theorem ent_ex {α : Type} {F : α → List Assn} {R : List Assn} (x : α) (h : Split L (F x) R) : Ent L (exA F :: R) := h.ent.trans (exA_close x)
theorem swp_ex {ro : Option Nat} {α : Type} {F : α → List Assn} {c : Code} {Q : Post} {N : Nat} (h : ∀ x, swp P ro c Q N env (F x ++ L)) : swp P ro c Q N env (exA F :: L) := fun E D a w hd hf hh => by
  obtain ⟨k1, k2, k3, k4, k5⟩ := hh
  have k6 : Sat (exA F :: ((E.add D).X ++ L)) (fun b => w.heap[b]?) := Sat.perm (perm_out (.refl _)) _ k5
  obtain ⟨x, hx⟩ := exA_open k6
  exact h x E D a w hd hf ⟨k1, k2, k3, k4, Sat.perm (by rw [← List.append_assoc, ← List.append_assoc]; exact List.Perm.append_right _ List.perm_append_comm) _ hx⟩
end
theorem not_t {b : Bool} (h : (!b) = true) : b = false := by cases b <;> simp_all
theorem not_f {b : Bool} (h : (!b) = false) : b = true := by cases b <;> simp_all
/-! ### Rows of cells -/
section
variable {β : Type} {f : β → List Value} {k : Nat}
theorem flat_length (hk : ∀ e, (f e).length = k) : ∀ es : List β, (es.flatMap f).length = es.length * k
  | [] => by simp
  | e :: es => by rw [List.flatMap_cons, List.length_append, hk, flat_length hk es, List.length_cons, Nat.succ_mul]; omega
theorem flat_get (hk : ∀ e, (f e).length = k) : ∀ (es : List β) (ex : List Value) (i : Nat) (e : β), es[i]? = some e → ∀ j v, (f e)[j]? = some v → (es.flatMap f ++ ex)[i * k + j]? = some v
  | [], _, _, _, h => by simp at h
  | e' :: es, ex, 0, e, h => fun j v hv => by
    simp at h; subst h
    have hj : j < (f e').length := (List.getElem?_eq_some_iff.1 hv).1
    rw [List.flatMap_cons, List.append_assoc, Nat.zero_mul, Nat.zero_add, List.getElem?_append_left hj]; exact hv
  | e' :: es, ex, i + 1, e, h => fun j v hv => by
    rw [List.flatMap_cons, List.append_assoc, List.getElem?_append_right (by rw [hk, Nat.succ_mul]; omega), hk]
    rw [show (i + 1) * k + j - k = i * k + j by rw [Nat.succ_mul]; omega]
    exact flat_get hk es ex i e (by simpa using h) j v hv
end
end SX
namespace SX
open Go
theorem kr0 {p : Prop} (h : p := by kernel_rfl) : p := h
theorem om0 {p : Prop} (h : p := by omega) : p := h
theorem sp0 {L K R : List Assn} (h : Split L K R := by repeat (first | exact Split.nil | (apply Split.cons; (repeat (first | with_reducible exact Take.here | apply Take.there))))) : Split L K R := h
theorem tk0 {A : Assn} {L R : List Assn} (h : Take A L R := by repeat (first | with_reducible exact Take.here | apply Take.there)) : Take A L R := h
theorem sc0 {env env' : Env} (t : Nat) {v : Value} (h : look env t = some v) (h' : Sub env env') : Sub env ((t, v) :: env') := .cons h h'
section
variable {P : Program} {ro : Option Nat} {ops : Array Oper} {Q : Post} {N : Nat} {env : Env} {L : List Assn}
theorem s_mv {rest : List Oper} {x : Operand} {v : Value} {d : Nat} {ty : TypeId} {pos : String} {af : Array Edge} (h : evalE env x = some v) (k : swl P ro ops Q N rest ((d, v) :: env) L) (hd : Nat.blt d N = true := by rfl) :
    swl P ro ops Q N (⟨some d, .move x, ty, pos, af, none⟩ :: rest) env L := s_pu (pu_move h) k hd
theorem s_as {rest : List Oper} {x : Operand} {v : Value} {d : Nat} {ty : TypeId} {pos : String} {af : Array Edge} (h : evalE env x = some v) (k : swl P ro ops Q N rest ((d, v) :: env) L) (hd : Nat.blt d N = true := by rfl) :
    swl P ro ops Q N (⟨some d, .assign x, ty, pos, af, none⟩ :: rest) env L := s_pu (pu_assign h) k hd
theorem swp_sr {id : Nat} {l : List Oper} {y : Code} (h : swl P ro l.toArray (SThen (swp P ro y Q N) Q) N l env L) : swp P ro (.seq (.region id l.toArray false) y) Q N env L := swp_seq (swp_region h)
theorem swl_nn {k : Env → List Assn → Prop} (h : k env L) : swl P ro ops (SThen k Q) N [] env L := swl_nil (then_n h)
end
section
variable {P : Program} {ro : Option Nat} {ops : Array Oper} {Q : Post} {N : Nat} {env env' : Env} {L : List Assn}
end
section
variable {P : Program} {ro : Option Nat} {ops : Array Oper} {Q : Post} {N : Nat} {rds : List Nat} {fuel : Nat} {listed : Array Bool} {live : Bool} {env env' : Env} {Lr L : List Assn}
variable {d : Nat} {op : Op} {ty : TypeId} {pos : String} {af : Array Edge} {v : Value}
end
end SX
namespace SX
open Go
variable {P : Program} {env : Env}

end SX
namespace SX
open Go
variable {P : Program} {Q : Post} {N : Nat} {env : Env} {L : List Assn}

def star (K : List Assn) : Assn := Sat K
theorem star_open {K L : List Assn} {m : PH} (h : Sat (star K :: L) m) : Sat (K ++ L) m := by
  have := exA_open (α := Unit) (F := fun _ => K) (L := L) (m := m) (h.imp fun _ k => ⟨(), k⟩)
  obtain ⟨_, h⟩ := this
  exact h
theorem star_close {K L : List Assn} : Ent (K ++ L) (star K :: L) := fun m h => ((exA_close (F := fun _ : Unit => K) (L := L) ()) m h).imp fun _ ⟨_, k⟩ => k
theorem star_ent {K L : List Assn} : Ent (star K :: L) (K ++ L) := fun _ h => star_open h

theorem star_close1 {K : List Assn} : Ent K [star K] := fun m h => star_close (L := []) m (by rw [List.append_nil]; exact h)

/-- a value of yield -/
def yv (l : Nat) : Value := .func (.yield l) #[] #[]
/-- one round, seen from the iterator -/
def YSp (P : Program) (l : Nat) (args : List Value) (pre : List Assn) (post : Value → List Assn → Prop) : Prop :=
  ∀ E w, H E w pre → ∃ f tmps assign body, (Instr.yield l args.toArray).run P w = .ok (.round l f tmps assign body) w ∧
    ∀ ro, RoundIn (FW ro) 0 P l f tmps assign body w fun e w' => ∃ v L', e = .returned v ∧ post v L' ∧ H E w' L'
theorem YSp.mono {l : Nat} {args : List Value} {pre : List Assn} {post post' : Value → List Assn → Prop} (h : YSp P l args pre post) (hh : ∀ v L, post v L → post' v L) : YSp P l args pre post' := fun E w hw => by
  obtain ⟨f, t, a, b, h1, h2⟩ := h E w hw
  exact ⟨f, t, a, b, h1, fun ro => (h2 ro).mono fun e w' ⟨v, L', e1, p, k⟩ => ⟨v, L', e1, hh _ _ p, k⟩⟩

theorem ef_yield {l : Nat} {fo : Operand} {xs : Array Operand} {ats : Array TypeId} {args : List Value} {pre R : List Assn} {post : Value → List Assn → Prop}
    (h : YSp P l args pre post) (hfo : evalE env fo = some (yv l)) (hxs : xs.toList.map (evalE env) = args.map some) (hL : Split L pre R) :
    Ef P env L (.call { callee := .value fo, args := xs, argTypes := ats }) (fun k => ∀ v L', post v L' → k v (L' ++ R)) := by
  intro ro dst ty pos af g N E a w next Q k hfr hh hk hn
  obtain ⟨f, tmps, assign, body, h1, h2⟩ := h _ w (hh.ent hL.ent).hide
  have hr : (execOp a.eval ⟨dst, .call { callee := .value fo, args := xs, argTypes := ats }, ty, pos, af, g⟩).run P w = .ok (.round l f tmps assign body) w := by
    have e1 := args_of hfr.ev hxs
    have e2 := hfr.ev _ _ hfo
    simp [execOp, resolve, e2, yv, Deferred.ofValue, invoke, e1, h1]
  refine ⟨fun _ _ => trivial, ?_⟩
  rw [Oper.semAt_eq _ _ _ (not_defer (by intro d hd; cases hd) hr), hr]
  refine ⟨fun hd => (by cases hd), (h2 ro).mono fun e w' ⟨v, L', he, hp, h'⟩ => ?_⟩
  subst he
  exact hn v w' (L' ++ R) (hk v L' hp) h'.show_

/-! ### the rounds -/
def bindE : List Tmp → List Value → Env → Env
  | t :: ts, v :: vs, env => bindE ts vs ((t, v) :: env)
  | _, _, env => env
def bindT : List Tmp → List Value → Array Value → Array Value
  | t :: ts, v :: vs, a => bindT ts vs (a.setIfInBounds t v)
  | _, _, a => a
theorem bindT_eq : ∀ (ps : List Tmp) (vs : List Value) (a : Array Value), (ps.toArray.zip vs.toArray).foldl (fun t (x : Tmp × Value) => t.setIfInBounds x.1 x.2) a = bindT ps vs a := by
  intro ps vs a
  rw [← Array.foldl_toList]
  simp only [Array.toList_zip]
  induction ps generalizing vs a with
  | nil => simp [bindT]
  | cons t ps ih =>
    cases vs with
    | nil => simp [bindT]
    | cons v vs => simpa [bindT] using ih vs _
theorem Fr.bind : ∀ (ps : List Tmp) (vs : List Value) (a : Array Value) (env : Env) (ds : List Deferred), ps.all (Nat.blt · N) = true → Fr N { tmps := a, defers := ds } env → Fr N { tmps := bindT ps vs a, defers := ds } (bindE ps vs env)
  | [], _, _, _, _, _, h => by simpa [bindT, bindE] using h
  | _ :: _, [], _, _, _, _, h => by simpa [bindT, bindE] using h
  | t :: ps, v :: vs, a, env, ds, hp, h => by
    simp only [List.all_cons, Bool.and_eq_true] at hp
    exact Fr.bind ps vs _ _ ds hp.2 (h.put hp.1 v)

def RecOf (rec : LoopState → Option Code → Loop) (N : Nat) (env : Env) (ps : List Tmp) (assign body : Code) : Prop :=
  ∃ fn tmps D, Fr N { tmps := tmps, defers := [] } env ∧ rec = fun st pe => { state := st, pending := pe, fn, tmps, params := ps.toArray, assign, body, defers := D }
def lp (rec : LoopState → Option Code → Loop) (l : Nat) (st : LoopState) (pe : Option Code) : Assn := one l (.loop (rec st pe))

/-- how a round may end -/
def RndQ (C : Assn) (Cr : Assn) (Cx : Nat → Assn) : Post
  | .normal, _, L => Ent L [C]
  | .ret, _, L => Ent L [Cr]
  | .exit i, _, L => Ent L [Cx i]
  | _, _, _ => False
theorem rnd_n {C Cr : Assn} {Cx : Nat → Assn} (h : Ent L [C]) : RndQ C Cr Cx .normal env L := h
theorem rnd_x {C Cr : Assn} {Cx : Nat → Assn} {i : Nat} (h : Ent L [Cx i]) : RndQ C Cr Cx (.exit i) env L := h

/-- what a loop that is left leaves -/
def Left (rec : LoopState → Option Code → Loop) (l : Nat) (Cr : Assn) (Cx : Nat → Assn) : Assn := fun m =>
  Sat [lp rec l .done (some .ret), Cr] m ∨ ∃ i, Sat [lp rec l .done (some (.exit i)), Cx i] m

theorem H.drop {E : Ctx} {w : World} {L R : List Assn} (h : H E w (L ++ R)) : H E w L := h.ent (by
  have key : ∀ K : List Assn, Ent (K ++ R) K := fun K => by
    induction K with
    | nil => exact fun _ _ => trivial
    | cons A K ih => exact Ent.cons ih
  exact key L)
theorem H.undfr {E : Ctx} {D : List Nat} {w : World} {L : List Assn} (h : H (E.add D) w L) : H E w L :=
  ⟨h.1, h.2.1, h.2.2.1, h.2.2.2.1, by
    have k := h.2.2.2.2
    have k2 : Sat (dfr D ++ (E.X ++ L)) (fun b => w.heap[b]?) := by rw [← List.append_assoc]; exact k
    have key : ∀ (X K : List Assn) m, Sat (X ++ K) m → Sat K m := fun X K => by
      induction X with
      | nil => exact fun _ h => h
      | cons A X ih => exact fun m h => ih m h.tail
    exact key _ _ _ k2⟩

theorem H.loop {E : Ctx} {w : World} {L : List Assn} {l : Nat} {r r' : Loop} (h : H E w (one l (.loop r) :: L)) : H E (w.putObj l (.loop r')) (one l (.loop r') :: L) := by
  have hb := h.one_get .here
  refine h.upd (.here) _ rfl rfl rfl (by simp) (World.putObj_heap_same (Array.getElem?_eq_some_iff.1 hb).1) fun k hk => World.putObj_heap_other hk

theorem ysp_round {rec : LoopState → Option Code → Loop} {l : Nat} {ps : List Tmp} {assign body : Code} (hrec : RecOf rec N env ps assign body) {args : List Value} {Ci C Cr : Assn} {Cx : Nat → Assn}
    (hlen : args.length = ps.length) (hps : ps.all (Nat.blt · N) = true)
    (h : swp P (some l) assign (SThen (fun env' L' => swp P (some l) body (RndQ C Cr Cx) N env' L') (fun _ _ _ => False)) N (bindE ps args env) [Ci]) :
    YSp P l args [star [lp rec l .ready none, Ci]] (fun v L' => (v = .bool true ∧ L' = [star [lp rec l .ready none, C]]) ∨ (v = .bool false ∧ L' = [Left rec l Cr Cx])) := by
  intro E w hw
  obtain ⟨fn, tmps, DD, hfr, hreq⟩ := hrec
  have hw1 : H E w [lp rec l .ready none, Ci] := hw.ent (star_ent (L := []))
  have hl := hw1.one_get .here
  have p1 : (rec .ready none).params = ps.toArray := by rw [hreq]
  have p2 : (rec .ready none).tmps = tmps := by rw [hreq]
  have p3 : (rec .ready none).assign = assign := by rw [hreq]
  have p4 : (rec .ready none).body = body := by rw [hreq]
  have p5 : (rec .ready none).state = .ready := by rw [hreq]
  have p6 : ({ rec .ready none with state := .busy } : Loop) = rec .busy none := by rw [hreq]
  refine ⟨_, _, _, _, run_yield hl (by rw [p1]; simpa using hlen), fun ro => ?_⟩
  have h0 := bindT_eq ps args tmps
  rw [p1, p2, p3, p4]
  refine roundIn_of_wpIn (F := FW ro) trivial ?_
  have hfr' := Fr.bind ps args tmps env [] hps hfr
  have hw2 : H (Ctx.add ⟨E.w, E.X ++ [lp rec l .ready none]⟩ []) w [Ci] := H.hide (L := [Ci]) (R := [lp rec l .ready none]) (hw1.ent (Ent.perm (.swap _ _ _)))
  have key := h ⟨E.w, E.X ++ [lp rec l .ready none]⟩ [] { tmps := bindT ps args tmps, defers := [] } w .nil hfr' hw2
  rw [← h0] at key
  refine wpIn_mono key fun e a' w' hq => ?_
  cases e with
  | normal =>
    obtain ⟨D', env', L', d', f', h', k⟩ := hq
    have g1 : H ⟨E.w, E.X ++ [lp rec l .ready none]⟩ w' L' := h'.undfr
    have g2 : H E w' (lp rec l .ready none :: L') := (g1.show_).ent (Ent.perm List.perm_append_comm)
    have hl' := g2.one_get .here
    refine ⟨_, run_beginRound hl' p5, ?_⟩
    rw [p6]
    have h1 : H (Ctx.add ⟨E.w, E.X ++ [lp rec l .busy none]⟩ D') (w'.putObj l (.loop (rec .busy none))) L' := by
      have a1 : H ⟨E.w, dfr D' ++ E.X⟩ w' (one l (.loop (rec .ready none)) :: L') := by
        refine ⟨h'.1, h'.2.1, h'.2.2.1, h'.2.2.2.1, Sat.perm ?_ _ h'.2.2.2.2⟩
        show ((dfr D' ++ (E.X ++ [_])) ++ L').Perm ((dfr D' ++ E.X) ++ (_ :: L'))
        simp only [List.append_assoc, List.singleton_append]
        exact .refl _
      have a2 := a1.loop (r' := rec .busy none)
      refine ⟨a2.1, a2.2.1, a2.2.2.1, a2.2.2.2.1, Sat.perm ?_ _ a2.2.2.2.2⟩
      show ((dfr D' ++ E.X) ++ (_ :: L')).Perm ((dfr D' ++ (E.X ++ [_])) ++ L')
      simp only [List.append_assoc, List.singleton_append]
      exact .refl _
    refine wpIn_mono (k _ D' a' _ d' f' h1) fun e2 a2 w2 hq2 => ?_
    have fin : ∀ {D2 : List Nat} {L2 : List Assn} {C2 : Assn} (jump : Option Code), H (Ctx.add ⟨E.w, E.X ++ [lp rec l .busy none]⟩ D2) w2 L2 → Ent L2 [C2] →
        ∃ w3, (Instr.endRound l jump).run P w2 = .ok (.bool jump.isNone) w3 ∧ H E w3 [lp rec l (if jump.isNone then .ready else .done) jump, C2] := by
      intro D2 L2 C2 jump hh he
      have b1 : H E w2 [lp rec l .busy none, C2] := ((hh.undfr.ent he).show_).ent (Ent.perm List.perm_append_comm)
      have b2 := b1.loop (r' := rec (if jump.isNone then .ready else .done) jump)
      have b3 := run_endRound (P := P) jump (b1.one_get .here)
      refine ⟨_, b3, ?_⟩
      have e9 : ({ rec .busy none with state := if jump.isNone then .ready else .done, pending := jump } : Loop) = rec (if jump.isNone then .ready else .done) jump := by rw [hreq]
      rw [e9]; exact b2
    cases e2 with
    | normal =>
      obtain ⟨D2, env2, L2, d2, f2, h2, k2⟩ := hq2
      obtain ⟨w3, r3, h3⟩ := fin none h2 k2
      exact ⟨_, w3, r3, _, _, rfl, .inl ⟨rfl, rfl⟩, h3.ent star_close1⟩
    | ret =>
      obtain ⟨D2, env2, L2, d2, f2, h2, k2⟩ := hq2
      obtain ⟨w3, r3, h3⟩ := fin (some .ret) h2 k2
      exact ⟨_, w3, r3, _, _, rfl, .inr ⟨rfl, rfl⟩, (h3.ent star_close1).ent (Ent.imp fun m hm => .inl hm)⟩
    | exit i =>
      obtain ⟨D2, env2, L2, d2, f2, h2, k2⟩ := hq2
      obtain ⟨w3, r3, h3⟩ := fin (some (.exit i)) h2 k2
      exact ⟨_, w3, r3, _, _, rfl, .inr ⟨rfl, rfl⟩, (h3.ent star_close1).ent (Ent.imp fun m hm => .inr ⟨i, hm⟩)⟩
    | goto t => obtain ⟨D2, env2, L2, d2, f2, h2, k2⟩ := hq2; exact k2.elim
    | panic c => exact hq2.elim
    | outgrown => exact hq2.elim
  | ret => obtain ⟨D', env', L', d', f', h', k⟩ := hq; exact k.elim
  | exit i => obtain ⟨D', env', L', d', f', h', k⟩ := hq; exact k.elim
  | goto t => obtain ⟨D', env', L', d', f', h', k⟩ := hq; exact k.elim
  | panic c => exact hq.elim
  | outgrown => exact hq.elim

end SX
namespace SX
open Go Go.RowKit Go.WideShapes Go.ChangeShapes

section
variable {H0 : Type} {enc : TypeId × Value → H0} {P : Program}
theorem post_old {f : Func} {s : ChangeSpec} {apart fresh handsOn again : Bool} {W W' : World} {args : Array Value} {v : Value} {ds gs : List (DataW H0)} {before pa pv : List MemPlace}
    (hb : Below W.heap.size W W') (hps : before = pa ++ pv)
    (hW : DataW.Whole enc P f.params.toList s.vars apart W args.toList ds gs before)
    (hres : ∀ (b : Nat) (sp : Nat → Bool) (hd : Bool), DataW.TrodAll enc P W' b sp hd f.resultTypes.toList (v.resultList f.resultTypes.size) (s.fn H0 (ds ++ gs)).results [])
    (hargs : ∀ sp : Nat → Bool, (∀ p ∈ before, sp p.block = true) → DataW.TrodAll enc P W' 0 sp true f.params.toList args.toList (s.fn H0 (ds ++ gs)).args pa)
    (hvars : ∀ sp : Nat → Bool, (∀ p ∈ before, sp p.block = true) → DataW.TrodVars enc P W' sp s.vars (s.fn H0 (ds ++ gs)).vars pv)
    (hok : ∀ (j : Nat) (t : TypeId) (r : Value), f.resultTypes[j]? = some t → (v.resultList f.resultTypes.size)[j]? = some r → Value.okWide P W' .any 0 t r) :
    s.post enc P f apart fresh handsOn again W args v W' := by
  subst hps
  have lt : ∀ p ∈ pa ++ pv, p.block < W.heap.size := fun p hp => hW.lt p hp
  have there : ∀ p ∈ pa ++ pv, (fun b => decide (b < W.heap.size)) p.block = true := fun p hp => decide_eq_true (lt p hp)
  refine ⟨ds, gs, pa ++ pv, [], pa, pv, hW, hres _ _ _, hargs _ there, hvars _ there, ?_, fun _ => ?_⟩
  · exact World.keptBut_mono (fun p hp => ⟨hp, .inr (List.mem_append.1 hp)⟩) (hb.frame (· ∈ pa ++ pv))
  · obtain ⟨_, _, _, _, _, hz, hn⟩ := hW
    refine ⟨hok, _, _, pa ++ pv, ⟨pa, pv, trodAll_append (p := []) (hargs _ (fun _ _ => rfl)) (hres _ _ _), hvars _ (fun _ _ => rfl), rfl, fun b off hp => ?_, fun ha => hn ha⟩, fun p hp _ => hp⟩
    rw [hb.frozen (lt _ hp)]
    exact hz b off hp
end
end SX
namespace SX
open Go

def ro (μ : PH) : Assn := fun m => ∀ b o, μ b = some o → m b = some o
def Le (μ μ' : PH) : Prop := ∀ b o, μ b = some o → μ' b = some o
theorem Le.refl (μ : PH) : Le μ μ := fun _ _ h => h
theorem Le.trans {a b c : PH} (h : Le a b) (k : Le b c) : Le a c := fun x o e => k x o (h x o e)

/-- a cell is there -/
def CellAt (μ : PH) (b i : Nat) (v : Value) : Prop := ∃ cs t fr, μ b = some (.cells cs t fr) ∧ cs[i]? = some v
def RowAt (μ : PH) (b off : Nat) (xs : List Value) : Prop := ∀ j u, xs[j]? = some u → CellAt μ b (off + j) u
theorem CellAt.le {μ μ' : PH} {b i : Nat} {v : Value} (h : CellAt μ b i v) (k : Le μ μ') : CellAt μ' b i v := by
  obtain ⟨cs, t, fr, h1, h2⟩ := h; exact ⟨cs, t, fr, k _ _ h1, h2⟩
theorem RowAt.le {μ μ' : PH} {b off : Nat} {xs : List Value} (h : RowAt μ b off xs) (k : Le μ μ') : RowAt μ' b off xs := fun j u hj => (h j u hj).le k
theorem RowAt.sub {μ : PH} {b off : Nat} {xs : List Value} (h : RowAt μ b off xs) (k n : Nat) : RowAt μ b (off + k) ((xs.drop k).take n) := fun j u hj => by
  rw [List.getElem?_take] at hj
  split at hj
  · rw [List.getElem?_drop] at hj
    rw [Nat.add_assoc]; exact h _ _ hj
  · cases hj
theorem addr_block (A : Addr) (k : Nat) : (A.add k).block = A.block := by unfold Addr.add; split <;> rfl
theorem addr_off (A : Addr) (k : Nat) : (A.add k).off = A.off + k := by unfold Addr.add; split <;> simp_all

/-- L has ro μ -/
class InR (L : List Assn) (μ : outParam PH) : Prop where
  ok : ∃ L', Take (ro μ) L L'
instance InR.here {μ : PH} {L : List Assn} : InR (ro μ :: L) μ := ⟨_, .here⟩
instance (priority := low) InR.there {A : Assn} {L : List Assn} {μ : PH} [h : InR L μ] : InR (A :: L) μ := ⟨let ⟨_, t⟩ := h.ok; ⟨_, .there t⟩⟩

section
variable {P : Program} {env : Env} {L : List Assn} {μ : PH}
theorem ro_get {E : Ctx} {w : World} [hr : InR L μ] (hh : H E w L) {b : Nat} {o : Obj} (h : μ b = some o) : w.heap[b]? = some o := by
  obtain ⟨L', t⟩ := hr.ok
  obtain ⟨m1, m2, h1, _, _, s1, _⟩ := (hh.ent (Ent.perm t.perm)).sat
  exact s1 b o (h1 b o h)
theorem ro_cell {E : Ctx} {w : World} [InR L μ] (hh : H E w L) {b i : Nat} {v : Value} (h : CellAt μ b i v) : w.cell? ⟨b, i, none⟩ = some v := by
  obtain ⟨cs, t, fr, h1, h2⟩ := h
  simp [World.cell?, ro_get hh h1, h2]
theorem ld_ro {t : TypeId} [ht : TOne P t] [InR L μ] {b i : Nat} {v : Value} (h : CellAt μ b i v) : Ld P L t ⟨b, i, none⟩ v := by
  intro E w hh
  have ha := run_isAgg ht.und w
  simp [loadVar, ha, ro_cell hh h]
theorem ld_roA {t n : Nat} [ht : TAgg P t n] [InR L μ] {b i : Nat} {vs : List Value} (hl : vs.length = n) (h : RowAt μ b i vs) : Ld P L t ⟨b, i, none⟩ (.agg vs.toArray) := by
  intro E w hh
  have ha := run_isAgg ht.und w
  have hr := run_loadCells_list (P := P) w ⟨b, i, none⟩ vs (fun j v hv => by rw [addr_add]; exact ro_cell hh (h j v hv))
  rw [hl] at hr
  simp [loadVar, ha, run_sizeOf ht.inf, hr]
/-- a load out of what is only read -/
theorem rd_ro {t : TypeId} [TOne P t] [InR L μ] {x : Operand} {b i : Nat} {v : Value} (hx : evalE env x = some (.pointer (some ⟨b, i, none⟩))) (h : CellAt μ b i v) : Rd P env L (.load t x) v := rd_of_ld hx (ld_ro h)
theorem rd_roA {t n : Nat} [TAgg P t n] [InR L μ] {x : Operand} {b i : Nat} {vs : List Value} (hx : evalE env x = some (.pointer (some ⟨b, i, none⟩))) (hl : vs.length = n) (h : RowAt μ b i vs) : Rd P env L (.load t x) (.agg vs.toArray) := rd_of_ld hx (ld_roA hl h)

/-- a slice that is only read: n cells an element, l elements -/
def Row (μ : PH) (v : Value) (n l : Nat) (xs : List Value) : Prop :=
  xs.length = l * n ∧ ∃ A cap, v = .slice A l cap ∧ l ≤ cap ∧ cap ≤ maxLen ∧ (A = none → cap = 0) ∧ (0 < l → ∃ b off, A = some ⟨b, off, none⟩ ∧ RowAt μ b off xs)
theorem Row.le {μ μ' : PH} {v : Value} {n l : Nat} {xs : List Value} (h : Row μ v n l xs) (k : Le μ μ') : Row μ' v n l xs := by
  obtain ⟨h0, A, cap, h1, h2, h3, h4, h5⟩ := h
  exact ⟨h0, A, cap, h1, h2, h3, h4, fun hl => let ⟨b, off, e, r⟩ := h5 hl; ⟨b, off, e, r.le k⟩⟩
theorem Row.nil (μ : PH) (n : Nat) : Row μ (.slice none 0 0) n 0 [] := ⟨by simp, none, 0, rfl, by omega, by simp [maxLen], fun _ => rfl, fun h => by omega⟩
theorem Row.pos {v : Value} {n l : Nat} {xs : List Value} (h : Row μ v n l xs) (hl : 0 < l) : ∃ b off cap, v = .slice (some ⟨b, off, none⟩) l cap ∧ l ≤ cap ∧ cap ≤ maxLen ∧ RowAt μ b off xs := by
  obtain ⟨h0, A, cap, h1, h2, h3, h4, h5⟩ := h
  obtain ⟨b, off, rfl, r⟩ := h5 hl
  exact ⟨b, off, cap, h1, h2, h3, r⟩
/-- an element of a list that is laid in cells -/
theorem RowAt.elem {β : Type} {f : β → List Value} {n : Nat} (hf : ∀ e, (f e).length = n) {b off : Nat} {es : List β} (h : RowAt μ b off (es.flatMap f)) {i : Nat} {e : β} (hi : es[i]? = some e) : RowAt μ b (off + i * n) (f e) := fun j u hj => by
  rw [Nat.add_assoc]
  exact h _ _ (by have := flat_get hf es [] i e hi j u hj; rwa [List.append_nil] at this)
theorem RowAt.cell {b off : Nat} {v : Value} (h : RowAt μ b off [v]) : CellAt μ b off v := by have := h 0 v rfl; rwa [Nat.add_zero] at this

theorem pu_len_row {t : TypeId} {e n b : Nat} [TSl P t e n b] {x : Operand} {v : Value} {n' l : Nat} {xs : List Value} (hr : Row μ v n' l xs) (hx : evalE env x = some v) : Pu P env (.call { callee := .builtin .len, args := #[x], argTypes := #[t] }) (.int .i64 l) := by
  obtain ⟨_, A, cap, rfl, _⟩ := hr
  exact pu_len hx
theorem pu_len_own {t : TypeId} {e n b : Nat} [TSl P t e n b] {x : Operand} {v : Value} {l : Nat} (hr : ∃ A cap, v = .slice A l cap) (hx : evalE env x = some v) : Pu P env (.call { callee := .builtin .len, args := #[x], argTypes := #[t] }) (.int .i64 l) := by
  obtain ⟨A, cap, rfl⟩ := hr
  exact pu_len hx

theorem pu_slice_loA {t e n by_ : Nat} [h : TSl P t e n by_] {x y : Operand} {A : Option Addr} {l c : Nat} {ki : IntKind} {lo : Int} (k : Nat) (hx : evalE env x = some (.slice A l c)) (hy : evalE env y = some (.int ki lo)) (hk : lo = (k : Int)) (hc : k ≤ l) :
    Pu P env (.slice t x (some y) none none) (.slice (if c = k then A else A.map (·.add (k * n))) (l - k) (c - k)) := fun ρ hρ _ _ _ _ _ w => by
  obtain ⟨j, he, hj, hn, _⟩ := h.ok
  have h0 : (0 : Int) ≤ (k : Int) ∧ (k : Int) ≤ (l : Int) := ⟨by omega, by omega⟩
  by_cases hck : c = k
  · (simp [execOp, hρ x _ hx, hρ y _ hy, hk, Instr.sliceAt, run_underlying he, Instr.slice, Instr.sliceBounds, Instr.sliceBound, asIntOf, h0, Go.sizeOf, typeInfo, hj, hck]; try (intro hlt; omega))
  · (simp [execOp, hρ x _ hx, hρ y _ hy, hk, Instr.sliceAt, run_underlying he, Instr.slice, Instr.sliceBounds, Instr.sliceBound, asIntOf, h0, Go.sizeOf, typeInfo, hj, hck, hn]; try (intro hlt; omega))
theorem Row.lo {t e n by_ : Nat} [h : TSl P t e n by_] {v : Value} {l : Nat} {xs : List Value} (hr : Row μ v n l xs) (k : Nat) (hk : k ≤ l) :
    ∃ v', Row μ v' n (l - k) (xs.drop (k * n)) ∧ ∀ (env : Env) (x y : Operand) (ki : IntKind) (lo : Int), evalE env x = some v → evalE env y = some (.int ki lo) → lo = (k : Int) → Pu P env (.slice t x (some y) none none) v' := by
  obtain ⟨h0, A, cap, rfl, h2, h3, h4, h5⟩ := hr
  have hlen : (xs.drop (k * n)).length = (l - k) * n := by rw [List.length_drop, h0, Nat.sub_mul]
  refine ⟨_, ⟨hlen, _, _, rfl, by omega, by omega, fun hA => ?_, fun hl => ?_⟩, fun env x y ki lo hx hy hl => pu_slice_loA k hx hy hl hk⟩
  · split at hA
    · omega
    · rw [Option.map_eq_none_iff] at hA; have := h4 hA; omega
  · obtain ⟨b, off, rfl, hr⟩ := h5 (by omega)
    rw [if_neg (by omega)]
    refine ⟨b, off + k * n, by simp [addr_add], fun j u hj => ?_⟩
    rw [Nat.add_assoc]
    rw [List.getElem?_drop] at hj
    exact hr _ _ hj
theorem Row.hi {t e n by_ : Nat} [h : TSl P t e n by_] {v : Value} {l : Nat} {xs : List Value} (hr : Row μ v n l xs) (k : Nat) (hk : k ≤ l) :
    ∃ v', Row μ v' n k (xs.take (k * n)) ∧ ∀ (env : Env) (x y : Operand) (ki : IntKind) (hi : Int), evalE env x = some v → evalE env y = some (.int ki hi) → hi = (k : Int) → Pu P env (.slice t x none (some y) none) v' := by
  obtain ⟨h0, A, cap, rfl, h2, h3, h4, h5⟩ := hr
  have hlen : (xs.take (k * n)).length = k * n := by rw [List.length_take, h0]; exact Nat.min_eq_left (Nat.mul_le_mul_right n hk)
  refine ⟨_, ⟨hlen, _, _, rfl, by omega, by omega, h4, fun hl => ?_⟩, fun env x y ki lo hx hy hl => pu_slice_hi k hx hy hl (by omega)⟩
  obtain ⟨b, off, rfl, hr⟩ := h5 (by omega)
  refine ⟨b, off, rfl, fun j u hj => ?_⟩
  rw [List.getElem?_take] at hj
  split at hj
  · exact hr _ _ hj
  · cases hj

/-- append of what is only read to a slice of one's own -/
theorem H.append_ro {E : Ctx} {w : World} {t e : TypeId} {n by_ : Nat} (ht : TSl P t e n by_) {zs : List Value} (hz : TZero P e zs) (hzl : zs.length = n) (hn0 : 0 < n) [hr : InR L μ]
    {v s : Value} {l m : Nat} {xs news : List Value} (h : H E w (own e n v l xs :: L)) (hs : Row μ s n m news) (h1 : news.all Value.oneCell' = true) (h63 : l + m ≤ maxLen) (hby : (l + m) * by_ ≤ 140737488355328) (ty : TypeId) :
    ∃ v' w', (Builtin.append_ #[t, t] ty #[v, s]).run P w = .ok v' w' ∧ H E w' (own e n v' (l + m) (xs ++ news) :: L) ∧ (m ≠ 0 → ∃ g cap, v' = .slice (some ⟨g, 0, none⟩) (l + m) cap) := by
  obtain ⟨i, hu, hi, hin, hib⟩ := ht.ok
  obtain ⟨i', z, hi', hzz, hzc⟩ := hz.ok
  have : i' = i := Option.some.inj (hi'.symm.trans hi)
  subst this
  obtain ⟨hsl, A, cap, rfl, _, _, _, hpos⟩ := hs
  by_cases hm0 : m = 0
  · subst hm0
    have hnil : news = [] := List.eq_nil_of_length_eq_zero (by rw [hsl]; simp)
    subst hnil
    refine ⟨v, w, ?_, by simpa using h, by simp⟩
    have hld : ∀ B : Addr, (loadCells B 0).run P w = .ok #[] w := fun B => run_loadCells_list (P := P) w B [] (by simp)
    obtain ⟨m1, m2, ho, _⟩ := h.sat
    rcases ho.2 with ⟨rfl, rfl⟩ | ⟨g, cap, cur, rfl, _, hc, _⟩
    · cases A with
      | none => simp [Builtin.append_, run_underlying hu, Go.sizeOf, typeInfo, hi, Builtin.lenOf, Builtin.firstCells]
      | some A => simp [Builtin.append_, run_underlying hu, Go.sizeOf, typeInfo, hi, Builtin.lenOf, Builtin.firstCells, hld A]
    · cases A with
      | none => simp [Builtin.append_, run_underlying hu, Go.sizeOf, typeInfo, hi, Builtin.lenOf, Builtin.firstCells, hc, storeCells]
      | some A => simp [Builtin.append_, run_underlying hu, Go.sizeOf, typeInfo, hi, Builtin.lenOf, Builtin.firstCells, hc, storeCells, hld A]
  · obtain ⟨ab, off, rfl, hrow⟩ := hpos (by omega)
    have hcells : ∀ j u, news[j]? = some u → w.cell? ((⟨ab, off, none⟩ : Addr).add j) = some u := fun j u hj => by
      rw [addr_add]; exact ro_cell (L := own e n v l xs :: L) h (hrow j u hj)
    obtain ⟨e1, e2, e3, e4, h5⟩ := h
    obtain ⟨m1, m2, ho, hL, hd, s1, s2⟩ := Sat.perm (perm_out (X := E.X) (.refl _)) _ h5
    have hown : w.ownsRow 0 e n v l xs := by
      refine ⟨ho.1, ?_⟩
      rcases ho.2 with hnil | ⟨g, cap, cur, hv, hg, r⟩
      · exact .inl hnil
      · exact .inr ⟨g, cap, cur, hv, Nat.zero_le _, s1 _ _ hg, r⟩
    obtain ⟨v', w', hrun, hown', hg, hnn, hat⟩ := run_append_own_at (P := P) w 0 t ty e i' z n by_ hu hi hzz hin hib (by rw [hzc]; simpa using hzl) hn0 v l xs hown ⟨ab, off, none⟩ m cap news hsl hcells (by simpa using h1) h63 hby (Nat.zero_le _)
    have hlt2 : ∀ k o, m2 k = some o → k < w.heap.size := fun k o hk => (Array.getElem?_eq_some_iff.1 (s2 k o hk)).1
    have hvm : ∀ k, v.ownBlock = some k → m2 k = none := fun k hk => by
      rcases ho.2 with ⟨rfl, _⟩ | ⟨g0, cap, cur, rfl, hgm, _⟩
      · simp [Value.ownBlock] at hk
      · simp [Value.ownBlock] at hk
        subst hk
        exact (hd g0).resolve_left (by rw [hgm]; simp)
    have hm2 : ∀ k o, m2 k = some o → w'.heap[k]? = some o := fun k o hk => by
      rw [hg.block k (hlt2 k o hk) (fun he => by rw [hvm k he.symm] at hk; cases hk)]
      exact s2 k o hk
    refine ⟨v', w', hrun, ⟨hg.os.trans e1, hg.output.trans e2, hg.tape.trans e3, Nat.le_trans e4 hg.size, Sat.perm (perm_out (X := E.X) (.refl _)).symm _ ⟨fun k => if v'.ownBlock = some k then w'.heap[k]? else none, m2, ?_, hL, ?_, ?_, hm2⟩⟩, ?_⟩
    · refine ⟨hown'.1, ?_⟩
      rcases hown'.2 with hnil | ⟨g, cap, cur, rfl, _, hgg, r⟩
      · exact .inl hnil
      · exact .inr ⟨g, cap, cur, rfl, by simpa [Value.ownBlock] using hgg, r⟩
    · intro k
      by_cases hk : v'.ownBlock = some k
      · right
        rcases hat with he | he
        · exact hvm k (he ▸ hk)
        · rw [he] at hk
          cases hm : m2 k with
          | none => rfl
          | some o => have := hlt2 k o hm; simp at hk; omega
      · left; simp [hk]
    · intro k o hk
      by_cases hk' : v'.ownBlock = some k
      · simp only [hk', if_true] at hk; exact hk
      · simp [hk'] at hk
    · intro hm
      rcases hown'.2 with ⟨hnil, _⟩ | ⟨g, cap, cur, rfl, _⟩
      · exact absurd (hnn.1 hnil).2 hm
      · exact ⟨g, cap, rfl⟩
theorem ef_append_ro {t e n by_ : Nat} [ht : TSl P t e n by_] {zs : List Value} [hz : TZero P e zs] [InR L μ] {x y : Operand} {v s : Value} {l m : Nat} {xs news : List Value} {R : List Assn} [InR R μ]
    (hs : Row μ s n m news) (hx : evalE env x = some v) (hy : evalE env y = some s) (hL : Split L [own e n v l xs] R) (h1 : news.all Value.oneCell' = true) (h63 : l + m ≤ maxLen) (hby : (l + m) * by_ ≤ 140737488355328) (hzl : zs.length = n := by rfl) (hn0 : 0 < n := by decide) :
    Ef P env L (.call { callee := .builtin .append, args := #[x, y], argTypes := #[t, t] }) (fun k => ∀ v', (m ≠ 0 → ∃ g cap, v' = .slice (some ⟨g, 0, none⟩) (l + m) cap) → k v' (own e n v' (l + m) (xs ++ news) :: R)) := by
  intro ro dst tt pos af g N E a w next Q k hf hh hk hn
  have h2 := hh.ent hL.ent
  obtain ⟨v', w', hrun, h', hform⟩ := H.append_ro (P := P) (L := R) ht hz hzl hn0 h2 hs h1 h63 hby tt
  exact wpIn_value (run_builtin_append (v := v') (w' := w') (by rw [hf.ev x _ hx, hf.ev y _ hy]; exact hrun)) <| hn _ _ _ (hk v' hform) h'
end

/-- a new block becomes one that is only read from now on -/
theorem sat_share {b : Nat} {o : Obj} {μ : PH} {L : List Assn} {m : PH} (h : Sat (one b o :: ro μ :: L) m) : ∃ μ', Le μ μ' ∧ μ' b = some o ∧ Sat (ro μ' :: L) m := by
  obtain ⟨m1, m2, h1, ⟨m3, m4, h3, h4, hd2, t1, t2⟩, hd, s1, s2⟩ := h
  have hb3 : m3 b = none := by
    cases h : m3 b with
    | none => rfl
    | some x =>
      have := (hd b).resolve_left (by unfold one at h1; rw [h1]; simp)
      rw [t1 b x h] at this; cases this
  have hb4 : m4 b = none := by
    cases h : m4 b with
    | none => rfl
    | some x =>
      have := (hd b).resolve_left (by unfold one at h1; rw [h1]; simp)
      rw [t2 b x h] at this; cases this
  refine ⟨fun k => if k = b then some o else μ k, fun k x hk => ?_, by simp, fun k => if k = b then some o else m3 k, m4, fun k x hk => ?_, h4, fun k => ?_, fun k x hk => ?_, fun k x hk => s2 k x (t2 k x hk)⟩
  · have : k ≠ b := by rintro rfl; rw [h3 k x hk] at hb3; cases hb3
    simp [this, hk]
  · simp only at hk ⊢
    split at hk
    · rename_i e; simp [e]; simpa using hk
    · rename_i e; simp [e]; exact h3 k x hk
  · by_cases e : k = b
    · subst e; exact .inr hb4
    · simp only [e, if_false]; exact hd2 k
  · simp only at hk
    split at hk
    · rename_i e; subst e; simp at hk; subst hk; exact s1 _ _ h1
    · exact s2 k x (t1 k x hk)
section
variable {P : Program} {env : Env} {μ : PH} {L : List Assn} {rn : Option Nat} {Q : Post} {N : Nat}
theorem H.share {E : Ctx} {w : World} {b : Nat} {o : Obj} (h : H E w (one b o :: ro μ :: L)) : ∃ μ', Le μ μ' ∧ μ' b = some o ∧ H E w (ro μ' :: L) := by
  obtain ⟨h1, h2, h3, h4, h5⟩ := h
  have p : (E.X ++ (one b o :: ro μ :: L)).Perm (one b o :: ro μ :: (E.X ++ L)) := perm_out (.refl _) |>.trans (List.Perm.cons _ (perm_out (.refl _)))
  obtain ⟨μ', a1, a2, a3⟩ := sat_share (Sat.perm p _ h5)
  exact ⟨μ', a1, a2, h1, h2, h3, h4, Sat.perm (perm_out (.refl _)).symm _ a3⟩
theorem H.share_own {E : Ctx} {w : World} {e n : Nat} {v : Value} {l : Nat} {xs : List Value} (h : H E w (own e n v l xs :: ro μ :: L)) : ∃ μ', Le μ μ' ∧ Row μ' v n l xs ∧ H E w (ro μ' :: L) := by
  obtain ⟨h1, h2, h3, h4, h5⟩ := h
  have k6 : Sat (own e n v l xs :: (E.X ++ (ro μ :: L))) (fun b => w.heap[b]?) := Sat.perm (perm_out (.refl _)) _ h5
  rcases own_open k6 with ⟨a1, a2, a3⟩ | ⟨b, cap, ex, a1, a2, a3, a4, a5, a6⟩
  · subst a1 a2 a3
    exact ⟨μ, Le.refl _, Row.nil _ _, h1, h2, h3, h4, k6.tail⟩
  · have hh : H E w (one b (.cells (xs ++ ex).toArray e (0, 0)) :: ro μ :: L) := ⟨h1, h2, h3, h4, Sat.perm (perm_out (.refl _)).symm _ a6⟩
    obtain ⟨μ', b1, b2, b3⟩ := hh.share
    refine ⟨μ', b1, ⟨a4, some ⟨b, 0, none⟩, cap, a1, a2, a3, fun h => (by cases h), fun _ => ⟨b, 0, rfl, fun j u hj => ⟨_, _, _, b2, ?_⟩⟩⟩, b3⟩
    have hlt : j < xs.length := (List.getElem?_eq_some_iff.1 hj).1
    simpa [List.getElem?_append_left hlt] using hj
theorem swl_share {ops : Array Oper} {l : List Oper} {b t : Nat} {cs : List Value} {L0 : List Assn} (hL : Split L0 [blk b t cs, ro μ] L) (h : ∀ μ', Le μ μ' → μ' b = some (.cells cs.toArray t (0, 0)) → swl P rn ops Q N l env (ro μ' :: L)) : swl P rn ops Q N l env L0 := fun E D a w hd hf hh => by
  obtain ⟨μ', h1, h2, h3⟩ := (hh.ent hL.ent).share
  exact h μ' h1 h2 E D a w hd hf h3
theorem swp_share_own {c : Code} {e n : Nat} {v : Value} {l : Nat} {xs : List Value} {L0 : List Assn} (hL : Split L0 [own e n v l xs, ro μ] L) (h : ∀ μ', Le μ μ' → Row μ' v n l xs → swp P rn c Q N env (ro μ' :: L)) : swp P rn c Q N env L0 := fun E D a w hd hf hh => by
  obtain ⟨μ', h1, h2, h3⟩ := (hh.ent hL.ent).share_own
  exact h μ' h1 h2 E D a w hd hf h3
theorem swl_share_own {ops : Array Oper} {ol : List Oper} {e n : Nat} {v : Value} {l : Nat} {xs : List Value} {L0 : List Assn} (hL : Split L0 [own e n v l xs, ro μ] L) (h : ∀ μ', Le μ μ' → Row μ' v n l xs → swl P rn ops Q N ol env (ro μ' :: L)) : swl P rn ops Q N ol env L0 := fun E D a w hd hf hh => by
  obtain ⟨μ', h1, h2, h3⟩ := (hh.ent hL.ent).share_own
  exact h μ' h1 h2 E D a w hd hf h3
/-- a slice of the call's own is nil and empty, or has an array -/
theorem own_form {e n : Nat} {v : Value} {l : Nat} {xs : List Value} {m : PH} (h : Sat (own e n v l xs :: L) m) : ∃ A cap, v = .slice A l cap := by
  obtain ⟨m1, _, ⟨_, ho⟩, _⟩ := h
  rcases ho with ⟨rfl, rfl⟩ | ⟨g, cap, cur, rfl, _⟩
  · exact ⟨_, _, rfl⟩
  · exact ⟨_, _, rfl⟩
end

section
variable {P : Program} {env : Env} {L : List Assn}
/-- 'make' of a slice without elements, with room -/
theorem ef_make0 {t e n by_ : Nat} [ht : TSl P t e n by_] {zs : List Value} [hz : TZero P e zs] {x y : Operand} {kx ky : IntKind} {c : Int} (hx : evalE env x = some (.int kx 0)) (hy : evalE env y = some (.int ky c)) (h0 : 0 ≤ c) (hb : (by_ : Int) * c ≤ 281474976710656) (hc : c ≤ maxLen) :
    Ef P env L (.makeSlice t x y) (fun k => ∀ v, k v (own e n v 0 [] :: L)) := by
  intro ro dst ty pos af g N E a w next Q k hf hh hk hn
  obtain ⟨i, hu, hi, hin, hib⟩ := ht.ok
  obtain ⟨i', z, hi', hzz, hzc⟩ := hz.ok
  have : i' = i := Option.some.inj (hi'.symm.trans hi)
  subst this
  have hr := run_make (P := P) w t e i' z hu hi hzz kx ky 0 c (by omega) h0 (by rw [hib]; exact hb) (by simp only [maxLen] at hc; omega)
  refine wpIn_value (v := .slice (some ⟨w.heap.size, 0, none⟩) 0 c.toNat) (w' := w.alloc (.cells (madeCells z.cells (c.toNat * i'.size)) e)) (by simp [execOp, hf.ev x _ hx, hf.ev y _ hy, hr]) ?_
  refine hn _ _ _ (hk _) ((hh.alloc _).ent (Ent.imp fun m hm => ⟨by simp, .inr ⟨_, _, _, rfl, hm, by omega, by omega, by rw [size_madeCells, hin], by simp⟩⟩))
theorem madeCells_one (z : Value) (n : Nat) : madeCells #[z] n = (List.replicate n z).toArray := by
  apply Array.ext
  · simp [madeCells]
  · intro i h1 h2
    simp [madeCells, Nat.mod_one]
/-- 'make' of a slice of one-cell elements -/
theorem ef_make1 {t e by_ : Nat} [ht : TSl P t e 1 by_] {z : Value} [hz : TZero P e [z]] {x y : Operand} {kx ky : IntKind} {c : Int} (l : Nat) (hx : evalE env x = some (.int kx c)) (hy : evalE env y = some (.int ky c)) (h0 : c = (l : Int)) (hb : (by_ : Int) * l ≤ 281474976710656) (hc : l ≤ maxLen) :
    Ef P env L (.makeSlice t x y) (fun k => ∀ b, k (.slice (some ⟨b, 0, none⟩) l l) (blk b e (List.replicate l z) :: L)) := by
  intro ro dst ty pos af g N E a w next Q k hf hh hk hn
  obtain ⟨i, hu, hi, hin, hib⟩ := ht.ok
  obtain ⟨i', z', hi', hzz, hzc⟩ := hz.ok
  have : i' = i := Option.some.inj (hi'.symm.trans hi)
  subst this
  subst h0
  have hr := run_make (P := P) w t e i' z' hu hi hzz kx ky l l (by omega) (by omega) (by rw [hib]; exact hb) (by simp only [maxLen] at hc; omega)
  rw [hin, Int.toNat_natCast, Nat.mul_one, hzc, madeCells_one] at hr
  exact wpIn_value (v := .slice (some ⟨w.heap.size, 0, none⟩) l l) (w' := w.alloc (.cells (List.replicate l z).toArray e)) (by simp [execOp, hf.ev x _ hx, hf.ev y _ hy, hr]) (hn _ _ _ (hk _) (hh.alloc _))
end

section
variable {P : Program} {env : Env} {L : List Assn}
/-- append of what another block holds; that block stays -/
theorem ef_append_of {t e n by_ : Nat} [ht : TSl P t e n by_] {zs : List Value} [hz : TZero P e zs] {x y : Operand} {v : Value} {l sb so m c sty : Nat} {xs scs news : List Value} {R : List Assn}
    (hx : evalE env x = some v) (hy : evalE env y = some (.slice (some ⟨sb, so, none⟩) m c)) (hL : Split L [own e n v l xs, blk sb sty scs] R) (hnl : news.length = m * n) (hnews : ∀ j u, news[j]? = some u → scs[so + j]? = some u) (h1 : news.all Value.oneCell' = true) (h63 : l + m ≤ maxLen) (hby : (l + m) * by_ ≤ 140737488355328) (hzl : zs.length = n := by rfl) (hn0 : 0 < n := by decide) :
    Ef P env L (.call { callee := .builtin .append, args := #[x, y], argTypes := #[t, t] }) (fun k => ∀ v', (m ≠ 0 → ∃ g cap, v' = .slice (some ⟨g, 0, none⟩) (l + m) cap) → k v' (own e n v' (l + m) (xs ++ news) :: blk sb sty scs :: R)) := by
  intro ro dst tt pos af g N E a w next Q k hf hh hk hn
  have h2 := hh.ent hL.ent
  have hsrc : w.heap[sb]? = some (.cells scs.toArray sty (0, 0)) := h2.one_get (.there .here)
  obtain ⟨v', w', hrun, h', hform⟩ := H.append (P := P) ht hz hzl hn0 h2 hsrc news hnl hnews h1 h63 hby tt
  exact wpIn_value (run_builtin_append (v := v') (w' := w') (by rw [hf.ev x _ hx, hf.ev y _ hy]; exact hrun)) <| hn _ _ _ (hk v' hform) h'
end

/-- the row of a law whose call reads W -/
theorem calls_ro {P : Program} {f : FuncId} {args : List Value} {u : Value} {W : World} (h : Spec P f args [ro (fun b => W.heap[b]?)] (fun v L => v = u ∧ ∃ μ R, Le (fun b => W.heap[b]?) μ ∧ L = ro μ :: R)) :
    Calls P f args.toArray W fun e W' => e = .returned u ∧ RowKit.Below W.heap.size W W' :=
  (h ⟨W, []⟩ W ⟨rfl, rfl, rfl, Nat.le_refl _, (fun b => W.heap[b]?), (fun _ => none), fun _ _ h => h, trivial, fun _ => .inr rfl, fun _ _ h => h, fun _ _ h => by (cases h)⟩).mono
    fun _ W' ⟨_, _, he, ⟨hv, μ, R, hle, hl⟩, hh⟩ => ⟨by rw [he, hv], by
      subst hl
      obtain ⟨h1, h2, h3, h4, m1, m2, ho, _, _, s1, _⟩ := hh
      refine ⟨h1, h3, h2, h4, fun k hk => ?_⟩
      have e : W.heap[k]? = some W.heap[k] := by simp [hk]
      rw [e]; exact s1 k _ (ho k _ (hle k _ e))⟩
end SX
namespace SX
open Go
variable {P : Program} {ro : Option Nat} {ops : Array Oper} {Q : Post} {N : Nat} {rds : List Nat} {fuel : Nat} {listed : Array Bool} {live : Bool} {env : Env} {Lr Lx : List Assn} {d : Nat} {op : Op} {ty : TypeId} {pos : String} {af : Array Edge}

/-- number i comes next -/
def swdAt (P : Program) (ro : Option Nat) (ops : Array Oper) (Q : Post) (N : Nat) (rds : List Nat) (fuel : Nat) (listed : Array Bool) (live : Bool) (env : Env) (Lr Lx : List Assn) (i : Nat) : Prop :=
  ∀ E D a w, Dfs P a.defers D → Fr N a env → (if live then H (E.add D) w (Lr ++ Lx) else H (E.add D) w Lx) → Closed .any ops listed → i ∈ Region.ready .any ops listed →
    wpOpIn (FW ro) 0 P ops (PQ P E N Q) i (fun a' w' => (H (E.add D) w' Lr ∨ (rds.all fun r => ancB .any ops r ops.size i) = true ∨ w' = w) ∧
      wpAnyE P ro .any ops (PQ P E N Q) (fun w => H (E.add D) w Lr) (fun j => rds.all fun i => ancB .any ops i ops.size j) fuel (listed.setIfInBounds i true) a' w') a w

def AllOf (p : Nat → Prop) : List Nat → Prop
  | [] => True
  | [i] => p i
  | i :: is => p i ∧ AllOf p is
theorem AllOf.spec {p : Nat → Prop} : ∀ {is : List Nat}, AllOf p is → ∀ i ∈ is, p i
  | [], _, _, h => by cases h
  | [_], hp, i, h => by rw [List.mem_singleton] at h; subst h; exact hp
  | _ :: _ :: _, ⟨h1, h2⟩, i, h => by
    rcases List.mem_cons.1 h with rfl | h
    · exact h1
    · exact AllOf.spec h2 i h
/-- some may come next -/
theorem d_amb (is : List Nat) (hr : Region.ready .any ops listed = is) (hne : is.isEmpty = false) (h : AllOf (swdAt P ro ops Q N rds fuel listed live env Lr Lx) is) : swd P ro ops Q N rds (fuel + 1) listed live env Lr Lx := by
  intro E D a w hD hf hh hc
  refine ⟨fun h0 => (by rw [hr] at h0; subst h0; cases hne), fun j hj => ?_⟩
  exact h.spec j (hr ▸ hj) E D a w hD hf hh hc hj

theorem wpOpIn_on {i : Nat} {o : Oper} {a : Act} {w : World} {Q : Exit → Act → World → Prop} {K : Act → World → Prop} (hi : ops[i]? = some o) (hw : Region.wanted o (yielded ops a.tmps) = true) (h : o.wpIn (FW ro) 0 P a w K Q) : wpOpIn (FW ro) 0 P ops Q i K a w := by
  unfold wpOpIn
  simp only [hi]
  rw [if_pos hw]
  exact h
/-- the guard is what is wanted, or there is none -/
inductive GOn (ops : Array Oper) (env : Env) : Option (Nat × Bool) → Prop
  | none : GOn ops env none
  | some {g t : Nat} {want : Bool} (hg : gslot ops g = some t) (hb : look env t = some (.bool want)) : GOn ops env (some (g, want))
theorem GOn.wanted {a : Act} {dst : Option Nat} {g : Option (Nat × Bool)} (hf : Fr N a env) (h : GOn ops env g) : Region.wanted ⟨dst, op, ty, pos, af, g⟩ (yielded ops a.tmps) = true := by
  cases h with
  | none => simp [Region.wanted]
  | some hg hb => simp [Region.wanted, yielded_of hf hg hb]
theorem Ef.guard {op : Op} {Φ : (Value → List Assn → Prop) → Prop} {L : List Assn} (h : Ef P env L op Φ) {ro : Option Nat} {dst : Option Nat} {g : Option (Nat × Bool)} {N : Nat} {E : Ctx} {a : Act} {w : World} {next : Act → World → Prop} {Q : Exit → Act → World → Prop} {k : Value → List Assn → Prop}
    (hf : Fr N a env) (hh : H E w L) (hk : Φ k) (hn : ∀ v w' L', k v L' → H E w' L' → next (a.put dst v) w') : Oper.wpIn (FW ro) 0 P ⟨dst, op, ty, pos, af, g⟩ a w next Q := h ro dst ty pos af g N E a w next Q k hf hh hk hn

theorem dA_ef (i : Nat) {g : Option (Nat × Bool)} {Φ : (Value → List Assn → Prop) → Prop} {L : List Assn} (hi : ops[i]? = some ⟨some d, op, ty, pos, af, g⟩) (hg : GOn ops env g) [hl : AppC Lr Lx L] (h : Ef P env L op Φ)
    (hk : Φ (fun v L' => ∃ Lx', Ent L' (Lr ++ Lx') ∧ swd P ro ops Q N rds fuel (listed.setIfInBounds i true) true ((d, v) :: env) Lr Lx')) (hd : Nat.blt d N = true := by rfl) : swdAt P ro ops Q N rds fuel listed true env Lr Lx i := by
  intro E D a w hD hf hh hc hri
  refine wpOpIn_on hi (hg.wanted hf) (h.guard hf (by rw [← hl.ok]; exact hh) hk fun v w' L' ⟨Lx', he, hs⟩ h' => ⟨.inl (H.left (h'.ent he)), ?_⟩)
  exact hs E D _ w' (hD.put _ _) (hf.put hd v) (h'.ent he) (hc.set hri)
theorem dA_fint (i : Nat) {g : Option (Nat × Bool)} {Φ : (Value → List Assn → Prop) → Prop} {L : List Assn} (hi : ops[i]? = some ⟨some d, op, ty, pos, af, g⟩) (hg : GOn ops env g) (hex : (rds.all fun r => ancB .any ops r ops.size i) = true) [hl : AppC Lr Lx L] (h : Ef P env L op Φ)
    (hk : Φ (fun v L' => swd P ro ops Q N rds fuel (listed.setIfInBounds i true) false ((d, v) :: env) Lr L')) (hd : Nat.blt d N = true := by rfl) : swdAt P ro ops Q N rds fuel listed true env Lr Lx i := by
  intro E D a w hD hf hh hc hri
  refine wpOpIn_on hi (hg.wanted hf) (h.guard hf (by rw [← hl.ok]; exact hh) hk fun v w' L' hs h' => ⟨.inr (.inl hex), ?_⟩)
  exact hs E D _ w' (hD.put _ _) (hf.put hd v) h' (hc.set hri)
theorem dA_finf (i : Nat) {g : Option (Nat × Bool)} {Φ : (Value → List Assn → Prop) → Prop} (hi : ops[i]? = some ⟨some d, op, ty, pos, af, g⟩) (hg : GOn ops env g) (hex : (rds.all fun r => ancB .any ops r ops.size i) = true) (h : Ef P env Lx op Φ)
    (hk : Φ (fun v L' => swd P ro ops Q N rds fuel (listed.setIfInBounds i true) false ((d, v) :: env) Lr L')) (hd : Nat.blt d N = true := by rfl) : swdAt P ro ops Q N rds fuel listed false env Lr Lx i := by
  intro E D a w hD hf hh hc hri
  refine wpOpIn_on hi (hg.wanted hf) (h.guard hf hh hk fun v w' L' hs h' => ⟨.inr (.inl hex), ?_⟩)
  exact hs E D _ w' (hD.put _ _) (hf.put hd v) h' (hc.set hri)
theorem d_ent {L' : List Assn} (he : Ent Lx L') (k : swd P ro ops Q N rds fuel listed false env Lr L') : swd P ro ops Q N rds fuel listed false env Lr Lx := fun E D a w hD hf hh hc => k E D a w hD hf (H.ent hh he) hc
end SX
namespace SX
open Go

/-- an integer type -/
class TInt (P : Program) (t : TypeId) (k : outParam IntKind) : Prop where
  und : P.underlying t = some (.int k)
class TStr (P : Program) (t : TypeId) : Prop where
  und : P.underlying t = some .string

theorem ent_appC {L1 L2 L3 K : List Assn} [h : AppC L1 L2 L3] (k : Ent L3 K) : Ent (L1 ++ L2) K := by rw [h.ok]; exact k
section
variable {P : Program} {env : Env}
theorem pu_conv {s t : TypeId} {ks k k' : IntKind} [hs : TInt P s ks] [ht : TInt P t k'] {x : Operand} {n : Int} (hx : evalE env x = some (.int k n)) : Pu P env (.convert s t x) (.int k' (k'.wrap n)) := fun ρ hρ _ _ _ _ _ w => by
  simp [execOp, hρ x _ hx, convert, run_underlying hs.und, run_underlying ht.und, Conv.intToInt]
theorem pu_conv_as {s t : TypeId} {ks k k' : IntKind} [hs : TInt P s ks] [ht : TInt P t k'] {x : Operand} {n : Int} (hx : evalE env x = some (.int k n)) (h : k'.wrap n = n) : Pu P env (.convert s t x) (.int k' n) := by
  have := pu_conv (P := P) (s := s) (t := t) hx; rwa [h] at this
theorem pu_conv_i64 {s t : TypeId} {ks k : IntKind} [hs : TInt P s ks] [ht : TInt P t .i64] {x : Operand} {n : Int} (hx : evalE env x = some (.int k n)) (h1 : -9223372036854775808 ≤ n) (h2 : n ≤ 9223372036854775807) : Pu P env (.convert s t x) (.int .i64 n) := pu_conv_as hx (wrap_i64 h1 h2)
theorem pu_conv_u64 {s t : TypeId} {ks k : IntKind} [hs : TInt P s ks] [ht : TInt P t .u64] {x : Operand} {n : Int} (hx : evalE env x = some (.int k n)) (h1 : 0 ≤ n) (h2 : n ≤ 18446744073709551615) : Pu P env (.convert s t x) (.int .u64 n) := pu_conv_as hx (IntWalk.u64_in n ⟨h1, h2⟩)
theorem pu_str_op {t u : TypeId} {op : BinOp} {x y : Operand} {a b : ByteArray} {v : Value} (hx : evalE env x = some (.string a)) (hy : evalE env y = some (.string b)) (hop : binOp op t (.string a) (.string b) = Op.stringOp op a b) (hg : ∀ X Y w, (eqGuard op t X Y (.string a) (.string b)).run P w = .ok () w) (hv : ∀ w, (Op.stringOp op a b).run P w = .ok v w) : Pu P env (.binOp op t x y u) v := fun ρ hρ _ _ _ _ _ w => by
  simp only [execOp, hρ x _ hx, hρ y _ hy, Sem.run_bind, hg, Result.andThen_ok, hop, hv, Sem.run_pure]
theorem eqGuard_str {t : TypeId} {a b : ByteArray} : ∀ op X Y w, (eqGuard op t X Y (.string a) (.string b)).run P w = .ok () w := fun op X Y w => by
  cases op <;> rfl
def strLt (a b : ByteArray) : Bool := Op.bytesLess a.toList b.toList
def strEq (a b : ByteArray) : Bool := a.toList == b.toList
theorem pu_str_eql {t u : TypeId} {x y : Operand} {a b : ByteArray} (hx : evalE env x = some (.string a)) (hy : evalE env y = some (.string b)) : Pu P env (.binOp .eql t x y u) (.bool (strEq a b)) := pu_str_op hx hy rfl (eqGuard_str _) (fun _ => rfl)
theorem pu_str_neq {t u : TypeId} {x y : Operand} {a b : ByteArray} (hx : evalE env x = some (.string a)) (hy : evalE env y = some (.string b)) : Pu P env (.binOp .neq t x y u) (.bool (!strEq a b)) := pu_str_op hx hy rfl (eqGuard_str _) (fun _ => rfl)
theorem pu_str_lss {t u : TypeId} {x y : Operand} {a b : ByteArray} (hx : evalE env x = some (.string a)) (hy : evalE env y = some (.string b)) : Pu P env (.binOp .lss t x y u) (.bool (strLt a b)) := pu_str_op hx hy rfl (eqGuard_str _) (fun _ => rfl)
theorem pu_str_leq {t u : TypeId} {x y : Operand} {a b : ByteArray} (hx : evalE env x = some (.string a)) (hy : evalE env y = some (.string b)) : Pu P env (.binOp .leq t x y u) (.bool (strLt a b || strEq a b)) := pu_str_op hx hy rfl (eqGuard_str _) (fun _ => rfl)
theorem pu_strlen {t : TypeId} [h : TStr P t] {x : Operand} {s : ByteArray} (hx : evalE env x = some (.string s)) : Pu P env (.call { callee := .builtin .len, args := #[x], argTypes := #[t] }) (.int .i64 s.size) := fun ρ hρ _ _ _ _ _ w => by
  simp [execOp, resolve, invoke, builtin, hρ x _ hx, Builtin.len_, run_underlying h.und, goInt]

/-! ### words -/
abbrev wv (w : BitVec 64) : Value := .int .u64 (w.toNat : Nat)
theorem ofInt_toNat (w : BitVec 64) : BitVec.ofInt 64 (w.toNat : Int) = w := by
  rw [← BitVec.toInt_inj, BitVec.toInt_ofInt]
  rw [BitVec.toInt_eq_toNat_bmod]
theorem wrap_word (w : BitVec 64) : IntKind.u64.wrap (w.toNat : Int) = w.toNat := IntWalk.u64_in _ ⟨by omega, by have := w.isLt; omega⟩
theorem run_bits {op : BinOp} {t u : TypeId} {x y : Operand} {a b c : BitVec 64} (hx : evalE env x = some (.int .u64 (a.toNat : Nat))) (hy : evalE env y = some (.int .u64 (b.toNat : Nat)))
    (hop : binOp op t (.int .u64 (a.toNat : Nat)) (.int .u64 (b.toNat : Nat)) = Op.intBits op .u64 a.toNat b.toNat) (hg : ∀ X Y, eqGuard op t X Y (.int .u64 (a.toNat : Nat)) (.int .u64 (b.toNat : Nat)) = pure ())
    (hc : Op.intBits op .u64 a.toNat b.toNat = pure (.int .u64 (IntKind.u64.wrap (c.toNat : Nat)))) : Pu P env (.binOp op t x y u) (.int .u64 (c.toNat : Nat)) := fun ρ hρ _ _ _ _ _ w => by
  simp only [execOp, hρ x _ hx, hρ y _ hy, Sem.run_bind, hg, Sem.run_pure, Result.andThen_ok, hop, hc, wrap_word]
theorem pu_or_w {t u : TypeId} {x y : Operand} {a b : BitVec 64} (hx : evalE env x = some (.int .u64 (a.toNat : Nat))) (hy : evalE env y = some (.int .u64 (b.toNat : Nat))) : Pu P env (.binOp .or t x y u) (.int .u64 ((a ||| b).toNat : Nat)) :=
  run_bits hx hy (by simp [binOp]) (fun _ _ => by simp [eqGuard]) (by
    show (let a' : BitVec 64 := BitVec.ofInt 64 a.toNat; let b' : BitVec 64 := BitVec.ofInt 64 b.toNat; pure (.int .u64 (IntKind.u64.wrap (a' ||| b').toNat)) : Sem Value) = _
    rw [ofInt_toNat, ofInt_toNat])
/-- shifts of a word, by less than 64 -/
theorem pu_shl_w {t u : TypeId} {x y : Operand} {ky : IntKind} {a : BitVec 64} (n : Nat) (hx : evalE env x = some (.int .u64 (a.toNat : Nat))) (hy : evalE env y = some (.int ky (n : Nat))) (hn : n ≤ 64) : Pu P env (.binOp .shl t x y u) (.int .u64 ((a <<< n).toNat : Nat)) := fun ρ hρ _ _ _ _ _ w => by
  have hm : min n 64 = n := Nat.min_eq_left hn
  have hp : IntKind.u64.wrap ((a.toNat : Int) * 2 ^ n) = ((a <<< n).toNat : Int) := by
    rw [BitVec.toNat_shiftLeft, Nat.shiftLeft_eq]
    have e : ((a.toNat : Int) * 2 ^ n) = ((a.toNat * 2 ^ n : Nat) : Int) := by simp
    rw [e]
    generalize a.toNat * 2 ^ n = m
    show (m : Int) % (2 : Int) ^ 64 = _
    omega
  have hg : ∀ X Y, eqGuard .shl t X Y (.int .u64 (a.toNat : Nat)) (.int ky (n : Nat)) = pure () := fun _ _ => by simp [eqGuard]
  have hb : (binOp .shl t (.int .u64 (a.toNat : Nat)) (.int ky (n : Nat)) : Sem Value) = pure (.int .u64 ((a <<< n).toNat : Nat)) := by
    show Op.shift .shl .u64 _ ky _ = _
    unfold Op.shift
    rw [if_neg (by omega)]
    show (pure (.int .u64 (IntKind.u64.wrap ((a.toNat : Int) * 2 ^ (min (Int.toNat n) 64)))) : Sem Value) = _
    rw [Int.toNat_natCast, hm, hp]
  simp only [execOp, hρ x _ hx, hρ y _ hy, Sem.run_bind, hg, hb, Sem.run_pure, Result.andThen_ok]
theorem pu_shr_w {t u : TypeId} {x y : Operand} {ky : IntKind} {a : BitVec 64} (n : Nat) (hx : evalE env x = some (.int .u64 (a.toNat : Nat))) (hy : evalE env y = some (.int ky (n : Nat))) (hn : n ≤ 64) : Pu P env (.binOp .shr t x y u) (.int .u64 ((a >>> n).toNat : Nat)) := fun ρ hρ _ _ _ _ _ w => by
  have hm : min n 64 = n := Nat.min_eq_left hn
  have hp : Int.fdiv (a.toNat : Int) (2 ^ n) = ((a >>> n).toNat : Int) := by
    rw [BitVec.toNat_ushiftRight, Nat.shiftRight_eq_div_pow, Int.fdiv_eq_ediv_of_nonneg _ (Int.le_of_lt (Int.pow_pos (by decide)))]
    simp
  have hg : ∀ X Y, eqGuard .shr t X Y (.int .u64 (a.toNat : Nat)) (.int ky (n : Nat)) = pure () := fun _ _ => by simp [eqGuard]
  have hb : (binOp .shr t (.int .u64 (a.toNat : Nat)) (.int ky (n : Nat)) : Sem Value) = pure (.int .u64 ((a >>> n).toNat : Nat)) := by
    show Op.shift .shr .u64 _ ky _ = _
    unfold Op.shift
    rw [if_neg (by omega)]
    show (pure (.int .u64 (Int.fdiv (a.toNat : Int) (2 ^ (min (Int.toNat n) 64)))) : Sem Value) = _
    rw [Int.toNat_natCast, hm, hp]
  simp only [execOp, hρ x _ hx, hρ y _ hy, Sem.run_bind, hg, hb, Sem.run_pure, Result.andThen_ok]
/-! ### min and max of integers -/
theorem pu_min2 {k : IntKind} {ts : Array TypeId} {x y : Operand} {a b : Int} (hx : evalE env x = some (.int k a)) (hy : evalE env y = some (.int k b)) : Pu P env (.call { callee := .builtin .min, args := #[x, y], argTypes := ts }) (.int k (min a b)) := fun ρ hρ _ _ _ _ _ w => by
  have e : (if b < a then b else a) = min a b := by omega
  simp [execOp, resolve, invoke, builtin, hρ x _ hx, hρ y _ hy, Builtin.min_, Builtin.min2, e]
end
end SX
namespace SX
open Go
theorem Spec.exA' {P : Program} {f : FuncId} {args : List Value} {pre : List Assn} {post : Value → List Assn → Prop} {α : Type} {F : α → List Assn} (h : ∀ x, Spec P f args (F x ++ pre) post) : Spec P f args (SX.exA F :: pre) post := fun E w hw => by
  obtain ⟨k1, k2, k3, k4, k5⟩ := hw
  have k6 : Sat (SX.exA F :: (E.X ++ pre)) (fun b => w.heap[b]?) := Sat.perm (perm_out (.refl _)) _ k5
  obtain ⟨x, hx⟩ := exA_open k6
  exact h x E w ⟨k1, k2, k3, k4, Sat.perm (by rw [← List.append_assoc, ← List.append_assoc]; exact List.Perm.append_right _ List.perm_append_comm) _ hx⟩
theorem Spec.fact' {P : Program} {f : FuncId} {args : List Value} {pre : List Assn} {post : Value → List Assn → Prop} {p : Prop} (hp : ∀ m, Sat pre m → p) (h : p → Spec P f args pre post) : Spec P f args pre post := fun E w hw => h (hp _ hw.sat) E w hw
end SX
namespace SX
open Go
theorem Spec.own_cases {P : Program} {f : FuncId} {args : List Value} {L : List Assn} {post : Value → List Assn → Prop} {e n : Nat} {v : Value} {l : Nat} {xs : List Value}
    (h0 : v = .slice none 0 0 → l = 0 → xs = [] → Spec P f args L post)
    (h1 : ∀ b cap ex, v = .slice (some ⟨b, 0, none⟩) l cap → l ≤ cap → cap ≤ maxLen → xs.length = l * n → ex.length = (cap - l) * n → Spec P f args (blk b e (xs ++ ex) :: L) post) : Spec P f args (own e n v l xs :: L) post := by
  intro E w hw
  obtain ⟨k1, k2, k3, k4, k5⟩ := hw
  have k6 : Sat (own e n v l xs :: (E.X ++ L)) (fun b => w.heap[b]?) := Sat.perm (perm_out (.refl _)) _ k5
  rcases own_open k6 with ⟨a1, a2, a3⟩ | ⟨b, cap, ex, a1, a2, a3, a4, a5, a6⟩
  · exact h0 a1 a2 a3 E w ⟨k1, k2, k3, k4, k6.tail⟩
  · exact h1 b cap ex a1 a2 a3 a4 a5 E w ⟨k1, k2, k3, k4, Sat.perm (perm_out (.refl _)).symm _ a6⟩
theorem Spec.ent3 {P : Program} {f : FuncId} {args : List Value} {pre : List Assn} {post post' : Value → List Assn → Prop} (h : Spec P f args pre post) (e : ∀ v L, post v L → ∃ L', Ent L L' ∧ post' v L') : Spec P f args pre post' := fun E w hw =>
  (h E w hw).mono fun _ _ ⟨v, L, a, b, d⟩ => let ⟨L', h1, h2⟩ := e v L b; ⟨v, L', a, h2, d.ent h1⟩
theorem own_nil_ent {e n : Nat} {L : List Assn} : Ent L (own e n (.slice none 0 0) 0 [] :: L) := fun m h => ⟨fun _ => none, m, own_nil _ _ _, h, fun _ => .inl rfl, fun _ _ h => by (cases h), fun _ _ h => h⟩
end SX
namespace SX
open Go
theorem ent_ex1 {α : Type} {F : α → List Assn} (x : α) : Ent (F x) [exA F] := fun m h => exA_close (L := []) x m (by rw [List.append_nil]; exact h)
/-- the i-th of a list, spelled out -/
class NthC (vs : List Value) (i : Nat) (v : outParam Value) : Prop where
  ok : vs[i]? = some v
instance NthC.zero {v : Value} {vs : List Value} : NthC (v :: vs) 0 v := ⟨rfl⟩
instance NthC.succ {u v : Value} {vs : List Value} {i : Nat} [h : NthC vs i v] : NthC (u :: vs) (i + 1) v := ⟨by simpa using h.ok⟩
theorem pu_extractL {P : Program} {env : Env} {x : Operand} {vs : List Value} {i : Nat} {v : Value} (hx : evalE env x = some (.tuple vs.toArray)) [h : NthC vs i v] : Pu P env (.extract x i) v := pu_extract hx (by simpa using h.ok)
end SX
namespace SX

/-- neighbours added -/
def ps : List Nat → List Nat
  | a :: b :: r => (a + b) :: ps r
  | _ => []

/-- neighbours added, all of them -/
def nb : List Nat → List Nat
  | [] => []
  | [a] => [a]
  | a :: b :: r => (a + b) :: nb (b :: r)
end SX
namespace SX
open Go

section
variable {P : Program} {env : Env}
/-- an array type: its length, its element, the element's cells -/
class TArr (P : Program) (t : TypeId) (len : outParam Nat) (e : outParam TypeId) (n : outParam Nat) : Prop where
  und : P.underlying t = some (.array len e)
  inf : (P.info? e).map (·.size) = some n
theorem pu_indexAddr_arr {t len e n : Nat} [h : TArr P t len e n] {x y : Operand} {b o : Nat} {ki : IntKind} {i : Int} (k : Nat) (hx : evalE env x = some (.pointer (some ⟨b, o, none⟩))) (hy : evalE env y = some (.int ki i)) (h0 : 0 ≤ i) (hl : i < len) (hk : o + i.toNat * n = k) :
    Pu P env (.indexAddr t x y) (.pointer (some ⟨b, k, none⟩)) := fun ρ hρ _ _ _ _ _ w => by
  have hs := run_sizeOf h.inf w
  simp [execOp, hρ x _ hx, hρ y _ hy, Instr.indexAt, asIntOf, run_underlying h.und, h0, hl, Instr.sureAddr, hs, addr_add, hk]
end

section
variable {P : Program} {env : Env}
class TBool (P : Program) (t : TypeId) : Prop where
  und : P.underlying t = some .bool
theorem eqGuard_bool {t : TypeId} {a b : Bool} : ∀ op X Y w, (eqGuard op t X Y (.bool a) (.bool b)).run P w = .ok () w := fun op X Y w => by
  cases op <;> rfl
theorem pu_bool_ne {t u : TypeId} [h : TBool P t] {x y : Operand} {a b : Bool} (hx : evalE env x = some (.bool a)) (hy : evalE env y = some (.bool b)) : Pu P env (.binOp .neq t x y u) (.bool (!(a == b))) :=
  pu_ne_of hx hy eqGuard_bool rfl (fun d w => by simp [Op.equalIn, run_underlying h.und])
end

/-! ### how many -/
/-! ### the lowest bit -/
/-! ### the highest bit -/
end SX
namespace SX
open Go Go.MapKept

section
variable {κ : Type} [DecidableEq κ]
abbrev Ents (κ : Type) := List (κ × Value × Nat)
def mke (kv : κ → Value) (x : κ × Value × Nat) : MapEntry := { key := kv x.1, val := x.2.1, born := x.2.2 }
def mlook : Ents κ → κ → Option Value
  | [], _ => none
  | x :: l, a => if x.1 = a then some x.2.1 else mlook l a
/-- where a key stands -/
def place : Ents κ → κ → Option Nat
  | [], _ => none
  | x :: l, a => if x.1 = a then some 0 else (place l a).map (· + 1)
def upd : Ents κ → Nat → κ → Value → Ents κ
  | [], c, a, v => [(a, v, c)]
  | x :: l, c, a, v => if x.1 = a then (x.1, v, x.2.2) :: l else x :: upd l c a v
/-- the clock behind an update -/
def updC (l : Ents κ) (c : Nat) (a : κ) : Nat := if (mlook l a).isSome then c else c + 1
theorem mlook_upd (l : Ents κ) (c : Nat) (a : κ) (v : Value) (x : κ) : mlook (upd l c a v) x = if a = x then some v else mlook l x := by
  induction l with
  | nil => rfl
  | cons y l ih =>
    unfold upd
    by_cases h : y.1 = a
    · rw [if_pos h]
      show (if y.1 = x then some v else mlook l x) = _
      rw [h]
      by_cases hx : a = x
      · rw [if_pos hx, if_pos hx]
      · rw [if_neg hx, if_neg hx]
        show _ = (if y.1 = x then some y.2.1 else mlook l x)
        rw [h, if_neg hx]
    · rw [if_neg h]
      show (if y.1 = x then some y.2.1 else mlook (upd l c a v) x) = _
      rw [ih]
      show _ = (if a = x then some v else (if y.1 = x then some y.2.1 else mlook l x))
      by_cases hx : a = x
      · subst hx; rw [if_neg h, if_pos rfl, if_pos rfl]
      · rw [if_neg hx, if_neg hx]
/-- the keys of a type -/
class TKey (P : Program) (kt : TypeId) (kv : outParam (κ → Value)) : Prop where
  ok : ∃ d, P.underlying kt = some d ∧ (∀ a, IsKey d (kv a)) ∧ ∀ a b, Instr.sameNow d (kv a) (kv b) = some (decide (a = b))
class TMap (P : Program) (t : TypeId) (kt et : outParam TypeId) : Prop where
  und : P.underlying t = some (.map kt et)
/-- a map's block -/
def mpe (b : Nat) (kv : κ → Value) (l : Ents κ) (c : Nat) : Assn := one b (.map (l.map (mke kv)).toArray c)

theorem find_place {kv : κ → Value} {d : TypeDesc} (hs : ∀ a b, Instr.sameNow d (kv a) (kv b) = some (decide (a = b))) (a : κ) : ∀ (l : Ents κ) (i : Nat),
    (mlook l a = none ∧ Instr.findNow d (kv a) (l.map (mke kv)) i = some none ∧ place l a = none) ∨ ∃ j v, mlook l a = some v ∧ Instr.findNow d (kv a) (l.map (mke kv)) i = some (some (i + j, v)) ∧ place l a = some j ∧ j < l.length ∧ (l[j]?).map (·.1) = some a
  | [], i => .inl ⟨rfl, rfl, rfl⟩
  | x :: l, i => by
    by_cases h : x.1 = a
    · refine .inr ⟨0, x.2.1, by simp [mlook, h], ?_, by simp [place, h], by simp, by simp [h]⟩
      simp [Instr.findNow, mke, hs, h]
    · have hd : decide (a = x.1) = false := decide_eq_false (fun e => h e.symm)
      rcases find_place hs a l (i + 1) with ⟨h1, h2, h3⟩ | ⟨j, v, h1, h2, h3, h4, h5⟩
      · refine .inl ⟨by simp [mlook, h, h1], ?_, by simp [place, h, h3]⟩
        simp [Instr.findNow, mke, hs, hd, h2]
      · refine .inr ⟨j + 1, v, by simp [mlook, h, h1], ?_, by simp [place, h, h3], by simp [h4], by simpa using h5⟩
        simp only [List.map_cons, Instr.findNow, mke, hs, hd]
        rw [show i + (j + 1) = i + 1 + j by omega]
        exact h2
theorem upd_at {kv : κ → Value} (a : κ) (c : Nat) (v : Value) : ∀ (l : Ents κ) (j : Nat), place l a = some j → (upd l c a v).map (mke kv) = (l.map (mke kv)).modify j fun e => { e with key := kv a, val := v }
  | [], j, h => by cases h
  | x :: l, j, h => by
    unfold place at h
    unfold upd
    by_cases e : x.1 = a
    · rw [if_pos e] at h
      obtain rfl := Option.some.inj h
      rw [if_pos e]
      simp [mke, e]
    · rw [if_neg e] at h
      obtain ⟨j', h1, rfl⟩ := Option.map_eq_some_iff.1 h
      rw [if_neg e]
      simp [upd_at a c v l j' h1]
theorem upd_new {kv : κ → Value} (a : κ) (c : Nat) (v : Value) : ∀ (l : Ents κ), mlook l a = none → (upd l c a v).map (mke kv) = l.map (mke kv) ++ [{ key := kv a, val := v, born := c }]
  | [], _ => rfl
  | x :: l, h => by
    unfold mlook at h
    unfold upd
    by_cases e : x.1 = a
    · rw [if_pos e] at h; cases h
    · rw [if_neg e] at h
      rw [if_neg e]
      simp [upd_new a c v l h]
variable {P : Program} {env : Env} {L : List Assn}
theorem run_look {w : World} {t kt et b c : Nat} {kv : κ → Value} {l : Ents κ} {z : Value} (hm : TMap P t kt et) (hk : TKey P kt kv) (hz : (zeroValue et).run P w = .ok z w) (hb : w.heap[b]? = some (.map (l.map (mke kv)).toArray c)) (a : κ) (ok : Bool) :
    (Instr.lookup t (.map (some b)) (kv a) ok).run P w = .ok (if ok then .tuple #[(mlook l a).getD z, .bool (mlook l a).isSome] else (mlook l a).getD z) w := by
  obtain ⟨d, hd, hik, hs⟩ := hk.ok
  have hck : ∀ e, (Instr.checkKey e 10000 kt (kv a)).run P w = .ok () w := fun e => run_checkKey (P := P) (w := w) hd (hik a) e 9999
  rcases find_place hs a l 0 with ⟨h1, h2, _⟩ | ⟨j, v, h1, h2, _⟩
  · have hf := run_findKey (P := P) (w := w) (l := l.map (mke kv)) hd h2
    rw [h1]
    cases ok <;> simp [Instr.lookup, run_underlying hm.und, run_getObj_map hb, hck, hf, hz, Result.andThen]
  · have hf := run_findKey (P := P) (w := w) (l := l.map (mke kv)) hd h2
    rw [h1]
    cases ok <;> simp [Instr.lookup, run_underlying hm.und, run_getObj_map hb, hck, hf, Result.andThen]

theorem run_upd {w : World} {t kt et b c : Nat} {kv : κ → Value} {l : Ents κ} (hm : TMap P t kt et) (hk : TKey P kt kv) (hb : w.heap[b]? = some (.map (l.map (mke kv)).toArray c)) (a : κ) (v : Value) :
    (Instr.mapUpdate t (.map (some b)) (kv a) v).run P w = .ok () { w with heap := w.heap.setIfInBounds b (.map ((upd l c a v).map (mke kv)).toArray (updC l c a)) } := by
  obtain ⟨d, hd, hik, hs⟩ := hk.ok
  have hck : ∀ e, (Instr.checkKey e 10000 kt (kv a)).run P w = .ok () w := fun e => run_checkKey (P := P) (w := w) hd (hik a) e 9999
  rcases find_place hs a l 0 with ⟨h1, h2, _⟩ | ⟨j, u, h1, h2, h3, h4, h5⟩
  · have hf := run_findKey (P := P) (w := w) (l := l.map (mke kv)) hd h2
    have e := upd_new (kv := kv) a c v l h1
    simp [Instr.mapUpdate, run_underlying hm.und, run_getObj_map hb, hck, hf, run_setObj_map _ hb, Result.andThen, updC, h1, e]
  · have hf := run_findKey (P := P) (w := w) (l := l.map (mke kv)) hd h2
    have e := upd_at (kv := kv) a c v l j h3
    have hkey : (Option.map ((fun x : MapEntry => x.key) ∘ mke kv) l[j]?).getD (kv a) = kv a := by
      cases hx : l[j]? with
      | none => rfl
      | some x => rw [hx] at h5; simp only [Option.map_some, Option.some.injEq] at h5; simp [mke, h5]
    have hst := run_keyThatStays (P := P) (w := w) (hik a)
    simp only [Nat.zero_add] at hf
    simp [Instr.mapUpdate, run_underlying hm.und, run_getObj_map hb, hck, hf, run_setObj_map _ hb, Result.andThen, updC, h1, e, hkey, hst]
class InM (b : Nat) (L : List Assn) (kv : outParam (κ → Value)) (l : outParam (Ents κ)) (c : outParam Nat) : Prop where
  ok : ∃ R, Take (mpe b kv l c) L R
instance InM.here {b c : Nat} {kv : κ → Value} {l : Ents κ} {L : List Assn} : InM b (mpe b kv l c :: L) kv l c := ⟨L, .here⟩
instance (priority := low) InM.there {b c : Nat} {kv : κ → Value} {l : Ents κ} {A : Assn} {L : List Assn} [h : InM b L kv l c] : InM b (A :: L) kv l c := ⟨A :: h.ok.choose, .there h.ok.choose_spec⟩
class TZv (P : Program) (t : TypeId) (z : outParam Value) : Prop where
  ok : (P.info? t).bind (·.zero) = some z
theorem TZv.run {t : TypeId} {z : Value} (h : TZv P t z) (w : World) : (zeroValue t).run P w = .ok z w := by
  have h := h.ok
  cases hi : P.info? t with
  | none => rw [hi] at h; cases h
  | some i => rw [hi] at h; simp [zeroValue, typeInfo, hi, show i.zero = some z from h]
theorem rd_mlook2 {t kt et b c : Nat} {kv : κ → Value} {l : Ents κ} {z : Value} [hm : TMap P t kt et] [hk : TKey P kt kv] [hz : TZv P et z] {m x : Operand} [hb : InM b L kv l c] (a : κ) (hx : evalE env m = some (.map (some b))) (hy : evalE env x = some (kv a)) : Rd P env L (.lookup t m x true) (.tuple #[(mlook l a).getD z, .bool (mlook l a).isSome]) := by
  intro ρ hρ dst ty pos af g E w hh
  obtain ⟨R, ht⟩ := hb.ok
  have hob := hh.one_get ht
  have hr := run_look hm hk (hz.run w) hob a true
  simp only [if_true] at hr
  simp [execOp, hρ m _ hx, hρ x _ hy, hr]
theorem ef_upd {t kt et b c : Nat} {kv : κ → Value} {l : Ents κ} {R : List Assn} [hm : TMap P t kt et] [hk : TKey P kt kv] {m x y : Operand} (a : κ) {v : Value} (hx : evalE env m = some (.map (some b))) (hy : evalE env x = some (kv a)) (hv : evalE env y = some v) (hL : Split L [mpe b kv l c] R) :
    Ef P env L (.mapUpdate t m x y) (fun k => k undef (mpe b kv (upd l c a v) (updC l c a) :: R)) := by
  intro ro dst tt pos af g N E a' w next Q k hf hh hk' hn
  have h2 := hh.ent hL.ent
  have hob := h2.one_get .here
  have hu := run_upd hm hk hob a v
  have hlt : b < w.heap.size := (Array.getElem?_eq_some_iff.1 hob).1
  have hrun : (execOp a'.eval ⟨dst, .mapUpdate t m x y, tt, pos, af, g⟩).run P w = .ok .skip { w with heap := w.heap.setIfInBounds b (.map ((upd l c a v).map (mke kv)).toArray (updC l c a)) } := by
    simp [execOp, hf.ev m _ hx, hf.ev x _ hy, hf.ev y _ hv, hu]
  refine wpIn_skip_op hrun (hn undef _ _ hk' (h2.upd (b := b) .here _ rfl rfl rfl (by simp) ?_ ?_))
  · simp [hlt]
  · intro k hne
    simp [Ne.symm hne]
omit [DecidableEq κ] in
theorem ef_makeMap {t : TypeId} {kv : κ → Value} : Ef P env L (.makeMap t none) (fun k => ∀ b, k (.map (some b)) (mpe b kv [] 0 :: L)) :=
  ef_new_of (f := fun b => .map (some b)) (o := .map #[] 0) fun ρ hρ dst ty pos af g w => by
    simp [execOp, Instr.makeMap]
def ikv (a : Int) : Value := .int .i64 a
def skv (a : ByteArray) : Value := .string a
instance TKey.int {kt : TypeId} [h : TInt P kt .i64] : TKey P kt ikv := ⟨_, h.und, fun _ => rfl, fun a b => by simp [ikv, Instr.sameNow]; rw [Bool.eq_iff_iff]; simp⟩
instance TKey.str {kt : TypeId} [h : TStr P kt] : TKey P kt skv := ⟨_, h.und, fun _ => trivial, fun a b => by simp [skv, Instr.sameNow]; rw [Bool.eq_iff_iff, bytes_beq]; simp⟩
end
end SX
