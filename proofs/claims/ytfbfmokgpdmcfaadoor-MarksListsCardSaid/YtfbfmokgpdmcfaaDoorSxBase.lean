/- A small separation logic over the model's worlds, and a walk of Go code that keeps no world: the frame as a list of slots, the heap as a list of assertions. -/
import Derived.WalkKit
import Derived.OrdersHeld
import Derived.KernelRfl
namespace SX
open Go

/-! ## Heaps -/
abbrev PH := Nat → Option Obj
def Assn := PH → Prop

def Sat : List Assn → PH → Prop
  | [], _ => True
  | A :: L, m => ∃ m1 m2 : PH, A m1 ∧ Sat L m2 ∧ (∀ b, m1 b = none ∨ m2 b = none) ∧ (∀ b o, m1 b = some o → m b = some o) ∧ (∀ b o, m2 b = some o → m b = some o)

theorem Sat.mono {L : List Assn} {m m' : PH} (h : Sat L m) (hm : ∀ b o, m b = some o → m' b = some o) : Sat L m' := by
  cases L with
  | nil => trivial
  | cons A L =>
    obtain ⟨m1, m2, h1, h2, hd, s1, s2⟩ := h
    exact ⟨m1, m2, h1, h2, hd, fun b o h => hm b o (s1 b o h), fun b o h => hm b o (s2 b o h)⟩

/-- the union of two heaps that are apart -/
def PH.or (m1 m2 : PH) : PH := fun b => (m1 b).or (m2 b)

theorem PH.or_left {m1 m2 : PH} {b : Nat} {o : Obj} (h : m1 b = some o) : (m1.or m2) b = some o := by simp [PH.or, h]
theorem PH.or_right {m1 m2 : PH} (hd : ∀ b, m1 b = none ∨ m2 b = none) {b : Nat} {o : Obj} (h : m2 b = some o) : (m1.or m2) b = some o := by
  rcases hd b with h1 | h1
  · simp [PH.or, h1, h]
  · rw [h1] at h; cases h
theorem PH.or_inv {m1 m2 : PH} {b : Nat} {o : Obj} (h : (m1.or m2) b = some o) : m1 b = some o ∨ m2 b = some o := by
  unfold PH.or at h
  cases h1 : m1 b with
  | none => rw [h1] at h; exact .inr (by simpa using h)
  | some x => rw [h1] at h; exact .inl (by simpa using h)

theorem Sat.swap {A B : Assn} {L : List Assn} {m : PH} (h : Sat (A :: B :: L) m) : Sat (B :: A :: L) m := by
  obtain ⟨m1, m2, h1, ⟨n1, n2, k1, k2, kd, t1, t2⟩, hd, s1, s2⟩ := h
  have apart : ∀ b, m1 b = none ∨ n2 b = none := fun b => (hd b).imp_right fun h => by
    cases hn : n2 b with
    | none => rfl
    | some o => rw [t2 b o hn] at h; cases h
  refine ⟨n1, m1.or n2, k1, ⟨m1, n2, h1, k2, apart, fun b o h => PH.or_left h, fun b o h => PH.or_right apart h⟩, ?_, fun b o h => s2 b o (t1 b o h), ?_⟩
  · intro b
    cases hn : n1 b with
    | none => exact .inl rfl
    | some o =>
      right
      have e1 : m1 b = none := (hd b).resolve_right (by rw [t1 b o hn]; simp)
      have e2 : n2 b = none := (kd b).resolve_left (by rw [hn]; simp)
      simp [PH.or, e1, e2]
  · intro b o h
    rcases PH.or_inv h with h | h
    · exact s1 b o h
    · exact s2 b o (t2 b o h)

theorem Sat.cons_mono {A : Assn} {L L' : List Assn} (hh : ∀ m, Sat L m → Sat L' m) {m : PH} (h : Sat (A :: L) m) : Sat (A :: L') m := by
  obtain ⟨m1, m2, h1, h2, hd, s1, s2⟩ := h
  exact ⟨m1, m2, h1, hh _ h2, hd, s1, s2⟩

theorem Sat.perm {L L' : List Assn} (p : L.Perm L') : ∀ m, Sat L m → Sat L' m := by
  induction p with
  | nil => exact fun _ h => h
  | cons A _ ih => exact fun _ h => Sat.cons_mono ih h
  | swap A B L => exact fun _ h => h.swap
  | trans _ _ ih1 ih2 => exact fun m h => ih2 m (ih1 m h)

theorem Sat.tail {A : Assn} {L : List Assn} {m : PH} (h : Sat (A :: L) m) : Sat L m := by
  obtain ⟨m1, m2, h1, h2, hd, s1, s2⟩ := h
  exact h2.mono s2

theorem Sat.imp {A B : Assn} {L : List Assn} {m : PH} (hh : ∀ m, A m → B m) (h : Sat (A :: L) m) : Sat (B :: L) m := by
  obtain ⟨m1, m2, h1, h2, hd, s1, s2⟩ := h
  exact ⟨m1, m2, hh _ h1, h2, hd, s1, s2⟩

/-- entailment -/
def Ent (L L' : List Assn) : Prop := ∀ m, Sat L m → Sat L' m
theorem Ent.refl (L : List Assn) : Ent L L := fun _ h => h
theorem Ent.trans {L1 L2 L3 : List Assn} (h : Ent L1 L2) (k : Ent L2 L3) : Ent L1 L3 := fun m x => k m (h m x)
theorem Ent.perm {L L' : List Assn} (p : L.Perm L') : Ent L L' := Sat.perm p
theorem Ent.cons {A : Assn} {L L' : List Assn} (h : Ent L L') : Ent (A :: L) (A :: L') := fun _ => Sat.cons_mono h
theorem Ent.drop {A : Assn} {L : List Assn} : Ent (A :: L) L := fun _ h => h.tail
theorem Ent.swap {A B : Assn} {L : List Assn} : Ent (A :: B :: L) (B :: A :: L) := fun _ h => h.swap
theorem Ent.imp {A B : Assn} {L : List Assn} (hh : ∀ m, A m → B m) : Ent (A :: L) (B :: L) := fun _ h => h.imp hh
theorem Ent.app {L1 L2 R : List Assn} (h : Ent L1 L2) : Ent (L1 ++ R) (L2 ++ R) := by
  have e : ∀ X : List Assn, (X ++ R).Perm (R ++ X) := fun X => List.perm_append_comm
  have key : ∀ R : List Assn, Ent (R ++ L1) (R ++ L2) := fun R => by
    induction R with
    | nil => exact h
    | cons A R ih => exact Ent.cons ih
  exact (Ent.perm (e L1)).trans ((key R).trans (Ent.perm (e L2).symm))

/-- A is found in L; what is left -/
inductive Take (A : Assn) : List Assn → List Assn → Prop
  | here {L : List Assn} : Take A (A :: L) L
  | there {B : Assn} {L L' : List Assn} (h : Take A L L') : Take A (B :: L) (B :: L')
theorem Take.perm {A : Assn} {L L' : List Assn} (h : Take A L L') : L.Perm (A :: L') := by
  induction h with
  | here => exact .refl _
  | there _ ih => exact (List.Perm.cons _ ih).trans (.swap _ _ _)

/-- L holds all of K, and R besides -/
inductive Split : List Assn → List Assn → List Assn → Prop
  | nil {L : List Assn} : Split L [] L
  | cons {A : Assn} {L L' K R : List Assn} (h : Take A L L') (k : Split L' K R) : Split L (A :: K) R
theorem Split.perm {L K R : List Assn} (h : Split L K R) : L.Perm (K ++ R) := by
  induction h with
  | nil => exact .refl _
  | cons h _ ih => exact h.perm.trans (List.Perm.cons _ ih)
theorem Split.ent {L K R : List Assn} (h : Split L K R) : Ent L (K ++ R) := Ent.perm h.perm
/-- a last step: all that is asked is there (the rest is dropped) -/
theorem Split.ent' {L K R : List Assn} (h : Split L K R) : Ent L K := h.ent.trans (fun m hm => by
  have key : ∀ K : List Assn, Ent (K ++ R) K := fun K => by
    induction K with
    | nil => exact fun _ _ => trivial
    | cons A K ih => exact Ent.cons ih
  exact key K m hm)

/-- one is put in another's place -/
inductive Put (A A' : Assn) : List Assn → List Assn → Prop
  | here {L : List Assn} : Put A A' (A :: L) (A' :: L)
  | there {B : Assn} {L L' : List Assn} (h : Put A A' L L') : Put A A' (B :: L) (B :: L')
theorem Put.spec {A A' : Assn} {L L' : List Assn} (h : Put A A' L L') : ∃ R, L.Perm (A :: R) ∧ (A' :: R).Perm L' := by
  induction h with
  | here => exact ⟨_, .refl _, .refl _⟩
  | there _ ih =>
    obtain ⟨R, h1, h2⟩ := ih
    exact ⟨_ :: R, (List.Perm.cons _ h1).trans (.swap _ _ _), (List.Perm.swap _ _ _).trans (List.Perm.cons _ h2)⟩

/-- what stays: the streams and the tape; and assertions of whoever called -/
structure Ctx where
  w : World
  X : List Assn

def H (E : Ctx) (w : World) (L : List Assn) : Prop :=
  w.os = E.w.os ∧ w.output = E.w.output ∧ w.tape = E.w.tape ∧ E.w.heap.size ≤ w.heap.size ∧ Sat (E.X ++ L) (fun b => w.heap[b]?)

theorem Ent.under {L1 L2 : List Assn} (h : Ent L1 L2) : ∀ X : List Assn, Ent (X ++ L1) (X ++ L2)
  | [] => h
  | _ :: X => Ent.cons (Ent.under h X)
theorem H.ent {E : Ctx} {w : World} {L L' : List Assn} (h : H E w L) (e : Ent L L') : H E w L' := ⟨h.1, h.2.1, h.2.2.1, h.2.2.2.1, e.under E.X _ h.2.2.2.2⟩
theorem H.drew {E : Ctx} {w : World} {L : List Assn} (h : H E w L) : H E w.drew L := h
theorem H.sat {E : Ctx} {w : World} {L : List Assn} (h : H E w L) : Sat L (fun b => w.heap[b]?) := by
  have key : ∀ (X : List Assn) m, Sat (X ++ L) m → Sat L m := fun X => by
    induction X with
    | nil => exact fun _ h => h
    | cons A X ih => exact fun m h => ih m h.tail
  exact key _ _ h.2.2.2.2
/-- what isn't looked at goes to the caller's side, and back -/
theorem H.hide {E : Ctx} {w : World} {L R : List Assn} (h : H E w (L ++ R)) : H ⟨E.w, E.X ++ R⟩ w L :=
  ⟨h.1, h.2.1, h.2.2.1, h.2.2.2.1, Sat.perm (by rw [List.append_assoc]; exact List.Perm.append_left _ List.perm_append_comm) _ h.2.2.2.2⟩
theorem H.show_ {E : Ctx} {w : World} {L R : List Assn} (h : H ⟨E.w, E.X ++ R⟩ w L) : H E w (L ++ R) :=
  ⟨h.1, h.2.1, h.2.2.1, h.2.2.2.1, Sat.perm (by
    show ((E.X ++ R) ++ L).Perm (E.X ++ (L ++ R))
    rw [List.append_assoc]; exact List.Perm.append_left _ List.perm_append_comm) _ h.2.2.2.2⟩

/-- one block, whole -/
def one (b : Nat) (o : Obj) : Assn := fun m => m b = some o
/-- one row of cells, none of them frozen -/
def blk (b : Nat) (t : TypeId) (cs : List Value) : Assn := one b (.cells cs.toArray t (0, 0))

theorem H.one_get {E : Ctx} {w : World} {L L' : List Assn} {b : Nat} {o : Obj} (h : H E w L) (t : Take (one b o) L L') : w.heap[b]? = some o := by
  obtain ⟨m1, m2, h1, _, _, s1, _⟩ := (h.ent (Ent.perm t.perm)).sat
  exact s1 b o h1

theorem perm_out {A : Assn} {X L R : List Assn} (h : L.Perm (A :: R)) : (X ++ L).Perm (A :: (X ++ R)) :=
  (List.Perm.append_left X h).trans List.perm_middle

theorem H.alloc {E : Ctx} {w : World} {L : List Assn} (h : H E w L) (o : Obj) : H E (w.alloc o) (one w.heap.size o :: L) := by
  obtain ⟨h1, h2, h3, h4, h5⟩ := h
  refine ⟨h1, h2, h3, by simp; omega, Sat.perm (perm_out (.refl _)).symm _ ⟨fun b => if b = w.heap.size then some o else none, (fun b => w.heap[b]?), by simp [one], h5, ?_, ?_, ?_⟩⟩
  · intro b
    by_cases hb : b = w.heap.size
    · right; subst hb; simp
    · left; simp [hb]
  · intro b o' hb
    by_cases hb' : b = w.heap.size
    · subst hb'; simp at hb; subst hb; exact heap_alloc_new w _
    · simp [hb'] at hb
  · intro b o' hb
    have hlt : b < w.heap.size := (Array.getElem?_eq_some_iff.1 hb).1
    show (w.alloc o).heap[b]? = some o'
    rw [Go.RowKit.Below.heap_alloc w o b hlt]
    exact hb

theorem H.upd {E : Ctx} {w : World} {L L' : List Assn} {b : Nat} {o o' : Obj} (h : H E w L) (p : Put (one b o) (one b o') L L') (w' : World)
    (e1 : w'.os = w.os) (e2 : w'.output = w.output) (e3 : w'.tape = w.tape) (e4 : w'.heap.size = w.heap.size) (e5 : w'.heap[b]? = some o') (e6 : ∀ k, k ≠ b → w'.heap[k]? = w.heap[k]?) : H E w' L' := by
  obtain ⟨R, p1, p2⟩ := p.spec
  obtain ⟨h1, h2, h3, h4, h5⟩ := h
  obtain ⟨m1, m2, k1, k2, kd, s1, s2⟩ := Sat.perm (perm_out (X := E.X) p1) _ h5
  refine ⟨e1.trans h1, e2.trans h2, e3.trans h3, by omega, Sat.perm ((perm_out (X := E.X) p2.symm).symm) _ ⟨fun k => if k = b then some o' else none, m2, by simp [one], k2, ?_, ?_, ?_⟩⟩
  · intro k
    by_cases hk : k = b
    · right; subst hk
      exact (kd k).resolve_left (by unfold one at k1; rw [k1]; simp)
    · left; simp [hk]
  · intro k x hx
    by_cases hk : k = b
    · subst hk; simp at hx; subst hx; exact e5
    · simp [hk] at hx
  · intro k x hx
    have hkb : k ≠ b := by
      rintro rfl
      rcases kd k with hd | hd
      · unfold one at k1; rw [k1] at hd; cases hd
      · rw [hd] at hx; cases hx
    show w'.heap[k]? = some x
    rw [e6 k hkb]; exact s2 k x hx

theorem H.setCell {E : Ctx} {w : World} {L L' : List Assn} {b t i : Nat} {cs : List Value} (h : H E w L) (v : Value) (p : Put (blk b t cs) (blk b t (cs.set i v)) L L') : H E (w.setCell ⟨b, i, none⟩ v) L' := by
  obtain ⟨R, p1, _⟩ := p.spec
  have hb : w.heap[b]? = some (.cells cs.toArray t (0, 0)) := (h.ent (Ent.perm p1)).one_get .here
  refine h.upd (b := b) (o := .cells cs.toArray t (0, 0)) (o' := .cells (cs.set i v).toArray t (0, 0)) p _ rfl rfl rfl (by simp) ?_ ?_
  · simp [World.setCell, Array.getElem?_modify, hb]
  · intro k hk
    exact Go.RowKit.Below.heap_setCell w _ v k hk

theorem H.cell {E : Ctx} {w : World} {L L' : List Assn} {b t : Nat} {cs : List Value} (h : H E w L) (k : Take (blk b t cs) L L') (i : Nat) : w.cell? ⟨b, i, none⟩ = cs[i]? := by
  have hb := h.one_get k
  simp [World.cell?, hb]

end SX
