/- Drawn regions: guards on what acts, and more than one that may come next. -/
import Derived.Test.YtfbfmokgpdmcfaaDoorSxMore
namespace SX
open Go
variable {P : Program} {ro : Option Nat} {ops : Array Oper} {Q : Post} {N : Nat} {rds : List Nat} {fuel : Nat} {listed : Array Bool} {live : Bool} {env : Env} {Lr Lx : List Assn} {d : Nat} {op : Op} {ty : TypeId} {pos : String} {af : Array Edge}

/-- number i comes next -/
def swdAt (P : Program) (ro : Option Nat) (ops : Array Oper) (Q : Post) (N : Nat) (rds : List Nat) (fuel : Nat) (listed : Array Bool) (live : Bool) (env : Env) (Lr Lx : List Assn) (i : Nat) : Prop :=
  ∀ E D a w, a.defers = D.map mark → Fr N a env → (if live then H (E.add D) w (Lr ++ Lx) else H (E.add D) w Lx) → Closed .any ops listed → i ∈ Region.ready .any ops listed →
    wpOpIn (FW ro) 0 P ops (PQ E N Q) i (fun a' w' => (H (E.add D) w' Lr ∨ (rds.all fun r => ancB .any ops r ops.size i) = true ∨ w' = w) ∧
      wpAnyE P ro .any ops (PQ E N Q) (fun w => H (E.add D) w Lr) (fun j => rds.all fun i => ancB .any ops i ops.size j) fuel (listed.setIfInBounds i true) a' w') a w

def AllOf (p : Nat → Prop) : List Nat → Prop
  | [] => True
  | [i] => p i
  | i :: is => p i ∧ AllOf p is
theorem AllOf.spec {p : Nat → Prop} : ∀ {is : List Nat}, AllOf p is → ∀ i ∈ is, p i
  | [], _, _, h => by cases h
  | [_], hp, i, h => by rw [List.mem_singleton] at h; subst h; exact hp
  | _ :: _ :: _, ⟨h1, h2⟩, i, h => by
    rcases List.mem_cons.1 h with rfl | h
    · exact h1
    · exact AllOf.spec h2 i h
/-- some may come next -/
theorem d_amb (is : List Nat) (hr : Region.ready .any ops listed = is) (hne : is.isEmpty = false) (h : AllOf (swdAt P ro ops Q N rds fuel listed live env Lr Lx) is) : swd P ro ops Q N rds (fuel + 1) listed live env Lr Lx := by
  intro E D a w hD hf hh hc
  refine ⟨fun h0 => (by rw [hr] at h0; subst h0; cases hne), fun j hj => ?_⟩
  exact h.spec j (hr ▸ hj) E D a w hD hf hh hc hj

theorem wpOpIn_on {i : Nat} {o : Oper} {a : Act} {w : World} {Q : Exit → Act → World → Prop} {K : Act → World → Prop} (hi : ops[i]? = some o) (hw : Region.wanted o (yielded ops a.tmps) = true) (h : o.wpIn (FW ro) 0 P a w K Q) : wpOpIn (FW ro) 0 P ops Q i K a w := by
  unfold wpOpIn
  simp only [hi]
  rw [if_pos hw]
  exact h
/-- the guard is what is wanted, or there is none -/
inductive GOn (ops : Array Oper) (env : Env) : Option (Nat × Bool) → Prop
  | none : GOn ops env none
  | some {g t : Nat} {want : Bool} (hg : gslot ops g = some t) (hb : look env t = some (.bool want)) : GOn ops env (some (g, want))
theorem GOn.wanted {a : Act} {dst : Option Nat} {g : Option (Nat × Bool)} (hf : Fr N a env) (h : GOn ops env g) : Region.wanted ⟨dst, op, ty, pos, af, g⟩ (yielded ops a.tmps) = true := by
  cases h with
  | none => simp [Region.wanted]
  | some hg hb => simp [Region.wanted, yielded_of hf hg hb]
theorem Ef.guard {op : Op} {Φ : (Value → List Assn → Prop) → Prop} {L : List Assn} (h : Ef P env L op Φ) {ro : Option Nat} {dst : Option Nat} {g : Option (Nat × Bool)} {N : Nat} {E : Ctx} {a : Act} {w : World} {next : Act → World → Prop} {Q : Exit → Act → World → Prop} {k : Value → List Assn → Prop}
    (hf : Fr N a env) (hh : H E w L) (hk : Φ k) (hn : ∀ v w' L', k v L' → H E w' L' → next (a.put dst v) w') : Oper.wpIn (FW ro) 0 P ⟨dst, op, ty, pos, af, g⟩ a w next Q := h ro dst ty pos af g N E a w next Q k hf hh hk hn

theorem dA_ef (i : Nat) {g : Option (Nat × Bool)} {Φ : (Value → List Assn → Prop) → Prop} {L : List Assn} (hi : ops[i]? = some ⟨some d, op, ty, pos, af, g⟩) (hg : GOn ops env g) [hl : AppC Lr Lx L] (h : Ef P env L op Φ)
    (hk : Φ (fun v L' => ∃ Lx', Ent L' (Lr ++ Lx') ∧ swd P ro ops Q N rds fuel (listed.setIfInBounds i true) true ((d, v) :: env) Lr Lx')) (hd : Nat.blt d N = true := by rfl) : swdAt P ro ops Q N rds fuel listed true env Lr Lx i := by
  intro E D a w hD hf hh hc hri
  refine wpOpIn_on hi (hg.wanted hf) (h.guard hf (by rw [← hl.ok]; exact hh) hk fun v w' L' ⟨Lx', he, hs⟩ h' => ⟨.inl (H.left (h'.ent he)), ?_⟩)
  exact hs E D _ w' ((put_defers a _ _).trans hD) (hf.put hd v) (h'.ent he) (hc.set hri)
theorem dA_ef0 (i : Nat) {g : Option (Nat × Bool)} {Φ : (Value → List Assn → Prop) → Prop} {L : List Assn} (hi : ops[i]? = some ⟨none, op, ty, pos, af, g⟩) (hg : GOn ops env g) [hl : AppC Lr Lx L] (h : Ef P env L op Φ)
    (hk : Φ (fun _ L' => ∃ Lx', Ent L' (Lr ++ Lx') ∧ swd P ro ops Q N rds fuel (listed.setIfInBounds i true) true env Lr Lx')) : swdAt P ro ops Q N rds fuel listed true env Lr Lx i := by
  intro E D a w hD hf hh hc hri
  refine wpOpIn_on hi (hg.wanted hf) (h.guard hf (by rw [← hl.ok]; exact hh) hk fun v w' L' ⟨Lx', he, hs⟩ h' => ⟨.inl (H.left (h'.ent he)), ?_⟩)
  exact hs E D _ w' ((put_defers a _ _).trans hD) (hf.put0 v) (h'.ent he) (hc.set hri)
theorem dA_fint (i : Nat) {g : Option (Nat × Bool)} {Φ : (Value → List Assn → Prop) → Prop} {L : List Assn} (hi : ops[i]? = some ⟨some d, op, ty, pos, af, g⟩) (hg : GOn ops env g) (hex : (rds.all fun r => ancB .any ops r ops.size i) = true) [hl : AppC Lr Lx L] (h : Ef P env L op Φ)
    (hk : Φ (fun v L' => swd P ro ops Q N rds fuel (listed.setIfInBounds i true) false ((d, v) :: env) Lr L')) (hd : Nat.blt d N = true := by rfl) : swdAt P ro ops Q N rds fuel listed true env Lr Lx i := by
  intro E D a w hD hf hh hc hri
  refine wpOpIn_on hi (hg.wanted hf) (h.guard hf (by rw [← hl.ok]; exact hh) hk fun v w' L' hs h' => ⟨.inr (.inl hex), ?_⟩)
  exact hs E D _ w' ((put_defers a _ _).trans hD) (hf.put hd v) h' (hc.set hri)
theorem dA_finf (i : Nat) {g : Option (Nat × Bool)} {Φ : (Value → List Assn → Prop) → Prop} (hi : ops[i]? = some ⟨some d, op, ty, pos, af, g⟩) (hg : GOn ops env g) (hex : (rds.all fun r => ancB .any ops r ops.size i) = true) (h : Ef P env Lx op Φ)
    (hk : Φ (fun v L' => swd P ro ops Q N rds fuel (listed.setIfInBounds i true) false ((d, v) :: env) Lr L')) (hd : Nat.blt d N = true := by rfl) : swdAt P ro ops Q N rds fuel listed false env Lr Lx i := by
  intro E D a w hD hf hh hc hri
  refine wpOpIn_on hi (hg.wanted hf) (h.guard hf hh hk fun v w' L' hs h' => ⟨.inr (.inl hex), ?_⟩)
  exact hs E D _ w' ((put_defers a _ _).trans hD) (hf.put hd v) h' (hc.set hri)
theorem dA_fin0t (i : Nat) {g : Option (Nat × Bool)} {Φ : (Value → List Assn → Prop) → Prop} {L : List Assn} (hi : ops[i]? = some ⟨none, op, ty, pos, af, g⟩) (hg : GOn ops env g) (hex : (rds.all fun r => ancB .any ops r ops.size i) = true) [hl : AppC Lr Lx L] (h : Ef P env L op Φ)
    (hk : Φ (fun _ L' => swd P ro ops Q N rds fuel (listed.setIfInBounds i true) false env Lr L')) : swdAt P ro ops Q N rds fuel listed true env Lr Lx i := by
  intro E D a w hD hf hh hc hri
  refine wpOpIn_on hi (hg.wanted hf) (h.guard hf (by rw [← hl.ok]; exact hh) hk fun v w' L' hs h' => ⟨.inr (.inl hex), ?_⟩)
  exact hs E D _ w' ((put_defers a _ _).trans hD) (hf.put0 v) h' (hc.set hri)
theorem dA_fin0f (i : Nat) {g : Option (Nat × Bool)} {Φ : (Value → List Assn → Prop) → Prop} (hi : ops[i]? = some ⟨none, op, ty, pos, af, g⟩) (hg : GOn ops env g) (hex : (rds.all fun r => ancB .any ops r ops.size i) = true) (h : Ef P env Lx op Φ)
    (hk : Φ (fun _ L' => swd P ro ops Q N rds fuel (listed.setIfInBounds i true) false env Lr L')) : swdAt P ro ops Q N rds fuel listed false env Lr Lx i := by
  intro E D a w hD hf hh hc hri
  refine wpOpIn_on hi (hg.wanted hf) (h.guard hf hh hk fun v w' L' hs h' => ⟨.inr (.inl hex), ?_⟩)
  exact hs E D _ w' ((put_defers a _ _).trans hD) (hf.put0 v) h' (hc.set hri)
theorem d_ef0t (i : Nat) {Φ : (Value → List Assn → Prop) → Prop} {L' : List Assn} (hi : ops[i]? = some ⟨none, op, ty, pos, af, none⟩) (hr : Region.ready .any ops listed = [i]) [hl : AppC Lr Lx L'] (h : Ef P env L' op Φ)
    (hk : Φ (fun _ L'' => ∃ Lx', Ent L'' (Lr ++ Lx') ∧ swd P ro ops Q N rds fuel (listed.setIfInBounds i true) true env Lr Lx')) : swd P ro ops Q N rds (fuel + 1) listed true env Lr Lx := d_ef0 i hi hr (by rw [hl.ok]; exact h) hk
theorem d_ent {L' : List Assn} (he : Ent Lx L') (k : swd P ro ops Q N rds fuel listed false env Lr L') : swd P ro ops Q N rds fuel listed false env Lr Lx := fun E D a w hD hf hh hc => k E D a w hD hf (H.ent hh he) hc
end SX
