/- What is only read: one assertion that owns it all, and pure facts of it that outlive its growth. -/
import Derived.Test.YtfbfmokgpdmcfaaDoorSxRange
import Derived.Test.YtfbfmokgpdmcfaaDoorSxEq
import Derived.Test.YtfbfmokgpdmcfaaDoorSxRow
import Derived.Laws.MakeOwn
namespace SX
open Go

def ro (μ : PH) : Assn := fun m => ∀ b o, μ b = some o → m b = some o
def Le (μ μ' : PH) : Prop := ∀ b o, μ b = some o → μ' b = some o
theorem Le.refl (μ : PH) : Le μ μ := fun _ _ h => h
theorem Le.trans {a b c : PH} (h : Le a b) (k : Le b c) : Le a c := fun x o e => k x o (h x o e)

/-- a cell is there -/
def CellAt (μ : PH) (b i : Nat) (v : Value) : Prop := ∃ cs t fr, μ b = some (.cells cs t fr) ∧ cs[i]? = some v
def RowAt (μ : PH) (b off : Nat) (xs : List Value) : Prop := ∀ j u, xs[j]? = some u → CellAt μ b (off + j) u
theorem CellAt.le {μ μ' : PH} {b i : Nat} {v : Value} (h : CellAt μ b i v) (k : Le μ μ') : CellAt μ' b i v := by
  obtain ⟨cs, t, fr, h1, h2⟩ := h; exact ⟨cs, t, fr, k _ _ h1, h2⟩
theorem RowAt.le {μ μ' : PH} {b off : Nat} {xs : List Value} (h : RowAt μ b off xs) (k : Le μ μ') : RowAt μ' b off xs := fun j u hj => (h j u hj).le k
theorem RowAt.sub {μ : PH} {b off : Nat} {xs : List Value} (h : RowAt μ b off xs) (k n : Nat) : RowAt μ b (off + k) ((xs.drop k).take n) := fun j u hj => by
  rw [List.getElem?_take] at hj
  split at hj
  · rw [List.getElem?_drop] at hj
    rw [Nat.add_assoc]; exact h _ _ hj
  · cases hj
theorem addr_block (A : Addr) (k : Nat) : (A.add k).block = A.block := by unfold Addr.add; split <;> rfl
theorem addr_off (A : Addr) (k : Nat) : (A.add k).off = A.off + k := by unfold Addr.add; split <;> simp_all

/-- L has ro μ -/
class InR (L : List Assn) (μ : outParam PH) : Prop where
  ok : ∃ L', Take (ro μ) L L'
instance InR.here {μ : PH} {L : List Assn} : InR (ro μ :: L) μ := ⟨_, .here⟩
instance (priority := low) InR.there {A : Assn} {L : List Assn} {μ : PH} [h : InR L μ] : InR (A :: L) μ := ⟨let ⟨_, t⟩ := h.ok; ⟨_, .there t⟩⟩

section
variable {P : Program} {env : Env} {L : List Assn} {μ : PH}
theorem ro_get {E : Ctx} {w : World} [hr : InR L μ] (hh : H E w L) {b : Nat} {o : Obj} (h : μ b = some o) : w.heap[b]? = some o := by
  obtain ⟨L', t⟩ := hr.ok
  obtain ⟨m1, m2, h1, _, _, s1, _⟩ := (hh.ent (Ent.perm t.perm)).sat
  exact s1 b o (h1 b o h)
theorem ro_cell {E : Ctx} {w : World} [InR L μ] (hh : H E w L) {b i : Nat} {v : Value} (h : CellAt μ b i v) : w.cell? ⟨b, i, none⟩ = some v := by
  obtain ⟨cs, t, fr, h1, h2⟩ := h
  simp [World.cell?, ro_get hh h1, h2]
theorem ld_ro {t : TypeId} [ht : TOne P t] [InR L μ] {b i : Nat} {v : Value} (h : CellAt μ b i v) : Ld P L t ⟨b, i, none⟩ v := by
  intro E w hh
  have ha := run_isAgg ht.und w
  simp [loadVar, ha, ro_cell hh h]
theorem ld_roA {t n : Nat} [ht : TAgg P t n] [InR L μ] {b i : Nat} {vs : List Value} (hl : vs.length = n) (h : RowAt μ b i vs) : Ld P L t ⟨b, i, none⟩ (.agg vs.toArray) := by
  intro E w hh
  have ha := run_isAgg ht.und w
  have hr := run_loadCells_list (P := P) w ⟨b, i, none⟩ vs (fun j v hv => by rw [addr_add]; exact ro_cell hh (h j v hv))
  rw [hl] at hr
  simp [loadVar, ha, run_sizeOf ht.inf, hr]
/-- a load out of what is only read -/
theorem rd_ro {t : TypeId} [TOne P t] [InR L μ] {x : Operand} {b i : Nat} {v : Value} (hx : evalE env x = some (.pointer (some ⟨b, i, none⟩))) (h : CellAt μ b i v) : Rd P env L (.load t x) v := rd_of_ld hx (ld_ro h)
theorem rd_roA {t n : Nat} [TAgg P t n] [InR L μ] {x : Operand} {b i : Nat} {vs : List Value} (hx : evalE env x = some (.pointer (some ⟨b, i, none⟩))) (hl : vs.length = n) (h : RowAt μ b i vs) : Rd P env L (.load t x) (.agg vs.toArray) := rd_of_ld hx (ld_roA hl h)

/-- a slice that is only read: n cells an element, l elements -/
def Row (μ : PH) (v : Value) (n l : Nat) (xs : List Value) : Prop :=
  xs.length = l * n ∧ ∃ A cap, v = .slice A l cap ∧ l ≤ cap ∧ cap ≤ maxLen ∧ (A = none → cap = 0) ∧ (0 < l → ∃ b off, A = some ⟨b, off, none⟩ ∧ RowAt μ b off xs)
theorem Row.le {μ μ' : PH} {v : Value} {n l : Nat} {xs : List Value} (h : Row μ v n l xs) (k : Le μ μ') : Row μ' v n l xs := by
  obtain ⟨h0, A, cap, h1, h2, h3, h4, h5⟩ := h
  exact ⟨h0, A, cap, h1, h2, h3, h4, fun hl => let ⟨b, off, e, r⟩ := h5 hl; ⟨b, off, e, r.le k⟩⟩
theorem Row.nil (μ : PH) (n : Nat) : Row μ (.slice none 0 0) n 0 [] := ⟨by simp, none, 0, rfl, by omega, by simp [maxLen], fun _ => rfl, fun h => by omega⟩
theorem Row.pos {v : Value} {n l : Nat} {xs : List Value} (h : Row μ v n l xs) (hl : 0 < l) : ∃ b off cap, v = .slice (some ⟨b, off, none⟩) l cap ∧ l ≤ cap ∧ cap ≤ maxLen ∧ RowAt μ b off xs := by
  obtain ⟨h0, A, cap, h1, h2, h3, h4, h5⟩ := h
  obtain ⟨b, off, rfl, r⟩ := h5 hl
  exact ⟨b, off, cap, h1, h2, h3, r⟩
/-- an element of a list that is laid in cells -/
theorem RowAt.elem {β : Type} {f : β → List Value} {n : Nat} (hf : ∀ e, (f e).length = n) {b off : Nat} {es : List β} (h : RowAt μ b off (es.flatMap f)) {i : Nat} {e : β} (hi : es[i]? = some e) : RowAt μ b (off + i * n) (f e) := fun j u hj => by
  rw [Nat.add_assoc]
  exact h _ _ (by have := flat_get hf es [] i e hi j u hj; rwa [List.append_nil] at this)
theorem RowAt.sub' {b off : Nat} {xs a vs c : List Value} (h : RowAt μ b off xs) (hx : xs = a ++ (vs ++ c)) {k : Nat} (hk : a.length = k) : RowAt μ b (off + k) vs := fun j u hj => by
  rw [Nat.add_assoc]
  refine h _ _ ?_
  have hlt : j < vs.length := (List.getElem?_eq_some_iff.1 hj).1
  rw [hx, List.getElem?_append_right (by omega), show k + j - a.length = j by omega, List.getElem?_append_left hlt]
  exact hj
theorem RowAt.cell {b off : Nat} {v : Value} (h : RowAt μ b off [v]) : CellAt μ b off v := by have := h 0 v rfl; rwa [Nat.add_zero] at this

theorem pu_len_row {t : TypeId} {e n b : Nat} [TSl P t e n b] {x : Operand} {v : Value} {n' l : Nat} {xs : List Value} (hr : Row μ v n' l xs) (hx : evalE env x = some v) : Pu P env (.call { callee := .builtin .len, args := #[x], argTypes := #[t] }) (.int .i64 l) := by
  obtain ⟨_, A, cap, rfl, _⟩ := hr
  exact pu_len hx
theorem pu_len_own {t : TypeId} {e n b : Nat} [TSl P t e n b] {x : Operand} {v : Value} {l : Nat} (hr : ∃ A cap, v = .slice A l cap) (hx : evalE env x = some v) : Pu P env (.call { callee := .builtin .len, args := #[x], argTypes := #[t] }) (.int .i64 l) := by
  obtain ⟨A, cap, rfl⟩ := hr
  exact pu_len hx

theorem pu_slice_loA {t e n by_ : Nat} [h : TSl P t e n by_] {x y : Operand} {A : Option Addr} {l c : Nat} {ki : IntKind} {lo : Int} (k : Nat) (hx : evalE env x = some (.slice A l c)) (hy : evalE env y = some (.int ki lo)) (hk : lo = (k : Int)) (hc : k ≤ l) :
    Pu P env (.slice t x (some y) none none) (.slice (if c = k then A else A.map (·.add (k * n))) (l - k) (c - k)) := fun ρ hρ _ _ _ _ _ w => by
  obtain ⟨j, he, hj, hn, _⟩ := h.ok
  have h0 : (0 : Int) ≤ (k : Int) ∧ (k : Int) ≤ (l : Int) := ⟨by omega, by omega⟩
  by_cases hck : c = k
  · (simp [execOp, hρ x _ hx, hρ y _ hy, hk, Instr.sliceAt, run_underlying he, Instr.slice, Instr.sliceBounds, Instr.sliceBound, asIntOf, h0, Go.sizeOf, typeInfo, hj, hck]; try (intro hlt; omega))
  · (simp [execOp, hρ x _ hx, hρ y _ hy, hk, Instr.sliceAt, run_underlying he, Instr.slice, Instr.sliceBounds, Instr.sliceBound, asIntOf, h0, Go.sizeOf, typeInfo, hj, hck, hn]; try (intro hlt; omega))
theorem Row.lo {t e n by_ : Nat} [h : TSl P t e n by_] {v : Value} {l : Nat} {xs : List Value} (hr : Row μ v n l xs) (k : Nat) (hk : k ≤ l) :
    ∃ v', Row μ v' n (l - k) (xs.drop (k * n)) ∧ ∀ (env : Env) (x y : Operand) (ki : IntKind) (lo : Int), evalE env x = some v → evalE env y = some (.int ki lo) → lo = (k : Int) → Pu P env (.slice t x (some y) none none) v' := by
  obtain ⟨h0, A, cap, rfl, h2, h3, h4, h5⟩ := hr
  have hlen : (xs.drop (k * n)).length = (l - k) * n := by rw [List.length_drop, h0, Nat.sub_mul]
  refine ⟨_, ⟨hlen, _, _, rfl, by omega, by omega, fun hA => ?_, fun hl => ?_⟩, fun env x y ki lo hx hy hl => pu_slice_loA k hx hy hl hk⟩
  · split at hA
    · omega
    · rw [Option.map_eq_none_iff] at hA; have := h4 hA; omega
  · obtain ⟨b, off, rfl, hr⟩ := h5 (by omega)
    rw [if_neg (by omega)]
    refine ⟨b, off + k * n, by simp [addr_add], fun j u hj => ?_⟩
    rw [Nat.add_assoc]
    rw [List.getElem?_drop] at hj
    exact hr _ _ hj
theorem Row.hi {t e n by_ : Nat} [h : TSl P t e n by_] {v : Value} {l : Nat} {xs : List Value} (hr : Row μ v n l xs) (k : Nat) (hk : k ≤ l) :
    ∃ v', Row μ v' n k (xs.take (k * n)) ∧ ∀ (env : Env) (x y : Operand) (ki : IntKind) (hi : Int), evalE env x = some v → evalE env y = some (.int ki hi) → hi = (k : Int) → Pu P env (.slice t x none (some y) none) v' := by
  obtain ⟨h0, A, cap, rfl, h2, h3, h4, h5⟩ := hr
  have hlen : (xs.take (k * n)).length = k * n := by rw [List.length_take, h0]; exact Nat.min_eq_left (Nat.mul_le_mul_right n hk)
  refine ⟨_, ⟨hlen, _, _, rfl, by omega, by omega, h4, fun hl => ?_⟩, fun env x y ki lo hx hy hl => pu_slice_hi k hx hy hl (by omega)⟩
  obtain ⟨b, off, rfl, hr⟩ := h5 (by omega)
  refine ⟨b, off, rfl, fun j u hj => ?_⟩
  rw [List.getElem?_take] at hj
  split at hj
  · exact hr _ _ hj
  · cases hj

/-- append of what is only read to a slice of one's own -/
theorem H.append_ro {E : Ctx} {w : World} {t e : TypeId} {n by_ : Nat} (ht : TSl P t e n by_) {zs : List Value} (hz : TZero P e zs) (hzl : zs.length = n) (hn0 : 0 < n) [hr : InR L μ]
    {v s : Value} {l m : Nat} {xs news : List Value} (h : H E w (own e n v l xs :: L)) (hs : Row μ s n m news) (h1 : news.all Value.oneCell' = true) (h63 : l + m ≤ maxLen) (hby : (l + m) * by_ ≤ 140737488355328) (ty : TypeId) :
    ∃ v' w', (Builtin.append_ #[t, t] ty #[v, s]).run P w = .ok v' w' ∧ H E w' (own e n v' (l + m) (xs ++ news) :: L) ∧ (m ≠ 0 → ∃ g cap, v' = .slice (some ⟨g, 0, none⟩) (l + m) cap) := by
  obtain ⟨i, hu, hi, hin, hib⟩ := ht.ok
  obtain ⟨i', z, hi', hzz, hzc⟩ := hz.ok
  have : i' = i := Option.some.inj (hi'.symm.trans hi)
  subst this
  obtain ⟨hsl, A, cap, rfl, _, _, _, hpos⟩ := hs
  by_cases hm0 : m = 0
  · subst hm0
    have hnil : news = [] := List.eq_nil_of_length_eq_zero (by rw [hsl]; simp)
    subst hnil
    refine ⟨v, w, ?_, by simpa using h, by simp⟩
    have hld : ∀ B : Addr, (loadCells B 0).run P w = .ok #[] w := fun B => run_loadCells_list (P := P) w B [] (by simp)
    obtain ⟨m1, m2, ho, _⟩ := h.sat
    rcases ho.2 with ⟨rfl, rfl⟩ | ⟨g, cap, cur, rfl, _, hc, _⟩
    · cases A with
      | none => simp [Builtin.append_, run_underlying hu, Go.sizeOf, typeInfo, hi, Builtin.lenOf, Builtin.firstCells]
      | some A => simp [Builtin.append_, run_underlying hu, Go.sizeOf, typeInfo, hi, Builtin.lenOf, Builtin.firstCells, hld A]
    · cases A with
      | none => simp [Builtin.append_, run_underlying hu, Go.sizeOf, typeInfo, hi, Builtin.lenOf, Builtin.firstCells, hc, storeCells]
      | some A => simp [Builtin.append_, run_underlying hu, Go.sizeOf, typeInfo, hi, Builtin.lenOf, Builtin.firstCells, hc, storeCells, hld A]
  · obtain ⟨ab, off, rfl, hrow⟩ := hpos (by omega)
    have hcells : ∀ j u, news[j]? = some u → w.cell? ((⟨ab, off, none⟩ : Addr).add j) = some u := fun j u hj => by
      rw [addr_add]; exact ro_cell (L := own e n v l xs :: L) h (hrow j u hj)
    obtain ⟨e1, e2, e3, e4, h5⟩ := h
    obtain ⟨m1, m2, ho, hL, hd, s1, s2⟩ := Sat.perm (perm_out (X := E.X) (.refl _)) _ h5
    have hown : w.ownsRow 0 e n v l xs := by
      refine ⟨ho.1, ?_⟩
      rcases ho.2 with hnil | ⟨g, cap, cur, hv, hg, r⟩
      · exact .inl hnil
      · exact .inr ⟨g, cap, cur, hv, Nat.zero_le _, s1 _ _ hg, r⟩
    obtain ⟨v', w', hrun, hown', hg, hnn, hat⟩ := run_append_own_at (P := P) w 0 t ty e i' z n by_ hu hi hzz hin hib (by rw [hzc]; simpa using hzl) hn0 v l xs hown ⟨ab, off, none⟩ m cap news hsl hcells (by simpa using h1) h63 hby (Nat.zero_le _)
    have hlt2 : ∀ k o, m2 k = some o → k < w.heap.size := fun k o hk => (Array.getElem?_eq_some_iff.1 (s2 k o hk)).1
    have hvm : ∀ k, v.ownBlock = some k → m2 k = none := fun k hk => by
      rcases ho.2 with ⟨rfl, _⟩ | ⟨g0, cap, cur, rfl, hgm, _⟩
      · simp [Value.ownBlock] at hk
      · simp [Value.ownBlock] at hk
        subst hk
        exact (hd g0).resolve_left (by rw [hgm]; simp)
    have hm2 : ∀ k o, m2 k = some o → w'.heap[k]? = some o := fun k o hk => by
      rw [hg.block k (hlt2 k o hk) (fun he => by rw [hvm k he.symm] at hk; cases hk)]
      exact s2 k o hk
    refine ⟨v', w', hrun, ⟨hg.os.trans e1, hg.output.trans e2, hg.tape.trans e3, Nat.le_trans e4 hg.size, Sat.perm (perm_out (X := E.X) (.refl _)).symm _ ⟨fun k => if v'.ownBlock = some k then w'.heap[k]? else none, m2, ?_, hL, ?_, ?_, hm2⟩⟩, ?_⟩
    · refine ⟨hown'.1, ?_⟩
      rcases hown'.2 with hnil | ⟨g, cap, cur, rfl, _, hgg, r⟩
      · exact .inl hnil
      · exact .inr ⟨g, cap, cur, rfl, by simpa [Value.ownBlock] using hgg, r⟩
    · intro k
      by_cases hk : v'.ownBlock = some k
      · right
        rcases hat with he | he
        · exact hvm k (he ▸ hk)
        · rw [he] at hk
          cases hm : m2 k with
          | none => rfl
          | some o => have := hlt2 k o hm; simp at hk; omega
      · left; simp [hk]
    · intro k o hk
      by_cases hk' : v'.ownBlock = some k
      · simp only [hk', if_true] at hk; exact hk
      · simp [hk'] at hk
    · intro hm
      rcases hown'.2 with ⟨hnil, _⟩ | ⟨g, cap, cur, rfl, _⟩
      · exact absurd (hnn.1 hnil).2 hm
      · exact ⟨g, cap, rfl⟩
theorem ef_append_ro {t e n by_ : Nat} [ht : TSl P t e n by_] {zs : List Value} [hz : TZero P e zs] [InR L μ] {x y : Operand} {v s : Value} {l m : Nat} {xs news : List Value} {R : List Assn} [InR R μ]
    (hs : Row μ s n m news) (hx : evalE env x = some v) (hy : evalE env y = some s) (hL : Split L [own e n v l xs] R) (h1 : news.all Value.oneCell' = true) (h63 : l + m ≤ maxLen) (hby : (l + m) * by_ ≤ 140737488355328) (hzl : zs.length = n := by rfl) (hn0 : 0 < n := by decide) :
    Ef P env L (.call { callee := .builtin .append, args := #[x, y], argTypes := #[t, t] }) (fun k => ∀ v', (m ≠ 0 → ∃ g cap, v' = .slice (some ⟨g, 0, none⟩) (l + m) cap) → k v' (own e n v' (l + m) (xs ++ news) :: R)) := by
  intro ro dst tt pos af g N E a w next Q k hf hh hk hn
  have h2 := hh.ent hL.ent
  obtain ⟨v', w', hrun, h', hform⟩ := H.append_ro (P := P) (L := R) ht hz hzl hn0 h2 hs h1 h63 hby tt
  exact wpIn_value (run_builtin_append (v := v') (w' := w') (by rw [hf.ev x _ hx, hf.ev y _ hy]; exact hrun)) <| hn _ _ _ (hk v' hform) h'
end

/-- a new block becomes one that is only read from now on -/
theorem sat_share {b : Nat} {o : Obj} {μ : PH} {L : List Assn} {m : PH} (h : Sat (one b o :: ro μ :: L) m) : ∃ μ', Le μ μ' ∧ μ' b = some o ∧ Sat (ro μ' :: L) m := by
  obtain ⟨m1, m2, h1, ⟨m3, m4, h3, h4, hd2, t1, t2⟩, hd, s1, s2⟩ := h
  have hb3 : m3 b = none := by
    cases h : m3 b with
    | none => rfl
    | some x =>
      have := (hd b).resolve_left (by unfold one at h1; rw [h1]; simp)
      rw [t1 b x h] at this; cases this
  have hb4 : m4 b = none := by
    cases h : m4 b with
    | none => rfl
    | some x =>
      have := (hd b).resolve_left (by unfold one at h1; rw [h1]; simp)
      rw [t2 b x h] at this; cases this
  refine ⟨fun k => if k = b then some o else μ k, fun k x hk => ?_, by simp, fun k => if k = b then some o else m3 k, m4, fun k x hk => ?_, h4, fun k => ?_, fun k x hk => ?_, fun k x hk => s2 k x (t2 k x hk)⟩
  · have : k ≠ b := by rintro rfl; rw [h3 k x hk] at hb3; cases hb3
    simp [this, hk]
  · simp only at hk ⊢
    split at hk
    · rename_i e; simp [e]; simpa using hk
    · rename_i e; simp [e]; exact h3 k x hk
  · by_cases e : k = b
    · subst e; exact .inr hb4
    · simp only [e, if_false]; exact hd2 k
  · simp only at hk
    split at hk
    · rename_i e; subst e; simp at hk; subst hk; exact s1 _ _ h1
    · exact s2 k x (t1 k x hk)
section
variable {P : Program} {env : Env} {μ : PH} {L : List Assn} {rn : Option Nat} {Q : Post} {N : Nat}
theorem H.share {E : Ctx} {w : World} {b : Nat} {o : Obj} (h : H E w (one b o :: ro μ :: L)) : ∃ μ', Le μ μ' ∧ μ' b = some o ∧ H E w (ro μ' :: L) := by
  obtain ⟨h1, h2, h3, h4, h5⟩ := h
  have p : (E.X ++ (one b o :: ro μ :: L)).Perm (one b o :: ro μ :: (E.X ++ L)) := perm_out (.refl _) |>.trans (List.Perm.cons _ (perm_out (.refl _)))
  obtain ⟨μ', a1, a2, a3⟩ := sat_share (Sat.perm p _ h5)
  exact ⟨μ', a1, a2, h1, h2, h3, h4, Sat.perm (perm_out (.refl _)).symm _ a3⟩
theorem H.share_own {E : Ctx} {w : World} {e n : Nat} {v : Value} {l : Nat} {xs : List Value} (h : H E w (own e n v l xs :: ro μ :: L)) : ∃ μ', Le μ μ' ∧ Row μ' v n l xs ∧ H E w (ro μ' :: L) := by
  obtain ⟨h1, h2, h3, h4, h5⟩ := h
  have k6 : Sat (own e n v l xs :: (E.X ++ (ro μ :: L))) (fun b => w.heap[b]?) := Sat.perm (perm_out (.refl _)) _ h5
  rcases own_open k6 with ⟨a1, a2, a3⟩ | ⟨b, cap, ex, a1, a2, a3, a4, a5, a6⟩
  · subst a1 a2 a3
    exact ⟨μ, Le.refl _, Row.nil _ _, h1, h2, h3, h4, k6.tail⟩
  · have hh : H E w (one b (.cells (xs ++ ex).toArray e (0, 0)) :: ro μ :: L) := ⟨h1, h2, h3, h4, Sat.perm (perm_out (.refl _)).symm _ a6⟩
    obtain ⟨μ', b1, b2, b3⟩ := hh.share
    refine ⟨μ', b1, ⟨a4, some ⟨b, 0, none⟩, cap, a1, a2, a3, fun h => (by cases h), fun _ => ⟨b, 0, rfl, fun j u hj => ⟨_, _, _, b2, ?_⟩⟩⟩, b3⟩
    have hlt : j < xs.length := (List.getElem?_eq_some_iff.1 hj).1
    simpa [List.getElem?_append_left hlt] using hj
theorem swl_share {ops : Array Oper} {l : List Oper} {b t : Nat} {cs : List Value} {L0 : List Assn} (hL : Split L0 [blk b t cs, ro μ] L) (h : ∀ μ', Le μ μ' → μ' b = some (.cells cs.toArray t (0, 0)) → swl P rn ops Q N l env (ro μ' :: L)) : swl P rn ops Q N l env L0 := fun E D a w hd hf hh => by
  obtain ⟨μ', h1, h2, h3⟩ := (hh.ent hL.ent).share
  exact h μ' h1 h2 E D a w hd hf h3
theorem swp_share {c : Code} {b t : Nat} {cs : List Value} {L0 : List Assn} (hL : Split L0 [blk b t cs, ro μ] L) (h : ∀ μ', Le μ μ' → μ' b = some (.cells cs.toArray t (0, 0)) → swp P rn c Q N env (ro μ' :: L)) : swp P rn c Q N env L0 := fun E D a w hd hf hh => by
  obtain ⟨μ', h1, h2, h3⟩ := (hh.ent hL.ent).share
  exact h μ' h1 h2 E D a w hd hf h3
theorem swp_share_own {c : Code} {e n : Nat} {v : Value} {l : Nat} {xs : List Value} {L0 : List Assn} (hL : Split L0 [own e n v l xs, ro μ] L) (h : ∀ μ', Le μ μ' → Row μ' v n l xs → swp P rn c Q N env (ro μ' :: L)) : swp P rn c Q N env L0 := fun E D a w hd hf hh => by
  obtain ⟨μ', h1, h2, h3⟩ := (hh.ent hL.ent).share_own
  exact h μ' h1 h2 E D a w hd hf h3
theorem swl_share_own {ops : Array Oper} {ol : List Oper} {e n : Nat} {v : Value} {l : Nat} {xs : List Value} {L0 : List Assn} (hL : Split L0 [own e n v l xs, ro μ] L) (h : ∀ μ', Le μ μ' → Row μ' v n l xs → swl P rn ops Q N ol env (ro μ' :: L)) : swl P rn ops Q N ol env L0 := fun E D a w hd hf hh => by
  obtain ⟨μ', h1, h2, h3⟩ := (hh.ent hL.ent).share_own
  exact h μ' h1 h2 E D a w hd hf h3
/-- a slice of the call's own is nil and empty, or has an array -/
theorem own_form {e n : Nat} {v : Value} {l : Nat} {xs : List Value} {m : PH} (h : Sat (own e n v l xs :: L) m) : ∃ A cap, v = .slice A l cap := by
  obtain ⟨m1, _, ⟨_, ho⟩, _⟩ := h
  rcases ho with ⟨rfl, rfl⟩ | ⟨g, cap, cur, rfl, _⟩
  · exact ⟨_, _, rfl⟩
  · exact ⟨_, _, rfl⟩
end

section
variable {P : Program} {env : Env} {L : List Assn}
/-- 'make' of a slice without elements, with room -/
theorem ef_make0 {t e n by_ : Nat} [ht : TSl P t e n by_] {zs : List Value} [hz : TZero P e zs] {x y : Operand} {kx ky : IntKind} {c : Int} (hx : evalE env x = some (.int kx 0)) (hy : evalE env y = some (.int ky c)) (h0 : 0 ≤ c) (hb : (by_ : Int) * c ≤ 281474976710656) (hc : c ≤ maxLen) :
    Ef P env L (.makeSlice t x y) (fun k => ∀ v, k v (own e n v 0 [] :: L)) := by
  intro ro dst ty pos af g N E a w next Q k hf hh hk hn
  obtain ⟨i, hu, hi, hin, hib⟩ := ht.ok
  obtain ⟨i', z, hi', hzz, hzc⟩ := hz.ok
  have : i' = i := Option.some.inj (hi'.symm.trans hi)
  subst this
  have hr := run_make (P := P) w t e i' z hu hi hzz kx ky 0 c (by omega) h0 (by rw [hib]; exact hb) (by simp only [maxLen] at hc; omega)
  refine wpIn_value (v := .slice (some ⟨w.heap.size, 0, none⟩) 0 c.toNat) (w' := w.alloc (.cells (madeCells z.cells (c.toNat * i'.size)) e)) (by simp [execOp, hf.ev x _ hx, hf.ev y _ hy, hr]) ?_
  refine hn _ _ _ (hk _) ((hh.alloc _).ent (Ent.imp fun m hm => ⟨by simp, .inr ⟨_, _, _, rfl, hm, by omega, by omega, by rw [size_madeCells, hin], by simp⟩⟩))
theorem madeCells_one (z : Value) (n : Nat) : madeCells #[z] n = (List.replicate n z).toArray := by
  apply Array.ext
  · simp [madeCells]
  · intro i h1 h2
    simp [madeCells, Nat.mod_one]
/-- 'make' of a slice of one-cell elements -/
theorem ef_make1 {t e by_ : Nat} [ht : TSl P t e 1 by_] {z : Value} [hz : TZero P e [z]] {x y : Operand} {kx ky : IntKind} {c : Int} (l : Nat) (hx : evalE env x = some (.int kx c)) (hy : evalE env y = some (.int ky c)) (h0 : c = (l : Int)) (hb : (by_ : Int) * l ≤ 281474976710656) (hc : l ≤ maxLen) :
    Ef P env L (.makeSlice t x y) (fun k => ∀ b, k (.slice (some ⟨b, 0, none⟩) l l) (blk b e (List.replicate l z) :: L)) := by
  intro ro dst ty pos af g N E a w next Q k hf hh hk hn
  obtain ⟨i, hu, hi, hin, hib⟩ := ht.ok
  obtain ⟨i', z', hi', hzz, hzc⟩ := hz.ok
  have : i' = i := Option.some.inj (hi'.symm.trans hi)
  subst this
  subst h0
  have hr := run_make (P := P) w t e i' z' hu hi hzz kx ky l l (by omega) (by omega) (by rw [hib]; exact hb) (by simp only [maxLen] at hc; omega)
  rw [hin, Int.toNat_natCast, Nat.mul_one, hzc, madeCells_one] at hr
  exact wpIn_value (v := .slice (some ⟨w.heap.size, 0, none⟩) l l) (w' := w.alloc (.cells (List.replicate l z).toArray e)) (by simp [execOp, hf.ev x _ hx, hf.ev y _ hy, hr]) (hn _ _ _ (hk _) (hh.alloc _))
end

section
variable {P : Program} {env : Env} {L : List Assn}
/-- append of what another block holds; that block stays -/
theorem ef_append_of {t e n by_ : Nat} [ht : TSl P t e n by_] {zs : List Value} [hz : TZero P e zs] {x y : Operand} {v : Value} {l sb so m c sty : Nat} {xs scs news : List Value} {R : List Assn}
    (hx : evalE env x = some v) (hy : evalE env y = some (.slice (some ⟨sb, so, none⟩) m c)) (hL : Split L [own e n v l xs, blk sb sty scs] R) (hnl : news.length = m * n) (hnews : ∀ j u, news[j]? = some u → scs[so + j]? = some u) (h1 : news.all Value.oneCell' = true) (h63 : l + m ≤ maxLen) (hby : (l + m) * by_ ≤ 140737488355328) (hzl : zs.length = n := by rfl) (hn0 : 0 < n := by decide) :
    Ef P env L (.call { callee := .builtin .append, args := #[x, y], argTypes := #[t, t] }) (fun k => ∀ v', (m ≠ 0 → ∃ g cap, v' = .slice (some ⟨g, 0, none⟩) (l + m) cap) → k v' (own e n v' (l + m) (xs ++ news) :: blk sb sty scs :: R)) := by
  intro ro dst tt pos af g N E a w next Q k hf hh hk hn
  have h2 := hh.ent hL.ent
  have hsrc : w.heap[sb]? = some (.cells scs.toArray sty (0, 0)) := h2.one_get (.there .here)
  obtain ⟨v', w', hrun, h', hform⟩ := H.append (P := P) ht hz hzl hn0 h2 hsrc news hnl hnews h1 h63 hby tt
  exact wpIn_value (run_builtin_append (v := v') (w' := w') (by rw [hf.ev x _ hx, hf.ev y _ hy]; exact hrun)) <| hn _ _ _ (hk v' hform) h'
end

/-- the row of a law whose call reads W -/
theorem calls_ro {P : Program} {f : FuncId} {args : List Value} {u : Value} {W : World} (h : Spec P f args [ro (fun b => W.heap[b]?)] (fun v L => v = u ∧ ∃ μ R, Le (fun b => W.heap[b]?) μ ∧ L = ro μ :: R)) :
    Calls P f args.toArray W fun e W' => e = .returned u ∧ RowKit.Below W.heap.size W W' :=
  (h ⟨W, []⟩ W ⟨rfl, rfl, rfl, Nat.le_refl _, (fun b => W.heap[b]?), (fun _ => none), fun _ _ h => h, trivial, fun _ => .inr rfl, fun _ _ h => h, fun _ _ h => by (cases h)⟩).mono
    fun _ W' ⟨_, _, he, ⟨hv, μ, R, hle, hl⟩, hh⟩ => ⟨by rw [he, hv], by
      subst hl
      obtain ⟨h1, h2, h3, h4, m1, m2, ho, _, _, s1, _⟩ := hh
      refine ⟨h1, h3, h2, h4, fun k hk => ?_⟩
      have e : W.heap[k]? = some W.heap[k] := by simp [hk]
      rw [e]; exact s1 k _ (ho k _ (hle k _ e))⟩
end SX
