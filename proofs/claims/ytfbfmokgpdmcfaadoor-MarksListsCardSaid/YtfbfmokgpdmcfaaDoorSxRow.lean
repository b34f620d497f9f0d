/- From a walk to a row: the old world stays as it was. -/
import Derived.Test.YtfbfmokgpdmcfaaDoorSxMore
import Derived.Below
import Derived.ChangeSame
namespace SX
open Go Go.RowKit Go.WideShapes Go.ChangeShapes

/-- all that lay in W lies there yet -/
def old (W : World) : Assn := fun m => ∀ b o, W.heap[b]? = some o → m b = some o
theorem below_of_H {W W' : World} {L : List Assn} (h : H ⟨W, [old W]⟩ W' L) : Below W.heap.size W W' := by
  obtain ⟨h1, h2, h3, h4, m1, m2, ho, _, _, s1, _⟩ := h
  refine ⟨h1, h3, h2, h4, fun k hk => ?_⟩
  have e : W.heap[k]? = some W.heap[k] := by simp [hk]
  rw [e]; exact s1 k _ (ho k _ e)
theorem H_old (W : World) : H ⟨W, [old W]⟩ W [] :=
  ⟨rfl, rfl, rfl, Nat.le_refl _, (fun b => W.heap[b]?), (fun _ => none), fun _ _ h => h, trivial, fun _ => .inr rfl, fun _ _ h => h, fun _ _ h => by (cases h)⟩
theorem calls_of {P : Program} {f : FuncId} {args : List Value} {u : Value} (h : Spec P f args [] (fun v L => v = u ∧ L = [])) (W : World) :
    Calls P f args.toArray W fun e W' => e = .returned u ∧ Below W.heap.size W W' :=
  (h _ W (H_old W)).mono fun _ _ ⟨_, _, he, ⟨hv, _⟩, hh⟩ => ⟨by rw [he, hv], below_of_H hh⟩

section
variable {H0 : Type} {enc : TypeId × Value → H0} {P : Program}
theorem post_old {f : Func} {s : ChangeSpec} {apart fresh handsOn again : Bool} {W W' : World} {args : Array Value} {v : Value} {ds gs : List (DataW H0)} {before pa pv : List MemPlace}
    (hb : Below W.heap.size W W') (hps : before = pa ++ pv)
    (hW : DataW.Whole enc P f.params.toList s.vars apart W args.toList ds gs before)
    (hres : ∀ (b : Nat) (sp : Nat → Bool) (hd : Bool), DataW.TrodAll enc P W' b sp hd f.resultTypes.toList (v.resultList f.resultTypes.size) (s.fn H0 (ds ++ gs)).results [])
    (hargs : ∀ sp : Nat → Bool, (∀ p ∈ before, sp p.block = true) → DataW.TrodAll enc P W' 0 sp true f.params.toList args.toList (s.fn H0 (ds ++ gs)).args pa)
    (hvars : ∀ sp : Nat → Bool, (∀ p ∈ before, sp p.block = true) → DataW.TrodVars enc P W' sp s.vars (s.fn H0 (ds ++ gs)).vars pv)
    (hok : ∀ (j : Nat) (t : TypeId) (r : Value), f.resultTypes[j]? = some t → (v.resultList f.resultTypes.size)[j]? = some r → Value.okWide P W' .any 0 t r) :
    s.post enc P f apart fresh handsOn again W args v W' := by
  subst hps
  have lt : ∀ p ∈ pa ++ pv, p.block < W.heap.size := fun p hp => hW.lt p hp
  have there : ∀ p ∈ pa ++ pv, (fun b => decide (b < W.heap.size)) p.block = true := fun p hp => decide_eq_true (lt p hp)
  refine ⟨ds, gs, pa ++ pv, [], pa, pv, hW, hres _ _ _, hargs _ there, hvars _ there, ?_, fun _ => ?_⟩
  · exact World.keptBut_mono (fun p hp => ⟨hp, .inr (List.mem_append.1 hp)⟩) (hb.frame (· ∈ pa ++ pv))
  · obtain ⟨_, _, _, _, _, hz, hn⟩ := hW
    refine ⟨hok, _, _, pa ++ pv, ⟨pa, pv, trodAll_append (p := []) (hargs _ (fun _ _ => rfl)) (hres _ _ _), hvars _ (fun _ _ => rfl), rfl, fun b off hp => ?_, fun ha => hn ha⟩, fun p hp _ => hp⟩
    rw [hb.frozen (lt _ hp)]
    exact hz b off hp
end
end SX
