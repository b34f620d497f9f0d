/- A part of the proof: walks of the program's functions, and the rules by which they go. -/
import Derived.Test.YtengmoolldljmaaBd6f8e813
import Derived.Shelf.Small.Bits
import Derived.Shelf.Strconv.Itoa0
import Derived.Shelf.Sort.Plain
import Derived.Shelf.Slices.In.SortNone
import Derived.Test.YtengmoolldljmaaProg
namespace SX
open Go Go.Proofs
theorem do_spec (b cl : Nat) (es : Ents ByteArray) (g c : ByteArray) (o : Option Addr) : Spec Try.prog 44 [.agg (encP (g, c, .pointer o)).toArray, .map (some b)] [mpe b skv es cl] (fun _ L => L = [mpe b skv (doE es cl (g, c, .pointer o)) (doC es cl (g, c, .pointer o))]) := by
  refine Spec.of 15 Try.func44 rfl rfl rfl ?_
  refine swp_seq ?_
  refine swp_region ?_
  refine s_ef (ef_box rfl rfl) ?_
  intro b2
  refine swl_sub _ (.cons (t := 1) rfl (.cons (t := 2) rfl .nil)) ?_
  refine swl_nil ?_
  refine then_n ?_
  refine swp_seq ?_
  refine swp_region ?_
  refine s_pu (pu_move rfl) ?_
  first | refine s_pu (pu_fieldAddr0 rfl) ?_ | refine s_pu (pu_fieldAddr rfl) ?_
  refine s_rd (rd_load rfl rfl) ?_
  refine s_ef0 (ef_delete (kv := skv) g rfl rfl (by repeat (first | exact Split.nil | (apply Split.cons; (repeat (first | with_reducible exact Take.here | apply Take.there)))))) ?_
  refine swl_sub _ (.cons (t := 1) rfl (.cons (t := 2) rfl .nil)) ?_
  refine swl_nil ?_
  refine then_n ?_
  refine swp_seq ?_
  refine swp_region ?_
  first | refine s_pu (pu_fieldAddr0 rfl) ?_ | refine s_pu (pu_fieldAddr rfl) ?_
  refine s_rd (rd_load rfl rfl) ?_
  refine s_pu (pu_ptr_ne_nil rfl rfl) ?_
  refine swl_sub _ (.cons (t := 1) rfl (.cons (t := 2) rfl (.cons (t := 9) rfl .nil))) ?_
  refine swl_nil ?_
  refine then_n ?_
  refine swp_cond (b := _) rfl (fun h9 => ?_) (fun h9 => ?_)
  · skip   -- 9 T
    obtain ⟨a, rfl⟩ : ∃ a, o = some a := by cases o with | none => cases h9 | some a => exact ⟨a, rfl⟩
    refine swp_region ?_
    refine s_pu (pu_move rfl) ?_
    first | refine s_pu (pu_fieldAddr0 rfl) ?_ | refine s_pu (pu_fieldAddr rfl) ?_
    refine s_rd (rd_load rfl rfl) ?_
    first | refine s_pu (pu_fieldAddr0 rfl) ?_ | refine s_pu (pu_fieldAddr rfl) ?_
    refine s_rd (rd_load rfl rfl) ?_
    refine s_ef0 (ef_upd (kv := skv) c rfl rfl rfl (by repeat (first | exact Split.nil | (apply Split.cons; (repeat (first | with_reducible exact Take.here | apply Take.there)))))) ?_
    refine swl_sub _ .nil ?_
    refine swl_nil ?_
    exact done_endE [mpe b skv (doE es cl (g, c, .pointer (some a))) (doC es cl (g, c, .pointer (some a)))] .nil rfl Ent.one
  · skip   -- 9 F
    obtain rfl : o = none := by cases o with | none => rfl | some a => cases h9
    refine swp_skip ?_
    exact done_endE [mpe b skv (doE es cl (g, c, .pointer none)) (doC es cl (g, c, .pointer none))] .nil rfl Ent.one
theorem step_spec {f : FuncId} [Body Try.prog f] {ca : List Value} {pre : List Assn} {K : Int → List Assn → Prop} (p : Nat) (q : Int) (n sb fb : Nat) (v : Value) (fa : Int) (off : Bool) (h0 : 0 ≤ fa ∧ fa ≤ 9223372036854775807)
    (h : ∀ fa' : Int, Spec Try.prog f ca (blk p 73 (fsC q n sb fb v fa' off) :: pre) (fun _ L => K fa' L)) :
    Spec Try.prog 37 [pv p, .func (.func f) #[] ca.toArray] (blk p 73 (fsC q n sb fb v fa off) :: pre) (fun r L => (fa = 1 ∧ r = .int .i64 8 ∧ L = blk p 73 (fsC q n sb fb v 0 true) :: pre) ∨ (fa ≠ 1 ∧ r = .int .i64 0 ∧ K (if 0 < fa then fa - 1 else fa) L)) := by
  refine Spec.of 27 Try.func37 rfl rfl rfl ?_
  refine swp_seq ?_
  refine swp_region ?_
  refine s_pu (pu_assign rfl) ?_
  refine swl_sub _ (.cons (t := 0) rfl (.cons (t := 1) rfl .nil)) ?_
  refine swl_nil ?_
  refine then_n ?_
  refine swp_seq ?_
  refine swp_seq ?_
  refine swp_region ?_
  refine s_pu (pu_move rfl) ?_
  first | refine s_pu (pu_nilCheck rfl) ?_ | refine s_pu (pu_nilCheck_fn rfl) ?_ | refine s_pu (pu_nilCheck_if rfl) ?_
  first | refine s_pu (pu_fieldAddr0 rfl) ?_ | refine s_pu (pu_fieldAddr rfl) ?_
  refine s_rd (rd_load rfl rfl) ?_
  refine s_pu (pu_gtr rfl rfl) ?_
  refine swl_sub _ (.cons (t := 0) rfl (.cons (t := 1) rfl (.cons (t := 9) rfl .nil))) ?_
  refine swl_nil ?_
  refine then_n ?_
  refine swp_cond (b := _) rfl (fun h9 => ?_) (fun h9 => ?_)
  · skip   -- 9 T
    have h9' : 0 < fa := by have := of_decide_eq_true h9; omega
    refine swp_seq ?_
    refine swp_region ?_
    refine s_pu (pu_move rfl) ?_
    first | refine s_pu (pu_nilCheck rfl) ?_ | refine s_pu (pu_nilCheck_fn rfl) ?_ | refine s_pu (pu_nilCheck_if rfl) ?_
    first | refine s_pu (pu_fieldAddr0 rfl) ?_ | refine s_pu (pu_fieldAddr rfl) ?_
    refine s_rd (rd_load rfl rfl) ?_
    first | refine s_pu (pu_sub_in rfl rfl (by omega) (by omega)) ?_ | refine s_pu (pu_sub rfl rfl) ?_
    first | refine s_pu (pu_nilCheck rfl) ?_ | refine s_pu (pu_nilCheck_fn rfl) ?_ | refine s_pu (pu_nilCheck_if rfl) ?_
    first | refine s_pu (pu_fieldAddr0 rfl) ?_ | refine s_pu (pu_fieldAddr rfl) ?_
    refine s_ef0 (ef_store rfl rfl rfl) ?_
    refine swl_sub _ (.cons (t := 0) rfl (.cons (t := 1) rfl .nil)) ?_
    refine swl_nil ?_
    refine then_n ?_
    refine swp_seq ?_
    refine swp_region ?_
    refine s_pu (pu_move rfl) ?_
    first | refine s_pu (pu_nilCheck rfl) ?_ | refine s_pu (pu_nilCheck_fn rfl) ?_ | refine s_pu (pu_nilCheck_if rfl) ?_
    first | refine s_pu (pu_fieldAddr0 rfl) ?_ | refine s_pu (pu_fieldAddr rfl) ?_
    refine s_rd (rd_load rfl rfl) ?_
    refine s_pu (pu_eql rfl rfl) ?_
    refine swl_sub _ (.cons (t := 0) rfl (.cons (t := 1) rfl (.cons (t := 21) rfl .nil))) ?_
    refine swl_nil ?_
    refine then_n ?_
    refine swp_cond (b := _) rfl (fun h21 => ?_) (fun h21 => ?_)
    · skip   -- 21 T
      have h21' : fa = 1 := by have := of_decide_eq_true h21; omega
      refine swp_seq ?_
      refine swp_region ?_
      refine s_pu (pu_move rfl) ?_
      first | refine s_pu (pu_nilCheck rfl) ?_ | refine s_pu (pu_nilCheck_fn rfl) ?_ | refine s_pu (pu_nilCheck_if rfl) ?_
      first | refine s_pu (pu_fieldAddr0 rfl) ?_ | refine s_pu (pu_fieldAddr rfl) ?_
      refine s_ef0 (ef_store rfl rfl rfl) ?_
      refine swl_sub _ .nil ?_
      refine swl_nil ?_
      refine then_n ?_
      refine swp_seq ?_
      refine swp_region ?_
      refine s_pu (pu_assign rfl) ?_
      refine swl_sub _ (.cons (t := 4) rfl .nil) ?_
      refine swl_nil ?_
      refine then_n ?_
      refine swp_ret ?_
      refine then_r ?_
      refine done_retE (blk p 73 (fsC q n sb fb v 0 true) :: pre) (.tmp rfl .nil) (.inl ⟨h21', rfl, rfl⟩) ?_
      rw [show fa - 1 = 0 by omega]; exact Ent.refl _
    · skip   -- 21 F
      have h21' : fa ≠ 1 := by have := of_decide_eq_false h21; omega
      refine swp_skip ?_
      refine then_n ?_
      refine swp_seq ?_
      refine swp_region ?_
      refine s_pu (pu_move rfl) ?_
      refine s_ef (ef_clo (fi := []) (args := []) (ca := ca) (R := []) (h (fa - 1)) rfl rfl Split.all) ?_
      rintro v26 L1 hk
      rw [List.append_nil]
      refine swl_sub _ .nil ?_
      refine swl_nil ?_
      refine then_n ?_
      refine swp_seq ?_
      refine swp_region ?_
      refine s_pu (pu_assign rfl) ?_
      refine swl_sub _ (.cons (t := 4) rfl .nil) ?_
      refine swl_nil ?_
      refine then_n ?_
      refine swp_ret ?_
      refine done_ret L1 (.tmp rfl .nil) (.inr ⟨h21', rfl, ?_⟩) (R := []) Split.all
      rw [if_pos h9']; exact hk
  · skip   -- 9 F
    have h9' : ¬ 0 < fa := by have := of_decide_eq_false h9; omega
    refine swp_skip ?_
    refine then_n ?_
    refine swp_seq ?_
    refine swp_region ?_
    refine s_pu (pu_move rfl) ?_
    refine s_ef (ef_clo (fi := []) (args := []) (ca := ca) (R := []) (h fa) rfl rfl Split.all) ?_
    rintro v26 L1 hk
    rw [List.append_nil]
    refine swl_sub _ .nil ?_
    refine swl_nil ?_
    refine then_n ?_
    refine swp_seq ?_
    refine swp_region ?_
    refine s_pu (pu_assign rfl) ?_
    refine swl_sub _ (.cons (t := 4) rfl .nil) ?_
    refine swl_nil ?_
    refine then_n ?_
    refine swp_ret ?_
    refine done_ret L1 (.tmp rfl .nil) (.inr ⟨by omega, rfl, ?_⟩) (R := []) Split.all
    rw [if_neg h9']; exact hk
/-- a change of names, done and kept -/
theorem change_spec (p : Nat) (q : Int) (n sb fb : Nat) (w : Value) (fa : Int) (off : Bool) (es : Ents ByteArray) (cl : Nat) (ps : List Pc) (hl : ps.length ≤ 1048576) (g c : ByteArray) (o : Option Addr) :
    Spec Try.prog 39 [pv p, .agg (encP (g, c, .pointer o)).toArray] [blk p 73 (fsC q n sb fb w fa off), mpe sb skv es cl, own 84 3 w ps.length (ps.flatMap encP)]
      (fun _ L => ∃ w' ps', ps' = ps ++ [((g, c, Value.pointer o) : Pc)] ∧ L = [blk p 73 (fsC q n sb fb w' fa off), mpe sb skv (doE es cl (g, c, .pointer o)) (doC es cl (g, c, .pointer o)), own 84 3 w' ps'.length (ps'.flatMap encP)]) := by
  have hps : (ps ++ [((g, c, Value.pointer o) : Pc)]).flatMap encP = ps.flatMap encP ++ [.string g, .string c, .pointer o] := by rw [List.flatMap_append]; rfl
  have hpl : (ps ++ [((g, c, Value.pointer o) : Pc)]).length = ps.length + 1 := by rw [List.length_append]; rfl
  generalize ps ++ [((g, c, Value.pointer o) : Pc)] = ps' at hps hpl
  refine Spec.of 20 Try.func39 rfl rfl rfl ?_
  refine swp_seq ?_
  refine swp_region ?_
  refine s_ef (ef_box rfl rfl) ?_
  intro b3
  refine swl_sub _ (.cons (t := 0) rfl (.cons (t := 3) rfl .nil)) ?_
  refine swl_nil ?_
  refine then_n ?_
  refine swp_seq ?_
  refine swp_draw [0, 4] _ [] (by simp only [List.append_nil]; exact Ent.refl _) (by kernel_rfl) ?_
  first | refine d_rd 0 rfl (rd_loadW rfl rfl) rfl (by kernel_rfl) (by kernel_rfl) (by kernel_rfl) ?_ | refine d_rd 0 rfl (rd_loadX rfl rfl rfl) rfl (by kernel_rfl) (by kernel_rfl) (by kernel_rfl) ?_
  refine d_pu 1 rfl (pu_move rfl) (by kernel_rfl) (by kernel_rfl) (by kernel_rfl) ?_
  first | refine d_pu 2 rfl (pu_nilCheck rfl) (by kernel_rfl) (by kernel_rfl) (by kernel_rfl) ?_ | refine d_pu 2 rfl (pu_nilCheck_fn rfl) (by kernel_rfl) (by kernel_rfl) (by kernel_rfl) ?_ | refine d_pu 2 rfl (pu_nilCheck_if rfl) (by kernel_rfl) (by kernel_rfl) (by kernel_rfl) ?_
  first | refine d_pu 3 rfl (pu_fieldAddr0 rfl) (by kernel_rfl) (by kernel_rfl) (by kernel_rfl) ?_ | refine d_pu 3 rfl (pu_fieldAddr rfl) (by kernel_rfl) (by kernel_rfl) (by kernel_rfl) ?_
  refine d_rd 4 rfl (rd_load rfl rfl) rfl (by kernel_rfl) (by kernel_rfl) (by kernel_rfl) ?_
  first | refine d_fint 5 rfl (by kernel_rfl) (by kernel_rfl) (ef_fn (do_spec sb cl es g c o) rfl rfl (by repeat (first | exact Split.nil | (apply Split.cons; (repeat (first | with_reducible exact Take.here | apply Take.there)))))) ?_ | refine d_finf 5 rfl (by kernel_rfl) (by kernel_rfl) (ef_fn (do_spec sb cl es g c o) rfl rfl (by repeat (first | exact Split.nil | (apply Split.cons; (repeat (first | with_reducible exact Take.here | apply Take.there)))))) ?_
  rintro v9 L1 rfl
  refine swd_app ?_
  refine d_sub _ (.cons (t := 0) rfl (.cons (t := 3) rfl .nil)) ?_
  first | refine d_nilt (by kernel_rfl) ?_ | refine d_nilf (by kernel_rfl) ?_
  refine then_n ?_
  refine swp_draw [4, 5] _ [] (by simp only [List.append_nil]; exact Ent.refl _) (by kernel_rfl) ?_
  refine d_pu 0 rfl (pu_move rfl) (by kernel_rfl) (by kernel_rfl) (by kernel_rfl) ?_
  refine d_pu 1 rfl (pu_move rfl) (by kernel_rfl) (by kernel_rfl) (by kernel_rfl) ?_
  first | refine d_pu 2 rfl (pu_nilCheck rfl) (by kernel_rfl) (by kernel_rfl) (by kernel_rfl) ?_ | refine d_pu 2 rfl (pu_nilCheck_fn rfl) (by kernel_rfl) (by kernel_rfl) (by kernel_rfl) ?_ | refine d_pu 2 rfl (pu_nilCheck_if rfl) (by kernel_rfl) (by kernel_rfl) (by kernel_rfl) ?_
  first | refine d_pu 3 rfl (pu_fieldAddr0 rfl) (by kernel_rfl) (by kernel_rfl) (by kernel_rfl) ?_ | refine d_pu 3 rfl (pu_fieldAddr rfl) (by kernel_rfl) (by kernel_rfl) (by kernel_rfl) ?_
  refine d_rd 4 rfl (rd_load rfl rfl) rfl (by kernel_rfl) (by kernel_rfl) (by kernel_rfl) ?_
  first | refine d_rd 5 rfl (rd_loadW rfl rfl) rfl (by kernel_rfl) (by kernel_rfl) (by kernel_rfl) ?_ | refine d_rd 5 rfl (rd_loadX rfl rfl rfl) rfl (by kernel_rfl) (by kernel_rfl) (by kernel_rfl) ?_
  refine d_eft 6 rfl (by kernel_rfl) (ef_bldS (qs := [(0, _)]) rfl rfl rfl) ?_
  intro b16
  refine ⟨_, Split.ent (by repeat (first | exact Split.nil | (apply Split.cons; (repeat (first | with_reducible exact Take.here | apply Take.there))))), ?_⟩
  first | refine d_fint 7 rfl (by kernel_rfl) (by kernel_rfl) (ef_append_lit (l := ps.length) (m := 1) (news := [.string g, .string c, .pointer o]) rfl rfl (by repeat (first | exact Split.nil | (apply Split.cons; (repeat (first | with_reducible exact Take.here | apply Take.there))))) (by simp only [maxLen]; omega) (by omega)) ?_ | refine d_finf 7 rfl (by kernel_rfl) (by kernel_rfl) (ef_append_lit (l := ps.length) (m := 1) (news := [.string g, .string c, .pointer o]) rfl rfl (by repeat (first | exact Split.nil | (apply Split.cons; (repeat (first | with_reducible exact Take.here | apply Take.there))))) (by simp only [maxLen]; omega) (by omega)) ?_
  rintro w' hw'
  obtain ⟨g7, c7, rfl⟩ := hw' (by decide)
  first | refine d_pu 8 rfl (pu_nilCheck rfl) (by kernel_rfl) (by kernel_rfl) (by kernel_rfl) ?_ | refine d_pu 8 rfl (pu_nilCheck_fn rfl) (by kernel_rfl) (by kernel_rfl) (by kernel_rfl) ?_ | refine d_pu 8 rfl (pu_nilCheck_if rfl) (by kernel_rfl) (by kernel_rfl) (by kernel_rfl) ?_
  first | refine d_pu 9 rfl (pu_fieldAddr0 rfl) (by kernel_rfl) (by kernel_rfl) (by kernel_rfl) ?_ | refine d_pu 9 rfl (pu_fieldAddr rfl) (by kernel_rfl) (by kernel_rfl) (by kernel_rfl) ?_
  first | refine d_fin0t 10 rfl (by kernel_rfl) (by kernel_rfl) (ef_store rfl rfl rfl) ?_ | refine d_fin0f 10 rfl (by kernel_rfl) (by kernel_rfl) (ef_store rfl rfl rfl) ?_
  refine d_sub _ .nil ?_
  first | refine d_nilt (by kernel_rfl) ?_ | refine d_nilf (by kernel_rfl) ?_
  refine done_end [blk p 73 (fsC q n sb fb (.slice (some ⟨g7, 0, none⟩) (ps.length + 1) c7) fa off), mpe sb skv (doE es cl (g, c, .pointer o)) (doC es cl (g, c, .pointer o)), own 84 3 (.slice (some ⟨g7, 0, none⟩) (ps.length + 1) c7) ps'.length (ps'.flatMap encP)] .nil ⟨_, ps', rfl, rfl⟩ (by rw [hps, hpl]; exact (by repeat (first | exact Split.nil | (apply Split.cons; (repeat (first | with_reducible exact Take.here | apply Take.there))))))
end SX
namespace SX
open Go Go.Proofs
abbrev fa1 (d : Dk) : Dk := { d with falls := if 0 < d.falls then d.falls - 1 else d.falls }
abbrev fa0 (d : Dk) : Dk := { d with falls := 0, off := true }
theorem stepD_1 {d : Dk} (h : d.falls = 1) : stepD d = (fa0 d, 8) := by unfold stepD; rw [if_pos (by omega), if_pos h]
theorem stepD_n {d : Dk} (h : d.falls ≠ 1) : stepD d = (fa1 d, 0) := by
  unfold stepD
  show _ = (({ d with falls := if 0 < d.falls then d.falls - 1 else d.falls } : Dk), (0 : Int))
  by_cases h0 : 0 < d.falls
  · rw [if_pos h0, if_neg h, if_pos h0]
  · rw [if_neg h0, if_neg h0]
theorem atStep_1 {d : Dk} (h : d.falls = 1) (f : Dk → Dk) : atStep d f = (fa0 d, 8) := by unfold atStep; rw [stepD_1 h]; rfl
theorem atStep_n {d : Dk} (h : d.falls ≠ 1) (f : Dk → Dk) : atStep d f = (f (fa1 d), 0) := by unfold atStep; rw [stepD_n h]; rfl
theorem Rep.fa {d : Dk} {x : FX} (h : Rep d x) (fl : Int) (off : Bool) : Rep { d with falls := fl, off := off } x := ⟨h.seen, h.safe, h.bs, h.bf, h.len, h.fl, h.ps⟩
theorem chg_mem {l : List Nm} {c : Cg} {y : Nm} (h : y ∈ chgN l c) : y ∈ l ∨ (strEq c.come nos = false ∧ y.2 = c.file) := by
  unfold chgN at h
  rcases List.mem_append.1 h with h | h
  · exact .inl (List.mem_filter.1 h).1
  · split at h
    · cases h
    · next k => rw [List.mem_singleton.1 h]; exact .inr ⟨by simpa using k, rfl⟩
theorem Rep.chg {d : Dk} {x : FX} (h : Rep d x) (hs : ∀ y ∈ d.seen, strEq y.1 nos = false) {p : Pc} {c : Cg} (hp : PcRel x.rs p c) (hc : strEq c.come nos = false → ∃ r, x.rs[c.file]? = some r ∧ r.f = d.fl c.file) :
    Rep (d.chg c) { x with es := doE x.es x.cs p, cs := doC x.es x.cs p, ps := x.ps ++ [p] } := by
  refine ⟨doE_rel h.seen hs hp fun k => ?_, h.safe, doE_born h.bs p, h.bf, h.len, fun k hk => ?_, ?_, fun i q e hq he => ?_⟩
  · obtain ⟨r, hr, _⟩ := hc k; exact (List.getElem?_eq_some_iff.1 hr).1
  · have key : live d k ∨ (strEq c.come nos = false ∧ c.file = k) := by
      rcases hk with ⟨y, hy, e⟩ | hk | ⟨e, he, k1, k2⟩
      · rcases chg_mem hy with hy | ⟨k1, k2⟩
        · exact .inl (.inl ⟨y, hy, e⟩)
        · exact .inr ⟨k1, by rw [← k2, e]⟩
      · exact .inl (.inr (.inl hk))
      · rcases List.mem_append.1 he with he | he
        · exact .inl (.inr (.inr ⟨e, he, k1, k2⟩))
        · rw [List.mem_singleton.1 he] at k1 k2; exact .inr ⟨k1, k2⟩
    rcases key with key | ⟨k1, k2⟩
    · exact h.fl k key
    · rw [← k2]; exact hc k1
  · show (x.ps ++ [p]).length = (d.pend ++ [c]).length
    rw [List.length_append, List.length_append, h.ps.1]; rfl
  · have hq' : (x.ps ++ [p])[i]? = some q := hq
    have he' : (d.pend ++ [c])[i]? = some e := he
    by_cases hi : i < x.ps.length
    · rw [List.getElem?_append_left hi] at hq'
      rw [List.getElem?_append_left (by rw [← h.ps.1]; exact hi)] at he'
      exact h.ps.2 i q e hq' he'
    · have hi2 : i = x.ps.length := by
        have := (List.getElem?_eq_some_iff.1 hq').1
        rw [List.length_append] at this; simp at this; omega
      subst hi2
      rw [List.getElem?_append_right (Nat.le_refl _), Nat.sub_self] at hq'
      rw [h.ps.1, List.getElem?_append_right (Nat.le_refl _), Nat.sub_self] at he'
      simp at hq' he'
      rw [← hq', ← he']; exact hp
theorem fl_setF {d : Dk} {k : Nat} (f : Fl) (hk : k < d.files.length) (j : Nat) : (d.setF k f).fl j = if j = k then f else d.fl j := by
  unfold Dk.fl Dk.setF
  by_cases e : j = k
  · subst e; rw [if_pos rfl]; simp [hk]
  · rw [if_neg e]; simp [Ne.symm e]
theorem Rep.set {d : Dk} {x : FX} (h : Rep d x) {k : Nat} {r r' : Rc} (hr : x.rs[k]? = some r) (ha : r'.a = r.a) : Rep (d.setF k r'.f) { x with rs := x.rs.set k r' } := by
  have hk : k < d.files.length := by rw [← h.len]; exact (List.getElem?_eq_some_iff.1 hr).1
  refine ⟨h.seen.to fun y _ => adr_set hr ha _, h.safe.to fun y _ => adr_set hr ha _, h.bs, h.bf, ?_, fun j hj => ?_, h.ps.1, fun i p c hp hc => ?_⟩
  · show (x.rs.set k r').length = (d.files.set k r'.f).length
    rw [List.length_set, List.length_set, h.len]
  · rw [fl_setF _ hk]
    by_cases e : j = k
    · subst e; exact ⟨r', List.getElem?_set_self (List.getElem?_eq_some_iff.1 hr).1, by rw [if_pos rfl]⟩
    · obtain ⟨r2, h1, h2⟩ := h.fl j hj
      exact ⟨r2, by show (x.rs.set k r')[j]? = _; rw [List.getElem?_set_ne (Ne.symm e)]; exact h1, by rw [if_neg e]; exact h2⟩
  · obtain ⟨k1, k2, k3⟩ := h.ps.2 i p c hp hc
    refine ⟨k1, k2, ?_⟩
    rw [k3]
    split
    · rfl
    · exact (adr_set hr ha _).symm
/-- a new file -/
abbrev newF (d : Dk) : Dk := { d with files := d.files ++ [⟨[], 0⟩] }
theorem Rep.new {d : Dk} {x : FX} (h : Rep d x) (hd : d.Ok) (r : Rc) : Rep (newF d) { x with rs := x.rs ++ [r] } := by
  have hp : ∀ c ∈ d.pend, strEq c.come nos = false → c.file < x.rs.length := fun c hc he => by rw [h.len]; exact (hd.pend c hc he).2
  refine ⟨h.seen.to fun y hy => adr_app (by rw [h.len]; exact (hd.seenOk.good y hy).2) r, h.safe.to fun y hy => adr_app (by rw [h.len]; exact (hd.safe.good y hy).2) r, h.bs, h.bf, ?_, fun j hj => ?_, h.ps.1, fun i p c hp' hc => ?_⟩
  · show (x.rs ++ [r]).length = (d.files ++ ([⟨[], 0⟩] : List Fl)).length
    rw [List.length_append, List.length_append, h.len]; rfl
  · obtain ⟨r2, h1, h2⟩ := h.fl j hj
    have hlt := (List.getElem?_eq_some_iff.1 h1).1
    refine ⟨r2, by show (x.rs ++ [r])[j]? = _; rw [List.getElem?_append_left hlt]; exact h1, ?_⟩
    rw [h2]
    unfold Dk.fl newF
    rw [List.getElem?_append_left (by rw [← h.len]; exact hlt)]
  · obtain ⟨k1, k2, k3⟩ := h.ps.2 i p c hp' hc
    refine ⟨k1, k2, ?_⟩
    rw [k3]
    split
    · rfl
    · next k => exact (adr_app (hp c (List.mem_of_getElem? hc) (by simpa using k)) r).symm
theorem Rep.find {d : Dk} {x : FX} (h : Rep d x) {s : ByteArray} {k : Nat} (hf : findN d.seen s = some k) : ∃ r, x.rs[k]? = some r ∧ r.f = d.fl k ∧ adr x.rs k = pv r.a := by
  obtain ⟨r, h1, h2⟩ := h.fl k (.inl ⟨_, findN_mem hf, rfl⟩)
  exact ⟨r, h1, h2, adr_at h1⟩
theorem Dk.Ok.fa {d : Dk} (h : d.Ok) {fl : Int} (hf : 0 ≤ fl ∧ fl ≤ 9223372036854775807) (off : Bool) : Dk.Ok { d with falls := fl, off := off } := ⟨h.q, h.fl, h.safe, h.pend, h.seen, h.hist, hf⟩
theorem Dk.Ok.fa1 {d : Dk} (h : d.Ok) : (fa1 d).Ok := h.fa (by have := h.falls; split <;> omega) d.off
theorem recs_new0 {rs : List Rc} {a n : Nat} (hn : n = rs.length) {L : List Assn} : Ent (blk a 82 [.int .i64 (n : Nat), .slice none 0 0, .int .i64 0] :: recsA rs :: L) (recsA (rs ++ [⟨a, .slice none 0 0, ⟨[], 0⟩⟩]) :: L) := by
  subst hn
  exact (own_nil_ent (e := 5) (n := 1)).trans (Ent.swap.trans (recs_new (r := ⟨a, .slice none 0 0, ⟨[], 0⟩⟩) (Nat.le_refl _)))
theorem Dk.Ok.names {d : Dk} (h : d.Ok) : ∀ y ∈ d.seen, strEq y.1 nos = false := fun y hy => goodN_ne (h.seenOk.good y hy).1
end SX
namespace SX
open Go Go.Proofs
/-- Create's step -/
theorem create1_spec (p d0 s0 : Nat) (q : Int) (n sb fb : Nat) (w : Value) (fa : Int) (off : Bool) (es : Ents ByteArray) (cl : Nat) (ps : List Pc) (hl : ps.length ≤ 1048576) (hn : n ≤ 1048576) (s : ByteArray) :
    Spec Try.prog 38 [pv d0, pv s0] [blk p 73 (fsC q n sb fb w fa off), blk d0 24 [pv p], blk s0 9 [.string s], mpe sb skv es cl, own 84 3 w ps.length (ps.flatMap encP)]
      (fun _ L => ∃ a w' ps', ps' = ps ++ [((s, s, pv a) : Pc)] ∧ L = [blk p 73 (fsC q (n + 1) sb fb w' fa off), mpe sb skv (doE es cl (s, s, pv a)) (doC es cl (s, s, pv a)), own 84 3 w' ps'.length (ps'.flatMap encP), blk a 82 [.int .i64 (n : Nat), .slice none 0 0, .int .i64 0]]) := by
  refine Spec.of 20 Try.func38 rfl rfl rfl ?_
  refine swp_seq ?_
  refine swp_draw [0, 1, 2, 3, 6] _ [] (by simp only [List.append_nil]; exact Ent.refl _) (by kernel_rfl) ?_
  refine d_rd 0 rfl (rd_load rfl rfl) rfl (by kernel_rfl) (by kernel_rfl) (by kernel_rfl) ?_
  refine d_rd 1 rfl (rd_load rfl rfl) rfl (by kernel_rfl) (by kernel_rfl) (by kernel_rfl) ?_
  refine d_rd 2 rfl (rd_load rfl rfl) rfl (by kernel_rfl) (by kernel_rfl) (by kernel_rfl) ?_
  refine d_rd 3 rfl (rd_load rfl rfl) rfl (by kernel_rfl) (by kernel_rfl) (by kernel_rfl) ?_
  first | refine d_pu 4 rfl (pu_nilCheck rfl) (by kernel_rfl) (by kernel_rfl) (by kernel_rfl) ?_ | refine d_pu 4 rfl (pu_nilCheck_fn rfl) (by kernel_rfl) (by kernel_rfl) (by kernel_rfl) ?_ | refine d_pu 4 rfl (pu_nilCheck_if rfl) (by kernel_rfl) (by kernel_rfl) (by kernel_rfl) ?_
  first | refine d_pu 5 rfl (pu_fieldAddr0 rfl) (by kernel_rfl) (by kernel_rfl) (by kernel_rfl) ?_ | refine d_pu 5 rfl (pu_fieldAddr rfl) (by kernel_rfl) (by kernel_rfl) (by kernel_rfl) ?_
  refine d_rd 6 rfl (rd_load rfl rfl) rfl (by kernel_rfl) (by kernel_rfl) (by kernel_rfl) ?_
  refine d_pu 7 rfl (pu_bld (qs := [(0, _)]) rfl) (by kernel_rfl) (by kernel_rfl) (by kernel_rfl) ?_
  refine d_eft 8 rfl (by kernel_rfl) (ef_box rfl rfl) ?_
  intro b10
  refine ⟨_, Split.ent (by repeat (first | exact Split.nil | (apply Split.cons; (repeat (first | with_reducible exact Take.here | apply Take.there))))), ?_⟩
  refine d_pu 9 rfl (pu_bld (qs := [(0, _), (1, _), (2, _)]) rfl) (by kernel_rfl) (by kernel_rfl) (by kernel_rfl) ?_
  first | refine d_fint 10 rfl (by kernel_rfl) (by kernel_rfl) (ef_fn (change_spec p q n sb fb w fa off es cl ps hl s s (some ⟨b10, 0, none⟩)) rfl rfl (by repeat (first | exact Split.nil | (apply Split.cons; (repeat (first | with_reducible exact Take.here | apply Take.there)))))) ?_ | refine d_finf 10 rfl (by kernel_rfl) (by kernel_rfl) (ef_fn (change_spec p q n sb fb w fa off es cl ps hl s s (some ⟨b10, 0, none⟩)) rfl rfl (by repeat (first | exact Split.nil | (apply Split.cons; (repeat (first | with_reducible exact Take.here | apply Take.there)))))) ?_
  rintro v12 L1 ⟨w', ps', hps', rfl⟩
  refine swd_app ?_
  refine d_sub _ (.cons (t := 0) rfl .nil) ?_
  first | refine d_nilt (by kernel_rfl) ?_ | refine d_nilf (by kernel_rfl) ?_
  refine then_n ?_
  refine swp_region ?_
  refine s_rd (rd_load rfl rfl) ?_
  first | refine s_pu (pu_nilCheck rfl) ?_ | refine s_pu (pu_nilCheck_fn rfl) ?_ | refine s_pu (pu_nilCheck_if rfl) ?_
  first | refine s_pu (pu_fieldAddr0 rfl) ?_ | refine s_pu (pu_fieldAddr rfl) ?_
  refine s_rd (rd_load rfl rfl) ?_
  refine s_pu (pu_add_as ((n + 1 : Nat) : Int) rfl rfl (by omega) (by omega) (by omega)) ?_
  first | refine s_pu (pu_nilCheck rfl) ?_ | refine s_pu (pu_nilCheck_fn rfl) ?_ | refine s_pu (pu_nilCheck_if rfl) ?_
  first | refine s_pu (pu_fieldAddr0 rfl) ?_ | refine s_pu (pu_fieldAddr rfl) ?_
  refine s_ef0 (ef_store rfl rfl rfl) ?_
  refine swl_sub _ .nil ?_
  refine swl_nil ?_
  exact done_end [blk p 73 (fsC q (n + 1) sb fb w' fa off), mpe sb skv (doE es cl (s, s, pv b10)) (doC es cl (s, s, pv b10)), own 84 3 w' ps'.length (ps'.flatMap encP), blk b10 82 [.int .i64 (n : Nat), .slice none 0 0, .int .i64 0]] .nil ⟨b10, w', ps', hps', rfl⟩ (by repeat (first | exact Split.nil | (apply Split.cons; (repeat (first | with_reducible exact Take.here | apply Take.there)))))
theorem find_cases {rs : List Rc} {d : Dk} {s : ByteArray} {v : Value} {e : Int} (h : findV rs d s = (v, e)) :
    (e = 8 ∧ d.off = true) ∨ (e = 6 ∧ d.off = false ∧ findN d.seen s = none) ∨ (e = 0 ∧ d.off = false ∧ ∃ k, findN d.seen s = some k ∧ v = adr rs k) := by
  unfold findV at h
  by_cases ho : d.off = true
  · rw [if_pos ho] at h; exact .inl ⟨(Prod.mk.inj h).2.symm, ho⟩
  · rw [if_neg ho] at h
    have ho' : d.off = false := by simpa using ho
    cases hf : findN d.seen s with
    | none => rw [hf] at h; exact .inr (.inl ⟨(Prod.mk.inj h).2.symm, ho', rfl⟩)
    | some k => rw [hf] at h; exact .inr (.inr ⟨(Prod.mk.inj h).2.symm, ho', k, rfl, (Prod.mk.inj h).1.symm⟩)
theorem find_spec' {p : Nat} {d : Dk} {x : FX} (hx : Rep d x) {s : ByteArray} {v : Value} {e : Int} (hve : findV x.rs d s = (v, e)) : Spec Try.prog 35 [pv p, .string s] [fsH p d x, mpe x.sb skv x.es x.cs] (fun r L => r = .tuple #[v, .int .i64 e] ∧ L = [fsH p d x, mpe x.sb skv x.es x.cs]) := by
  have := find_spec p d x hx s
  rw [hve] at this; exact this
/-- few calls -/
def Few (d : Dk) : Prop := d.files.length ≤ 1000000 ∧ d.pend.length ≤ 1000000
set_option maxHeartbeats 8000000 in
theorem create_spec (p : Nat) (d : Dk) (hd : d.Ok) (hw : Few d) (s : ByteArray) : Spec Try.prog 13 [pv p, .string s] [FSA p d] (fun r L => r = .int .i64 (createD d s).2 ∧ L = [FSA p (createD d s).1]) := by
  refine FSA.open' fun x hx => ?_
  obtain ⟨v, e, hve⟩ : ∃ v e, findV x.rs d s = (v, e) := ⟨_, _, rfl⟩
  have hfs := find_spec' (p := p) hx hve
  have hcs := find_cases hve
  have hsl := hx.seen.len hd.seenOk.nodup
  refine Spec.of 39 Try.func13 rfl rfl rfl ?_
  refine swp_seq ?_
  refine swp_region ?_
  refine s_ef (ef_box rfl rfl) ?_
  intro b2
  refine s_ef (ef_box rfl rfl) ?_
  intro b3
  refine s_pu (pu_assign rfl) ?_
  refine swl_sub _ (.cons (t := 2) rfl (.cons (t := 3) rfl .nil)) ?_
  refine swl_nil ?_
  refine then_n ?_
  refine swp_seq ?_
  refine swp_region ?_
  refine s_rd (rd_load rfl rfl) ?_
  refine s_rd (rd_load rfl rfl) ?_
  refine s_ef (ef_fn hfs rfl rfl (by repeat (first | exact Split.nil | (apply Split.cons; (repeat (first | with_reducible exact Take.here | apply Take.there)))))) ?_
  rintro v10 L1 ⟨rfl, rfl⟩
  refine swl_app ?_
  refine s_pu (pu_move rfl) ?_
  first | refine s_pu (pu_extractL rfl) ?_ | refine s_pu (pu_extract rfl rfl) ?_
  first | refine s_pu (pu_extractL rfl) ?_ | refine s_pu (pu_extract rfl rfl) ?_
  refine s_pu (pu_assign rfl) ?_
  refine s_pu (pu_assign rfl) ?_
  refine swl_sub _ (.cons (t := 2) rfl (.cons (t := 3) rfl (.cons (t := 6) rfl .nil))) ?_
  refine swl_nil ?_
  refine then_n ?_
  refine swp_cut (fun env L => Sub env [(2, pv b2), (3, pv b3)] ∧ Ent L [blk b2 24 [pv p], blk b3 9 [.string s], fsH p d x, mpe x.sb skv x.es x.cs, mpe x.fb skv x.ef x.cf, own 84 3 x.pv x.ps.length (x.ps.flatMap encP), recsA x.rs] ∧ d.off = false ∧ goodN s = true ∧ ¬ ((findN d.seen s).isNone = true ∧ 64 ≤ d.seen.length)) ?_ ?_
  · skip
    refine swp_block ?_
    refine swp_seq ?_
    refine swp_region ?_
    refine s_pu (pu_move rfl) ?_
    refine s_pu (pu_eql rfl rfl) ?_
    refine s_pu (pu_move rfl) ?_
    refine s_split 16 rfl (fun h16 => by simp only [decide_eq_true_eq] at h16; omega) (fun h16 => ?_)
    refine s_on rfl rfl ?_
    refine s_pu (pu_move rfl) ?_
    refine s_on rfl rfl ?_
    refine s_pu (pu_eql rfl rfl) ?_
    first | refine s_pu (pu_pick_t rfl rfl) ?_ | refine s_pu (pu_pick_f rfl rfl) ?_
    refine s_pu (pu_assign rfl) ?_
    refine swl_sub _ (.cons (t := 2) rfl (.cons (t := 3) rfl (.cons (t := 6) rfl (.cons (t := 13) rfl .nil)))) ?_
    refine swl_nil ?_
    refine then_n ?_
    refine swp_cond (b := _) rfl (fun h13 => ?_) (fun h13 => ?_)
    · skip   -- 13 T
      refine swp_seq ?_
      refine swp_region ?_
      refine s_pu (pu_move rfl) ?_
      refine s_pu (pu_assign rfl) ?_
      refine swl_sub _ (.cons (t := 4) rfl .nil) ?_
      refine swl_nil ?_
      refine then_n ?_
      refine swp_ret ?_
      refine block_r ?_
      refine then_r ?_
      have h13' := of_decide_eq_true h13
      have hoff : d.off = true := by rcases hcs with ⟨_, h⟩ | ⟨h, _⟩ | ⟨h, _⟩ <;> first | exact h | omega
      have key : createD d s = (d, 8) := by unfold createD; rw [if_pos hoff]
      rw [key, h13']
      exact done_retE [FSA p d] (.tmp rfl .nil) ⟨rfl, rfl⟩ ((Split.ent' (K := [fsH p d x, mpe x.sb skv x.es x.cs, mpe x.fb skv x.ef x.cf, own 84 3 x.pv x.ps.length (x.ps.flatMap encP), recsA x.rs]) (by repeat (first | exact Split.nil | (apply Split.cons; (repeat (first | with_reducible exact Take.here | apply Take.there)))))).trans (fs_close hx))
    · skip   -- 13 F
      have h13' := of_decide_eq_false h13
      have hoff : d.off = false := by rcases hcs with ⟨h, _⟩ | ⟨_, h, _⟩ | ⟨_, h, _⟩ <;> first | exact h | omega
      refine swp_seq ?_
      refine swp_region ?_
      refine s_rd (rd_load rfl rfl) ?_
      refine s_ef (ef_fn (named_spec s) rfl rfl (by repeat (first | exact Split.nil | (apply Split.cons; (repeat (first | with_reducible exact Take.here | apply Take.there)))))) ?_
      rintro v23 L1 ⟨rfl, rfl⟩
      refine swl_app ?_
      refine s_pu (pu_not rfl) ?_
      refine s_pu (pu_assign rfl) ?_
      refine swl_sub _ (.cons (t := 2) rfl (.cons (t := 3) rfl (.cons (t := 6) rfl (.cons (t := 21) rfl .nil)))) ?_
      refine swl_nil ?_
      refine then_n ?_
      refine swp_cond (b := _) rfl (fun h21 => ?_) (fun h21 => ?_)
      · skip   -- 21 T
        refine swp_seq ?_
        refine swp_region ?_
        refine s_pu (pu_assign rfl) ?_
        refine swl_sub _ (.cons (t := 4) rfl .nil) ?_
        refine swl_nil ?_
        refine then_n ?_
        refine swp_ret ?_
        refine block_r ?_
        refine then_r ?_
        have key : createD d s = (d, 1) := by unfold createD; rw [if_neg (by rw [hoff]; decide), if_pos (by simpa using h21)]
        rw [key]
        exact done_retE [FSA p d] (.tmp rfl .nil) ⟨rfl, rfl⟩ ((Split.ent' (K := [fsH p d x, mpe x.sb skv x.es x.cs, mpe x.fb skv x.ef x.cf, own 84 3 x.pv x.ps.length (x.ps.flatMap encP), recsA x.rs]) (by repeat (first | exact Split.nil | (apply Split.cons; (repeat (first | with_reducible exact Take.here | apply Take.there)))))).trans (fs_close hx))
      · skip   -- 21 F
        refine swp_seq ?_
        refine swp_region ?_
        refine s_pu (pu_move rfl) ?_
        refine s_pu (pu_eql rfl rfl) ?_
        refine s_pu (pu_move rfl) ?_
        refine s_split 28 rfl (fun h28 => ?_) (fun h28 => ?_)
        · skip   -- 28 T
          refine s_on rfl rfl ?_
          refine s_rd (rd_load rfl rfl) ?_
          refine s_on rfl rfl ?_
          first | refine s_pu (pu_nilCheck rfl) ?_ | refine s_pu (pu_nilCheck_fn rfl) ?_ | refine s_pu (pu_nilCheck_if rfl) ?_
          refine s_on rfl rfl ?_
          first | refine s_pu (pu_fieldAddr0 rfl) ?_ | refine s_pu (pu_fieldAddr rfl) ?_
          refine s_on rfl rfl ?_
          refine s_rd (rd_load rfl rfl) ?_
          refine s_on rfl rfl ?_
          refine s_rd (rd_maplen (κ := ByteArray) rfl) ?_
          refine s_on rfl rfl ?_
          refine s_pu (pu_geq rfl rfl) ?_
          first | refine s_pu (pu_pick_t rfl rfl) ?_ | refine s_pu (pu_pick_f rfl rfl) ?_
          refine s_pu (pu_assign rfl) ?_
          refine swl_sub _ (.cons (t := 2) rfl (.cons (t := 3) rfl (.cons (t := 25) rfl .nil))) ?_
          refine swl_nil ?_
          refine then_n ?_
          refine swp_cond (b := _) rfl (fun h25 => ?_) (fun h25 => ?_)
          · skip   -- 25 T
            refine swp_seq ?_
            refine swp_region ?_
            refine s_pu (pu_assign rfl) ?_
            refine swl_sub _ (.cons (t := 4) rfl .nil) ?_
            refine swl_nil ?_
            refine then_n ?_
            refine swp_ret ?_
            refine block_r ?_
            refine then_r ?_
            have h28' := of_decide_eq_true h28
            have h25' := of_decide_eq_true h25
            have hno : findN d.seen s = none := by rcases hcs with ⟨h, _⟩ | ⟨_, _, h⟩ | ⟨h, _⟩ <;> first | exact h | omega
            have key : createD d s = (d, 7) := by unfold createD; rw [if_neg (by rw [hoff]; decide), if_neg (by simpa using h21), if_pos ⟨by rw [hno]; rfl, by omega⟩]
            rw [key]
            exact done_retE [FSA p d] (.tmp rfl .nil) ⟨rfl, rfl⟩ ((Split.ent' (K := [fsH p d x, mpe x.sb skv x.es x.cs, mpe x.fb skv x.ef x.cf, own 84 3 x.pv x.ps.length (x.ps.flatMap encP), recsA x.rs]) (by repeat (first | exact Split.nil | (apply Split.cons; (repeat (first | with_reducible exact Take.here | apply Take.there)))))).trans (fs_close hx))
          · skip   -- 25 F
            refine swp_skip ?_
            refine block_n ?_
            refine then_n ⟨⟨rfl, rfl, trivial⟩, Split.ent' (by repeat (first | exact Split.nil | (apply Split.cons; (repeat (first | with_reducible exact Take.here | apply Take.there))))), hoff, by simpa using h21, ?_⟩
            first
              | (rintro ⟨h1, h2⟩; have h3 := of_decide_eq_false h25; omega)
              | (rintro ⟨h1, h2⟩
                 have h28' := of_decide_eq_false h28
                 rcases hcs with ⟨k1, k2⟩ | ⟨k1, k2, k3⟩ | ⟨k1, k2, k, k3, k4⟩
                 · rw [hoff] at k2; cases k2
                 · omega
                 · rw [k3] at h1; cases h1)
        · skip   -- 28 F
          refine s_off rfl rfl rfl ?_
          refine s_off rfl rfl rfl ?_
          refine s_off rfl rfl rfl ?_
          refine s_off rfl rfl rfl ?_
          refine s_off rfl rfl rfl ?_
          refine s_off rfl rfl rfl ?_
          first | refine s_pu (pu_pick_t rfl rfl) ?_ | refine s_pu (pu_pick_f rfl rfl) ?_
          refine s_pu (pu_assign rfl) ?_
          refine swl_sub _ (.cons (t := 2) rfl (.cons (t := 3) rfl (.cons (t := 25) rfl .nil))) ?_
          refine swl_nil ?_
          refine then_n ?_
          refine swp_cond (b := _) rfl (fun h25 => by cases h25) (fun h25 => ?_)
          refine swp_skip ?_
          refine block_n ?_
          refine then_n ⟨⟨rfl, rfl, trivial⟩, Split.ent' (by repeat (first | exact Split.nil | (apply Split.cons; (repeat (first | with_reducible exact Take.here | apply Take.there))))), hoff, by simpa using h21, ?_⟩
          first
            | (rintro ⟨h1, h2⟩; have h3 := of_decide_eq_false h25; omega)
            | (rintro ⟨h1, h2⟩
               have h28' := of_decide_eq_false h28
               rcases hcs with ⟨k1, k2⟩ | ⟨k1, k2, k3⟩ | ⟨k1, k2, k, k3, k4⟩
               · rw [hoff] at k2; cases k2
               · omega
               · rw [k3] at h1; cases h1)
  rintro env L ⟨hsub, hE, h1, h2, h3⟩
  refine swp_sub _ hsub ?_
  refine swp_ent hE ?_
  clear hsub hE env L
  refine swp_seq ?_
  refine swp_region ?_
  refine s_rd (rd_load rfl rfl) ?_
  refine s_pu (pu_func (vs := []) (us := [_, _]) rfl rfl) ?_
  refine s_ef (ef_fn (step_spec (f := 38) (ca := [pv b2, pv b3]) (pre := [blk b2 24 [pv p], blk b3 9 [.string s], mpe x.sb skv x.es x.cs, own 84 3 x.pv x.ps.length (x.ps.flatMap encP)]) p d.quota x.rs.length x.sb x.fb x.pv d.falls d.off hd.falls (fun fa' => create1_spec p b2 b3 d.quota x.rs.length x.sb x.fb x.pv fa' d.off x.es x.cs x.ps (by rw [hx.ps.1]; have := hw.2; omega) (by rw [hx.len]; have := hw.1; omega) s)) rfl rfl (by repeat (first | exact Split.nil | (apply Split.cons; (repeat (first | with_reducible exact Take.here | apply Take.there)))))) ?_
  rintro v38 L1 hk
  skip
  refine s_pu (pu_assign rfl) ?_
  refine swl_sub _ (.cons (t := 4) rfl .nil) ?_
  refine swl_nil ?_
  refine then_n ?_
  refine swp_ret ?_
  rcases hk with ⟨hf1, rfl, rfl⟩ | ⟨hfn, rfl, a, w', ps', hps, rfl⟩
  · have key : createD d s = (fa0 d, 8) := by unfold createD; rw [if_neg (by rw [h1]; decide), if_neg (by rw [h2]; decide), if_neg h3]; exact atStep_1 hf1 _
    rw [key]
    refine done_retE [FSA p (fa0 d)] (.tmp rfl .nil) ⟨rfl, rfl⟩ ?_
    simp only [List.cons_append, List.nil_append]
    exact ((Split.ent' (K := [fsH p (fa0 d) x, mpe x.sb skv x.es x.cs, mpe x.fb skv x.ef x.cf, own 84 3 x.pv x.ps.length (x.ps.flatMap encP), recsA x.rs]) (by repeat (first | exact Split.nil | (apply Split.cons; (repeat (first | with_reducible exact Take.here | apply Take.there)))))).trans (fs_close (d := fa0 d) (hx.fa _ _)))
  · have key : createD d s = ((newF (fa1 d)).chg ⟨nos, s, d.files.length⟩, 0) := by unfold createD; rw [if_neg (by rw [h1]; decide), if_neg (by rw [h2]; decide), if_neg h3]; exact atStep_n hfn _
    have hl := hx.len
    have hr := (hx.fa (fa1 d).falls d.off).new hd.fa1 ⟨a, .slice none 0 0, ⟨[], 0⟩⟩
    have hr2 := hr.chg (d := newF (fa1 d)) hd.names (p := (s, s, pv a)) (c := ⟨nos, s, d.files.length⟩) ⟨rfl, .inr ⟨rfl, rfl⟩, by show _ = if strEq s nos = true then _ else adr (x.rs ++ [_]) d.files.length; rw [if_neg (by rw [goodN_ne h2]; decide), ← hl, adr_new]⟩
      (fun _ => ⟨⟨a, .slice none 0 0, ⟨[], 0⟩⟩, by show (x.rs ++ [_])[d.files.length]? = _; rw [← hl]; simp, by unfold Dk.fl; simp⟩)
    rw [key]
    refine done_retE [FSA p ((newF (fa1 d)).chg ⟨nos, s, d.files.length⟩)] (.tmp rfl .nil) ⟨rfl, rfl⟩ ?_
    simp only [List.cons_append, List.nil_append]
    refine Ent.trans (Split.ent' (K := [blk a 82 [.int .i64 (x.rs.length : Nat), .slice none 0 0, .int .i64 0], recsA x.rs, blk p 73 (fsC d.quota (x.rs.length + 1) x.sb x.fb w' (if 0 < d.falls then d.falls - 1 else d.falls) d.off), mpe x.sb skv (doE x.es x.cs (s, s, pv a)) (doC x.es x.cs (s, s, pv a)), mpe x.fb skv x.ef x.cf, own 84 3 w' ps'.length (ps'.flatMap encP)]) (by repeat (first | exact Split.nil | (apply Split.cons; (repeat (first | with_reducible exact Take.here | apply Take.there)))))) ?_
    refine (recs_new0 rfl).trans ?_
    rw [show x.rs.length + 1 = (x.rs ++ [(⟨a, .slice none 0 0, ⟨[], 0⟩⟩ : Rc)]).length by simp, hps]
    refine Ent.trans (Split.ent' (K := [blk p 73 (fsC d.quota (x.rs ++ [(⟨a, .slice none 0 0, ⟨[], 0⟩⟩ : Rc)]).length x.sb x.fb w' (if 0 < d.falls then d.falls - 1 else d.falls) d.off), mpe x.sb skv (doE x.es x.cs (s, s, pv a)) (doC x.es x.cs (s, s, pv a)), mpe x.fb skv x.ef x.cf, own 84 3 w' (x.ps ++ [(s, s, pv a)]).length ((x.ps ++ [(s, s, pv a)]).flatMap encP), recsA (x.rs ++ [(⟨a, .slice none 0 0, ⟨[], 0⟩⟩ : Rc)])]) (by repeat (first | exact Split.nil | (apply Split.cons; (repeat (first | with_reducible exact Take.here | apply Take.there)))))) ?_
    exact fs_close (d := (newF (fa1 d)).chg ⟨nos, s, d.files.length⟩) (x := { sb := x.sb, fb := x.fb, es := doE x.es x.cs (s, s, pv a), cs := doC x.es x.cs (s, s, pv a), ef := x.ef, cf := x.cf, rs := x.rs ++ [⟨a, .slice none 0 0, ⟨[], 0⟩⟩], ps := x.ps ++ [(s, s, pv a)], pv := w' }) ⟨hr2.seen, hr2.safe, hr2.bs, hr2.bf, hr2.len, hr2.fl, hr2.ps⟩
end SX
namespace SX
open Go Go.Proofs
theorem recs_back {rs : List Rc} {i : Nat} {r : Rc} (h : rs[i]? = some r) (hg : r.f.safe ≤ r.f.bytes.length) {L : List Assn} : Ent (recG i r ++ holeA rs i :: L) (recsA rs :: L) := by
  have e : rs.set i r = rs := by
    have := (List.getElem?_eq_some_iff.1 h)
    rw [← this.2]; exact List.set_getElem_self this.1
  have := recs_close (rs := rs) (i := i) (r := r) (L := L) (List.getElem?_eq_some_iff.1 h).1 hg
  rwa [e] at this
theorem recs_open' {rs : List Rc} {i : Nat} {r : Rc} (h : rs[i]? = some r) (hg : r.f.safe ≤ r.f.bytes.length) {L : List Assn} : Ent (recsA rs :: L) (own 5 1 r.v r.f.bytes.length (bcs r.f.bytes) :: blk r.a 82 [.int .i64 (i : Nat), r.v, .int .i64 (r.f.safe : Nat)] :: holeA rs i :: L) :=
  (recs_open h hg).trans Ent.swap
theorem recs_close' {rs : List Rc} {i : Nat} (r : Rc) (h : i < rs.length) (hg : r.f.safe ≤ r.f.bytes.length) {L : List Assn} : Ent (own 5 1 r.v r.f.bytes.length (bcs r.f.bytes) :: blk r.a 82 [.int .i64 (i : Nat), r.v, .int .i64 (r.f.safe : Nat)] :: holeA rs i :: L) (recsA (rs.set i r) :: L) :=
  Ent.swap.trans (recs_close (r := r) h hg)
theorem recs_back' {rs : List Rc} {i : Nat} {r : Rc} (h : rs[i]? = some r) (hg : r.f.safe ≤ r.f.bytes.length) {L : List Assn} : Ent (own 5 1 r.v r.f.bytes.length (bcs r.f.bytes) :: blk r.a 82 [.int .i64 (i : Nat), r.v, .int .i64 (r.f.safe : Nat)] :: holeA rs i :: L) (recsA rs :: L) :=
  Ent.swap.trans (recs_back h hg)
/-- how long the file of a name is -/
def lenN (d : Dk) (s : ByteArray) : Nat := ((findN d.seen s).map fun k => (d.fl k).bytes.length).getD 0
theorem names_perm {es : Ents ByteArray} {l : List Nm} {rs : List Rc} (h : NmRel es l rs) (hn : (l.map (·.1)).Nodup) : (es.map (·.1)).Perm (l.map (·.1)) := by
  have := (h.perm hn).map (·.1)
  rwa [List.map_map, List.map_map] at this
theorem used_sum {d : Dk} (hd : d.Ok) {es : Ents ByteArray} {rs : List Rc} (h : NmRel es d.seen rs) : (es.map fun x => lenN d x.1).sum = d.used := by
  have h1 : (es.map fun x => lenN d x.1) = (es.map (·.1)).map (lenN d) := by rw [List.map_map]; rfl
  have h2 : d.used = ((d.seen.map (·.1)).map (lenN d)).sum := by
    unfold Dk.used
    rw [List.map_map]
    congr 1
    refine List.map_congr_left fun x hx => ?_
    show _ = lenN d x.1
    unfold lenN
    rw [findN_of hd.seenOk.nodup hx]; rfl
  rw [h1, h2]
  exact ((names_perm h hd.seenOk.nodup).map _).sum_nat
theorem lenN_le {d : Dk} (hd : d.Ok) (s : ByteArray) : lenN d s ≤ mostF := by
  unfold lenN
  cases findN d.seen s with
  | none => exact Nat.zero_le _
  | some k => exact (Dk.fl_ok hd k).1
/-- a file that a name's entry tells -/
theorem Rep.at {d : Dk} {x : FX} (h : Rep d x) {y : ByteArray × Value × Nat} (hy : y ∈ x.es) : ∃ k r, findN d.seen y.1 = some k ∧ x.rs[k]? = some r ∧ r.f = d.fl k ∧ y.2.1 = pv r.a := by
  have h1 := mlook_of h.seen.keys hy
  rw [h.seen.look] at h1
  obtain ⟨k, hk, hv⟩ := Option.map_eq_some_iff.1 h1
  obtain ⟨r, hr, hf, ha⟩ := h.find hk
  exact ⟨k, r, hk, hr, hf, by rw [← hv, ha]⟩
set_option maxHeartbeats 2000000 in
theorem used_spec (p : Nat) (d : Dk) (hd : d.Ok) (x : FX) (hx : Rep d x) : Spec Try.prog 31 [pv p] [fsH p d x, mpe x.sb skv x.es x.cs, recsA x.rs] (fun r L => r = .int .i64 (d.used : Nat) ∧ L = [fsH p d x, mpe x.sb skv x.es x.cs, recsA x.rs]) := by
  have hel := hx.seen.len hd.seenOk.nodup
  have hsl := hd.seenLe
  refine Spec.of 25 Try.func31 rfl rfl rfl ?_
  refine swp_seq ?_
  refine swp_region ?_
  refine s_pu (pu_assign rfl) ?_
  refine swl_sub _ (.cons (t := 0) rfl .nil) ?_
  refine swl_nil ?_
  refine then_n ?_
  refine swp_seq ?_
  refine swp_region ?_
  refine s_pu (pu_assign rfl) ?_
  refine swl_sub _ (.cons (t := 0) rfl (.cons (t := 3) rfl .nil)) ?_
  refine swl_nil ?_
  refine then_n ?_
  refine swp_seq ?_
  refine swp_seq ?_
  refine swp_region ?_
  refine s_pu (pu_move rfl) ?_
  refine s_pu (pu_ptr_ne_nil rfl rfl) ?_
  refine swl_sub _ (.cons (t := 0) rfl (.cons (t := 3) rfl (.cons (t := 7) rfl .nil))) ?_
  refine swl_nil ?_
  refine then_n ?_
  refine swp_cond (b := _) rfl (fun h7 => ?_) (fun h7 => by cases h7)
  refine swp_seq ?_
  refine swp_region ?_
  refine s_pu (pu_move rfl) ?_
  first | refine s_pu (pu_nilCheck rfl) ?_ | refine s_pu (pu_nilCheck_fn rfl) ?_ | refine s_pu (pu_nilCheck_if rfl) ?_
  first | refine s_pu (pu_fieldAddr0 rfl) ?_ | refine s_pu (pu_fieldAddr rfl) ?_
  refine s_rd (rd_load rfl rfl) ?_
  refine s_ef (ef_range (κ := ByteArray) rfl) ?_
  rintro it
  skip
  refine swl_sub _ (.cons (t := 3) rfl (.cons (t := 12) rfl .nil)) ?_
  refine swl_nil ?_
  refine then_n ?_
  refine swp_block ?_
  refine swp_ent (Split.ent' (K := [itA it x.sb x.cs [] x.cs, mpe x.sb skv x.es x.cs, fsH p d x, recsA x.rs]) (by repeat (first | exact Split.nil | (apply Split.cons; (repeat (first | with_reducible exact Take.here | apply Take.there)))))) ?_
  refine swp_loop (ι := Ents ByteArray × Ents ByteArray) (fun k env L => Sub env [(3, .int .i64 ((k.1.map fun y => lenN d y.1).sum : Nat)), (12, pv it)] ∧ Ent L [itA it x.sb x.cs (k.1.map (·.2.2)) x.cs, mpe x.sb skv x.es x.cs, fsH p d x, recsA x.rs] ∧ Going x.es k.1 k.2) (fun k => k.2.length) ([], x.es) ⟨⟨rfl, rfl, trivial⟩, Ent.refl _, Going.start _⟩ ?_
  rintro ⟨dn, td⟩ env L ⟨hsub, hE, hgo⟩
  dsimp only at hsub hE hgo
  refine swp_sub _ hsub ?_
  refine swp_ent hE ?_
  clear hsub hE env L
  refine swp_seq ?_
  refine swp_region ?_
  refine s_ef (ef_next (κ := ByteArray) rfl (by repeat (first | exact Split.nil | (apply Split.cons; (repeat (first | with_reducible exact Take.here | apply Take.there))))) hx.bs.1 (Nat.le_refl _)) ?_
  refine ⟨fun hall => ?_, fun y hy hns => ?_⟩
  · skip
    first | refine s_pu (pu_extractL rfl) ?_ | refine s_pu (pu_extract rfl rfl) ?_
    refine swl_sub _ (.cons (t := 3) rfl (.cons (t := 12) rfl (.cons (t := 14) rfl .nil))) ?_
    refine swl_nil ?_
    refine then_n ?_
    refine swp_seq ?_
    refine swp_cond (b := _) rfl (fun h14 => by cases h14) (fun h14 => ?_)
    have htd := hgo.stop hx.bs hall
    rw [htd] at hgo
    have hsum : (dn.map fun y => lenN d y.1).sum = d.used := by
      rw [← used_sum hd hx.seen]
      refine (List.Perm.map _ ?_).sum_nat
      have := hgo; unfold Going at this; rwa [List.append_nil] at this
    refine swp_exit ?_
    refine then_x ?_
    refine then_x ?_
    refine block_hit rfl ?_
    refine then_n ?_
    refine swp_seq ?_
    refine swp_region ?_
    refine s_pu (pu_move rfl) ?_
    refine s_pu (pu_assign rfl) ?_
    refine swl_sub _ (.cons (t := 2) rfl .nil) ?_
    refine swl_nil ?_
    refine then_n ?_
    refine swp_ret ?_
    refine done_ret [fsH p d x, mpe x.sb skv x.es x.cs, recsA x.rs] (.tmp rfl .nil) ⟨by rw [← hsum]; rfl, rfl⟩ (by repeat (first | exact Split.nil | (apply Split.cons; (repeat (first | with_reducible exact Take.here | apply Take.there)))))
  · skip
    first | refine s_pu (pu_extractL rfl) ?_ | refine s_pu (pu_extract rfl rfl) ?_
    refine swl_sub _ (.cons (t := 3) rfl (.cons (t := 12) rfl (.cons (t := 14) rfl .nil))) ?_
    refine swl_nil ?_
    refine then_n ?_
    refine swp_seq ?_
    refine swp_cond (b := _) rfl (fun h14 => ?_) (fun h14 => by cases h14)
    obtain ⟨td', hgo', hlt⟩ := hgo.step hy hns
    obtain ⟨k, r, hk, hr, hf, hv⟩ := hx.at hy
    have hle : (dn.map fun y => lenN d y.1).sum ≤ 64 * mostF := by
      have h1 := sum_le (fun y : ByteArray × Value × Nat => lenN d y.1) mostF dn fun y _ => lenN_le hd y.1
      have h2 : dn.length ≤ 64 := by have := hgo.length_eq; rw [List.length_append] at this; omega
      exact Nat.le_trans h1 (Nat.mul_le_mul_right _ h2)
    have hll : lenN d y.1 = r.f.bytes.length := by unfold lenN; rw [hk, hf]; rfl
    have hlm := lenN_le hd y.1
    simp only [mostF] at hle hlm
    refine swp_skip ?_
    refine then_n ?_
    refine swp_block ?_
    refine swp_seq ?_
    refine swp_region ?_
    refine s_rd (rd_entry (κ := ByteArray) rfl (by repeat (first | exact Split.nil | (apply Split.cons; (repeat (first | with_reducible exact Take.here | apply Take.there))))) hy hx.bs) ?_
    first | refine s_pu (pu_extractL rfl) ?_ | refine s_pu (pu_extract rfl rfl) ?_
    refine s_pu (pu_assign rfl) ?_
    refine swl_sub _ (.cons (t := 3) rfl (.cons (t := 5) rfl (.cons (t := 12) rfl .nil))) ?_
    refine swl_nil ?_
    refine then_n ?_
    rw [hv]
    refine swp_ent (Split.ent' (K := [recsA x.rs, itA it x.sb x.cs (dn.map (·.2.2) ++ [y.2.2]) x.cs, mpe x.sb skv x.es x.cs, fsH p d x]) (by repeat (first | exact Split.nil | (apply Split.cons; (repeat (first | with_reducible exact Take.here | apply Take.there)))))) ?_
    refine swp_ent (recs_open' hr (real_of hd hf)) ?_
    refine swp_fact (fun m h => own_form h) fun hform => ?_
    refine swp_region ?_
    refine s_pu (pu_move rfl) ?_
    refine s_pu (pu_move rfl) ?_
    first | refine s_pu (pu_nilCheck rfl) ?_ | refine s_pu (pu_nilCheck_fn rfl) ?_ | refine s_pu (pu_nilCheck_if rfl) ?_
    first | refine s_pu (pu_fieldAddr0 rfl) ?_ | refine s_pu (pu_fieldAddr rfl) ?_
    refine s_rd (rd_load rfl rfl) ?_
    refine s_pu (pu_len_own hform rfl) ?_
    refine s_pu (pu_add_as (((dn.map fun y => lenN d y.1).sum + r.f.bytes.length : Nat) : Int) rfl rfl (by omega) (by omega) (by omega)) ?_
    refine s_pu (pu_assign rfl) ?_
    refine swl_sub _ (.cons (t := 3) rfl (.cons (t := 12) rfl .nil)) ?_
    refine swl_nil ?_
    refine block_n ?_
    refine then_n ⟨(dn ++ [y], td'), ⟨⟨?_, rfl, trivial⟩, ?_, hgo'⟩, by dsimp only; omega⟩
    · show look _ 3 = some (.int .i64 (((dn ++ [y]).map fun y => lenN d y.1).sum : Nat))
      rw [List.map_append, List.sum_append]
      simp only [List.map_cons, List.map_nil, List.sum_cons, List.sum_nil, Nat.add_zero, hll]; rfl
    · refine Ent.trans (Split.ent' (K := [own 5 1 r.v r.f.bytes.length (bcs r.f.bytes), blk r.a 82 [.int .i64 (k : Nat), r.v, .int .i64 (r.f.safe : Nat)], holeA x.rs k, itA it x.sb x.cs (dn.map (·.2.2) ++ [y.2.2]) x.cs, mpe x.sb skv x.es x.cs, fsH p d x]) (by repeat (first | exact Split.nil | (apply Split.cons; (repeat (first | with_reducible exact Take.here | apply Take.there)))))) ?_
      refine (recs_back' hr (real_of hd hf)).trans ?_
      rw [show (dn ++ [y]).map (·.2.2) = dn.map (·.2.2) ++ [y.2.2] by rw [List.map_append]; rfl]
      exact Split.ent' (by repeat (first | exact Split.nil | (apply Split.cons; (repeat (first | with_reducible exact Take.here | apply Take.there)))))
end SX
namespace SX
open Go Go.Proofs
instance : TZv Try.prog 5 (.int .u8 0) := ⟨by kernel_rfl⟩
theorem bcs_take (l : List UInt8) (m : Nat) : bcs (l.take m) = (bcs l).take m := by rw [bcs_map, bcs_map, List.map_take]
theorem bcs_append (a b : List UInt8) : bcs (a ++ b) = bcs a ++ bcs b := by rw [bcs_map, bcs_map, bcs_map, List.map_append]
theorem bclone_nil : Spec Try.prog 45 [.slice none 0 0] [] (fun v L => v = .slice none 0 0 ∧ L = []) := by
  refine Spec.of 8 Try.func45 rfl rfl rfl ?_
  refine swp_seq ?_
  refine swp_region ?_
  refine s_pu (pu_assign rfl) ?_
  refine swl_sub _ (.cons (t := 0) rfl .nil) ?_
  refine swl_nil ?_
  refine then_n ?_
  refine swp_seq ?_
  refine swp_seq ?_
  refine swp_region ?_
  refine s_pu (pu_move rfl) ?_
  refine s_pu (pu_sl_eq_nil rfl rfl) ?_
  refine swl_sub _ (.cons (t := 0) rfl (.cons (t := 4) rfl .nil)) ?_
  refine swl_nil ?_
  refine then_n ?_
  refine swp_cond (b := _) rfl (fun h4 => ?_) (fun h4 => by cases h4)
  refine swp_seq ?_
  refine swp_region ?_
  refine s_pu (pu_assign rfl) ?_
  refine swl_sub _ (.cons (t := 2) rfl .nil) ?_
  refine swl_nil ?_
  refine then_n ?_
  refine swp_ret ?_
  refine then_r ?_
  exact done_ret [] (.tmp rfl .nil) ⟨rfl, rfl⟩ (by repeat (first | exact Split.nil | (apply Split.cons; (repeat (first | with_reducible exact Take.here | apply Take.there)))))
theorem bclone_blk (g m c : Nat) (bs : List UInt8) (ex : List Value) (hm : m ≤ bs.length) (hb : bs.length ≤ 1099511627776) :
    Spec Try.prog 45 [.slice (some ⟨g, 0, none⟩) m c] [blk g 5 (bcs bs ++ ex)] (fun v L => (∃ A c, v = .slice A m c) ∧ L = [own 5 1 v m (bcs (bs.take m)), blk g 5 (bcs bs ++ ex)]) := by
  have hcl : (bcs (bs.take m)).length = m * 1 := by rw [bcs_len, List.length_take, Nat.min_eq_left hm, Nat.mul_one]
  have hcn : ∀ (j : Nat) (u : Value), (bcs (bs.take m))[j]? = some u → (bcs bs ++ ex)[0 + j]? = some u := fun j u hj => by
    rw [bcs_take, List.getElem?_take] at hj
    split at hj
    · rw [Nat.zero_add, List.getElem?_append_left (List.getElem?_eq_some_iff.1 hj).1]; exact hj
    · cases hj
  refine Spec.of 8 Try.func45 rfl rfl rfl ?_
  refine swp_seq ?_
  refine swp_region ?_
  refine s_pu (pu_assign rfl) ?_
  refine swl_sub _ (.cons (t := 0) rfl .nil) ?_
  refine swl_nil ?_
  refine then_n ?_
  refine swp_seq ?_
  refine swp_seq ?_
  refine swp_region ?_
  refine s_pu (pu_move rfl) ?_
  refine s_pu (pu_sl_eq_nil rfl rfl) ?_
  refine swl_sub _ (.cons (t := 0) rfl (.cons (t := 4) rfl .nil)) ?_
  refine swl_nil ?_
  refine then_n ?_
  refine swp_cond (b := _) rfl (fun h4 => by cases h4) (fun h4 => ?_)
  refine swp_skip ?_
  refine then_n ?_
  refine swp_seq ?_
  refine swp_region ?_
  refine s_ef (ef_bldS (qs := []) rfl rfl rfl) ?_
  intro b5
  refine s_pu (pu_move rfl) ?_
  refine swl_ent (own_close (n := 1) (l := 0) (cap := 0) (xs := []) (ex := []) rfl rfl (Nat.le_refl _) (by simp [maxLen])) ?_
  refine s_ef (ef_append_of (news := bcs (bs.take m)) rfl rfl (by repeat (first | exact Split.nil | (apply Split.cons; (repeat (first | with_reducible exact Take.here | apply Take.there))))) hcl hcn (bcs_one _) (by simp only [maxLen]; omega) (by omega)) ?_
  rintro v' -
  rw [Nat.zero_add, List.nil_append]
  refine swl_fact (fun m h => own_form h) fun hform => ?_
  refine s_pu (pu_assign rfl) ?_
  refine swl_sub _ (.cons (t := 2) rfl .nil) ?_
  refine swl_nil ?_
  refine then_n ?_
  refine swp_ret ?_
  exact done_ret [own 5 1 v' m (bcs (bs.take m)), blk g 5 (bcs bs ++ ex)] (.tmp rfl .nil) ⟨hform, rfl⟩ (by repeat (first | exact Split.nil | (apply Split.cons; (repeat (first | with_reducible exact Take.here | apply Take.there)))))
/-- slices.Clone of the first m bytes of a slice of the call's own -/
theorem bclone_own (A : Option Addr) (m l c c' : Nat) (bs : List UInt8) (hl : bs.length = l) (hm : m ≤ l) (hb : bs.length ≤ 1099511627776) (hc : A = none → m = 0 ∧ c' = 0) :
    Spec Try.prog 45 [.slice A m c'] [own 5 1 (.slice A l c) l (bcs bs)] (fun v' L => (∃ A c, v' = .slice A m c) ∧ L = [own 5 1 v' m (bcs (bs.take m)), own 5 1 (.slice A l c) l (bcs bs)]) := by
  subst hl
  refine Spec.own_cases (fun hv l0 x0 => ?_) (fun g cap ex hv o1 o2 o3 o4 => ?_)
  · obtain ⟨rfl, h1, rfl⟩ := Value.slice.inj hv
    have hbs : bs = [] := List.eq_nil_of_length_eq_zero l0
    obtain ⟨rfl, rfl⟩ := hc rfl
    subst hbs
    refine Spec.ent3 bclone_nil ?_
    rintro v L ⟨rfl, rfl⟩
    exact ⟨_, own_nil_ent.trans (Ent.cons own_nil_ent), ⟨_, _, rfl⟩, rfl⟩
  · obtain ⟨rfl, _, rfl⟩ := Value.slice.inj hv
    refine Spec.ent3 (bclone_blk g m c' bs ex hm hb) ?_
    rintro v L ⟨hf, rfl⟩
    exact ⟨_, Ent.cons (own_close o3 o4 o1 o2), hf, rfl⟩
/-- Append's step -/
theorem append1_spec (f0 t0 a k sf l : Nat) (v : Value) (xs : List Value) (s : ByteArray) (hl : l + s.size ≤ 1099511627776) :
    Spec Try.prog 43 [pv f0, pv t0] [blk f0 74 [pv a], blk t0 9 [.string s], blk a 82 [.int .i64 (k : Nat), v, .int .i64 (sf : Nat)], own 5 1 v l xs]
      (fun _ L => ∃ v', L = [blk f0 74 [pv a], blk t0 9 [.string s], blk a 82 [.int .i64 (k : Nat), v', .int .i64 (sf : Nat)], own 5 1 v' (l + s.size) (xs ++ bcs s.data.toList)]) := by
  refine Spec.of 11 Try.func43 rfl rfl rfl ?_
  refine swp_draw [0, 1, 4, 5] ([blk f0 74 [pv a], blk t0 9 [.string s], blk a 82 [.int .i64 (k : Nat), v, .int .i64 (sf : Nat)]]) ([own 5 1 v l xs]) (Split.ent (by repeat (first | exact Split.nil | (apply Split.cons; (repeat (first | with_reducible exact Take.here | apply Take.there)))))) (by kernel_rfl) ?_
  refine d_rd 0 rfl (rd_load rfl rfl) rfl (by kernel_rfl) (by kernel_rfl) (by kernel_rfl) ?_
  refine d_rd 1 rfl (rd_load rfl rfl) rfl (by kernel_rfl) (by kernel_rfl) (by kernel_rfl) ?_
  first | refine d_pu 2 rfl (pu_nilCheck rfl) (by kernel_rfl) (by kernel_rfl) (by kernel_rfl) ?_ | refine d_pu 2 rfl (pu_nilCheck_fn rfl) (by kernel_rfl) (by kernel_rfl) (by kernel_rfl) ?_ | refine d_pu 2 rfl (pu_nilCheck_if rfl) (by kernel_rfl) (by kernel_rfl) (by kernel_rfl) ?_
  first | refine d_pu 3 rfl (pu_fieldAddr0 rfl) (by kernel_rfl) (by kernel_rfl) (by kernel_rfl) ?_ | refine d_pu 3 rfl (pu_fieldAddr rfl) (by kernel_rfl) (by kernel_rfl) (by kernel_rfl) ?_
  refine d_rd 4 rfl (rd_load rfl rfl) rfl (by kernel_rfl) (by kernel_rfl) (by kernel_rfl) ?_
  refine d_rd 5 rfl (rd_load rfl rfl) rfl (by kernel_rfl) (by kernel_rfl) (by kernel_rfl) ?_
  refine d_eft 6 rfl (by kernel_rfl) (ef_append_str rfl rfl (by repeat (first | exact Split.nil | (apply Split.cons; (repeat (first | with_reducible exact Take.here | apply Take.there))))) (by omega)) ?_
  rintro A' c'
  refine ⟨_, Split.ent (by repeat (first | exact Split.nil | (apply Split.cons; (repeat (first | with_reducible exact Take.here | apply Take.there))))), ?_⟩
  first | refine d_pu 7 rfl (pu_nilCheck rfl) (by kernel_rfl) (by kernel_rfl) (by kernel_rfl) ?_ | refine d_pu 7 rfl (pu_nilCheck_fn rfl) (by kernel_rfl) (by kernel_rfl) (by kernel_rfl) ?_ | refine d_pu 7 rfl (pu_nilCheck_if rfl) (by kernel_rfl) (by kernel_rfl) (by kernel_rfl) ?_
  first | refine d_pu 8 rfl (pu_fieldAddr0 rfl) (by kernel_rfl) (by kernel_rfl) (by kernel_rfl) ?_ | refine d_pu 8 rfl (pu_fieldAddr rfl) (by kernel_rfl) (by kernel_rfl) (by kernel_rfl) ?_
  first | refine d_fin0t 9 rfl (by kernel_rfl) (by kernel_rfl) (ef_store rfl rfl rfl) ?_ | refine d_fin0f 9 rfl (by kernel_rfl) (by kernel_rfl) (ef_store rfl rfl rfl) ?_
  refine d_sub _ .nil ?_
  first | refine d_nilt (by kernel_rfl) ?_ | refine d_nilf (by kernel_rfl) ?_
  exact done_end [blk f0 74 [pv a], blk t0 9 [.string s], blk a 82 [.int .i64 (k : Nat), .slice A' (l + s.size) c', .int .i64 (sf : Nat)], own 5 1 (.slice A' (l + s.size) c') (l + s.size) (xs ++ bcs s.data.toList)] .nil ⟨_, rfl⟩ (by repeat (first | exact Split.nil | (apply Split.cons; (repeat (first | with_reducible exact Take.here | apply Take.there)))))
/-- Sync's step -/
theorem sync1_spec (f0 a k sf l : Nat) (v : Value) (hv : ∃ A c, v = .slice A l c) :
    Spec Try.prog 42 [pv f0] [blk f0 74 [pv a], blk a 82 [.int .i64 (k : Nat), v, .int .i64 (sf : Nat)]]
      (fun _ L => L = [blk f0 74 [pv a], blk a 82 [.int .i64 (k : Nat), v, .int .i64 (l : Nat)]]) := by
  refine Spec.of 9 Try.func42 rfl rfl rfl ?_
  refine swp_draw [0, 1, 4] _ [] (by simp only [List.append_nil]; exact Ent.refl _) (by kernel_rfl) ?_
  refine d_rd 0 rfl (rd_load rfl rfl) rfl (by kernel_rfl) (by kernel_rfl) (by kernel_rfl) ?_
  refine d_rd 1 rfl (rd_load rfl rfl) rfl (by kernel_rfl) (by kernel_rfl) (by kernel_rfl) ?_
  first | refine d_pu 2 rfl (pu_nilCheck rfl) (by kernel_rfl) (by kernel_rfl) (by kernel_rfl) ?_ | refine d_pu 2 rfl (pu_nilCheck_fn rfl) (by kernel_rfl) (by kernel_rfl) (by kernel_rfl) ?_ | refine d_pu 2 rfl (pu_nilCheck_if rfl) (by kernel_rfl) (by kernel_rfl) (by kernel_rfl) ?_
  first | refine d_pu 3 rfl (pu_fieldAddr0 rfl) (by kernel_rfl) (by kernel_rfl) (by kernel_rfl) ?_ | refine d_pu 3 rfl (pu_fieldAddr rfl) (by kernel_rfl) (by kernel_rfl) (by kernel_rfl) ?_
  refine d_rd 4 rfl (rd_load rfl rfl) rfl (by kernel_rfl) (by kernel_rfl) (by kernel_rfl) ?_
  refine d_pu 5 rfl (pu_len_own hv rfl) (by kernel_rfl) (by kernel_rfl) (by kernel_rfl) ?_
  first | refine d_pu 6 rfl (pu_nilCheck rfl) (by kernel_rfl) (by kernel_rfl) (by kernel_rfl) ?_ | refine d_pu 6 rfl (pu_nilCheck_fn rfl) (by kernel_rfl) (by kernel_rfl) (by kernel_rfl) ?_ | refine d_pu 6 rfl (pu_nilCheck_if rfl) (by kernel_rfl) (by kernel_rfl) (by kernel_rfl) ?_
  first | refine d_pu 7 rfl (pu_fieldAddr0 rfl) (by kernel_rfl) (by kernel_rfl) (by kernel_rfl) ?_ | refine d_pu 7 rfl (pu_fieldAddr rfl) (by kernel_rfl) (by kernel_rfl) (by kernel_rfl) ?_
  first | refine d_fin0t 8 rfl (by kernel_rfl) (by kernel_rfl) (ef_store rfl rfl rfl) ?_ | refine d_fin0f 8 rfl (by kernel_rfl) (by kernel_rfl) (ef_store rfl rfl rfl) ?_
  refine d_sub _ .nil ?_
  first | refine d_nilt (by kernel_rfl) ?_ | refine d_nilf (by kernel_rfl) ?_
  exact done_end [blk f0 74 [pv a], blk a 82 [.int .i64 (k : Nat), v, .int .i64 (l : Nat)]] .nil rfl (by repeat (first | exact Split.nil | (apply Split.cons; (repeat (first | with_reducible exact Take.here | apply Take.there)))))
/-- Cut's step -/
theorem cut1_spec (f0 n0 a k sf n l c : Nat) (A : Option Addr) (bs : List UInt8) (hl : bs.length = l) (hn : n ≤ l) (hlc : l ≤ c) (hb : bs.length ≤ 1099511627776) (hA : A = none → c = 0) :
    Spec Try.prog 62 [pv f0, pv n0] [blk f0 74 [pv a], blk n0 3 [.int .i64 (n : Nat)], blk a 82 [.int .i64 (k : Nat), .slice A l c, .int .i64 (sf : Nat)], own 5 1 (.slice A l c) l (bcs bs)]
      (fun _ L => ∃ v', L = [blk f0 74 [pv a], blk n0 3 [.int .i64 (n : Nat)], blk a 82 [.int .i64 (k : Nat), v', .int .i64 (min sf n : Nat)], own 5 1 v' n (bcs (bs.take n)), own 5 1 (.slice A l c) l (bcs bs)]) := by
  have hmin : ((min sf n : Nat) : Int) = min (sf : Int) (n : Int) := by omega
  refine Spec.of 21 Try.func62 rfl rfl rfl ?_
  refine swp_seq ?_
  refine swp_draw [0, 1, 4, 5] _ [] (by simp only [List.append_nil]; exact Ent.refl _) (by kernel_rfl) ?_
  refine d_rd 0 rfl (rd_load rfl rfl) rfl (by kernel_rfl) (by kernel_rfl) (by kernel_rfl) ?_
  refine d_rd 1 rfl (rd_load rfl rfl) rfl (by kernel_rfl) (by kernel_rfl) (by kernel_rfl) ?_
  first | refine d_pu 2 rfl (pu_nilCheck rfl) (by kernel_rfl) (by kernel_rfl) (by kernel_rfl) ?_ | refine d_pu 2 rfl (pu_nilCheck_fn rfl) (by kernel_rfl) (by kernel_rfl) (by kernel_rfl) ?_ | refine d_pu 2 rfl (pu_nilCheck_if rfl) (by kernel_rfl) (by kernel_rfl) (by kernel_rfl) ?_
  first | refine d_pu 3 rfl (pu_fieldAddr0 rfl) (by kernel_rfl) (by kernel_rfl) (by kernel_rfl) ?_ | refine d_pu 3 rfl (pu_fieldAddr rfl) (by kernel_rfl) (by kernel_rfl) (by kernel_rfl) ?_
  refine d_rd 4 rfl (rd_load rfl rfl) rfl (by kernel_rfl) (by kernel_rfl) (by kernel_rfl) ?_
  refine d_rd 5 rfl (rd_load rfl rfl) rfl (by kernel_rfl) (by kernel_rfl) (by kernel_rfl) ?_
  refine d_pu 6 rfl (pu_slice_hi n rfl rfl rfl (by omega)) (by kernel_rfl) (by kernel_rfl) (by kernel_rfl) ?_
  refine d_eft 7 rfl (by kernel_rfl) (ef_fn (bclone_own A n l c c bs hl hn hb (fun h => by have := hA h; omega)) rfl rfl (by repeat (first | exact Split.nil | (apply Split.cons; (repeat (first | with_reducible exact Take.here | apply Take.there)))))) ?_
  rintro v9 L1 ⟨⟨A', c', rfl⟩, rfl⟩
  refine ⟨_, ent_appC (Split.ent (by repeat (first | exact Split.nil | (apply Split.cons; (repeat (first | with_reducible exact Take.here | apply Take.there)))))), ?_⟩
  first | refine d_pu 8 rfl (pu_nilCheck rfl) (by kernel_rfl) (by kernel_rfl) (by kernel_rfl) ?_ | refine d_pu 8 rfl (pu_nilCheck_fn rfl) (by kernel_rfl) (by kernel_rfl) (by kernel_rfl) ?_ | refine d_pu 8 rfl (pu_nilCheck_if rfl) (by kernel_rfl) (by kernel_rfl) (by kernel_rfl) ?_
  first | refine d_pu 9 rfl (pu_fieldAddr0 rfl) (by kernel_rfl) (by kernel_rfl) (by kernel_rfl) ?_ | refine d_pu 9 rfl (pu_fieldAddr rfl) (by kernel_rfl) (by kernel_rfl) (by kernel_rfl) ?_
  first | refine d_fin0t 10 rfl (by kernel_rfl) (by kernel_rfl) (ef_store rfl rfl rfl) ?_ | refine d_fin0f 10 rfl (by kernel_rfl) (by kernel_rfl) (ef_store rfl rfl rfl) ?_
  refine d_sub _ (.cons (t := 0) rfl (.cons (t := 1) rfl .nil)) ?_
  first | refine d_nilt (by kernel_rfl) ?_ | refine d_nilf (by kernel_rfl) ?_
  refine then_n ?_
  refine swp_draw [0, 1, 4, 5] _ [] (by simp only [List.append_nil]; exact Ent.refl _) (by kernel_rfl) ?_
  refine d_rd 0 rfl (rd_load rfl rfl) rfl (by kernel_rfl) (by kernel_rfl) (by kernel_rfl) ?_
  refine d_rd 1 rfl (rd_load rfl rfl) rfl (by kernel_rfl) (by kernel_rfl) (by kernel_rfl) ?_
  first | refine d_pu 2 rfl (pu_nilCheck rfl) (by kernel_rfl) (by kernel_rfl) (by kernel_rfl) ?_ | refine d_pu 2 rfl (pu_nilCheck_fn rfl) (by kernel_rfl) (by kernel_rfl) (by kernel_rfl) ?_ | refine d_pu 2 rfl (pu_nilCheck_if rfl) (by kernel_rfl) (by kernel_rfl) (by kernel_rfl) ?_
  first | refine d_pu 3 rfl (pu_fieldAddr0 rfl) (by kernel_rfl) (by kernel_rfl) (by kernel_rfl) ?_ | refine d_pu 3 rfl (pu_fieldAddr rfl) (by kernel_rfl) (by kernel_rfl) (by kernel_rfl) ?_
  refine d_rd 4 rfl (rd_load rfl rfl) rfl (by kernel_rfl) (by kernel_rfl) (by kernel_rfl) ?_
  refine d_rd 5 rfl (rd_load rfl rfl) rfl (by kernel_rfl) (by kernel_rfl) (by kernel_rfl) ?_
  refine d_pu 6 rfl (pu_min2 rfl rfl) (by kernel_rfl) (by kernel_rfl) (by kernel_rfl) ?_
  first | refine d_pu 7 rfl (pu_nilCheck rfl) (by kernel_rfl) (by kernel_rfl) (by kernel_rfl) ?_ | refine d_pu 7 rfl (pu_nilCheck_fn rfl) (by kernel_rfl) (by kernel_rfl) (by kernel_rfl) ?_ | refine d_pu 7 rfl (pu_nilCheck_if rfl) (by kernel_rfl) (by kernel_rfl) (by kernel_rfl) ?_
  first | refine d_pu 8 rfl (pu_fieldAddr0 rfl) (by kernel_rfl) (by kernel_rfl) (by kernel_rfl) ?_ | refine d_pu 8 rfl (pu_fieldAddr rfl) (by kernel_rfl) (by kernel_rfl) (by kernel_rfl) ?_
  first | refine d_fin0t 9 rfl (by kernel_rfl) (by kernel_rfl) (ef_store rfl rfl rfl) ?_ | refine d_fin0f 9 rfl (by kernel_rfl) (by kernel_rfl) (ef_store rfl rfl rfl) ?_
  refine d_sub _ .nil ?_
  first | refine d_nilt (by kernel_rfl) ?_ | refine d_nilf (by kernel_rfl) ?_
  exact done_end [blk f0 74 [pv a], blk n0 3 [.int .i64 (n : Nat)], blk a 82 [.int .i64 (k : Nat), .slice A' n c', .int .i64 (min sf n : Nat)], own 5 1 (.slice A' n c') n (bcs (bs.take n)), own 5 1 (.slice A l c) l (bcs bs)] .nil ⟨_, rfl⟩ (R := []) (by rw [hmin]; exact (by repeat (first | exact Split.nil | (apply Split.cons; (repeat (first | with_reducible exact Take.here | apply Take.there))))))
end SX
namespace SX
open Go Go.Proofs
theorem find_err {rs : List Rc} {d : Dk} {s : ByteArray} {v : Value} {e : Int} (h : findV rs d s = (v, e)) (he : e ≠ 0) (f : Nat → Dk × Int) : onFile d s f = (d, e) := by
  unfold onFile
  rcases find_cases h with ⟨rfl, h1⟩ | ⟨rfl, h1, h2⟩ | ⟨h0, _⟩
  · rw [if_pos h1]
  · rw [if_neg (by rw [h1]; decide), h2]
  · exact absurd h0 he
theorem find_ok {rs : List Rc} {d : Dk} {s : ByteArray} {v : Value} (h : findV rs d s = (v, 0)) : ∃ k, findN d.seen s = some k ∧ v = adr rs k ∧ ∀ f, onFile d s f = f k := by
  rcases find_cases h with ⟨h0, _⟩ | ⟨h0, _⟩ | ⟨_, h1, k, h2, h3⟩
  · cases h0
  · cases h0
  · refine ⟨k, h2, h3, fun f => ?_⟩
    unfold onFile
    rw [if_neg (by rw [h1]; decide), h2]
theorem find_ptr (rs : List Rc) (d : Dk) (s : ByteArray) : ∃ o e, findV rs d s = (.pointer o, e) := by
  unfold findV
  split
  · exact ⟨_, _, rfl⟩
  · split
    · exact ⟨_, _, rfl⟩
    · next k _ =>
      unfold adr
      split
      · exact ⟨_, _, rfl⟩
      · exact ⟨_, _, rfl⟩
theorem fs_set {p : Nat} {d : Dk} {x : FX} (hx : Rep d x) {k : Nat} {r r' : Rc} (hr : x.rs[k]? = some r) (ha : r'.a = r.a) (hg : r'.f.safe ≤ r'.f.bytes.length) {L : List Assn} :
    Ent (own 5 1 r'.v r'.f.bytes.length (bcs r'.f.bytes) :: blk r'.a 82 [.int .i64 (k : Nat), r'.v, .int .i64 (r'.f.safe : Nat)] :: holeA x.rs k :: fsH p d x :: mpe x.sb skv x.es x.cs :: mpe x.fb skv x.ef x.cf :: own 84 3 x.pv x.ps.length (x.ps.flatMap encP) :: L) (FSA p (d.setF k r'.f) :: L) := by
  refine (recs_close' r' (List.getElem?_eq_some_iff.1 hr).1 hg).trans ?_
  refine Ent.trans (Ent.perm ?_) (fs_close (hx.set hr ha))
  show List.Perm (recsA (x.rs.set k r') :: fsH p d x :: _ :: _ :: _ :: L) (blk p 73 (fsC d.quota (x.rs.set k r').length x.sb x.fb x.pv d.falls d.off) :: _ :: _ :: _ :: recsA (x.rs.set k r') :: L)
  rw [List.length_set]
  exact (List.perm_middle (a := recsA (x.rs.set k r')) (l₁ := [fsH p d x, mpe x.sb skv x.es x.cs, mpe x.fb skv x.ef x.cf, own 84 3 x.pv x.ps.length (x.ps.flatMap encP)]) (l₂ := L)).symm
/-- a step whose doing does not touch the disk's own block -/
theorem step_spec' {f : FuncId} [Body Try.prog f] {ca : List Value} {pre : List Assn} {K : List Assn → Prop} (p : Nat) (q : Int) (n sb fb : Nat) (v : Value) (fa : Int) (off : Bool) (h0 : 0 ≤ fa ∧ fa ≤ 9223372036854775807)
    (h : Spec Try.prog f ca pre (fun _ L => K L)) :
    Spec Try.prog 37 [pv p, .func (.func f) #[] ca.toArray] (blk p 73 (fsC q n sb fb v fa off) :: pre) (fun r L => (fa = 1 ∧ r = .int .i64 8 ∧ L = blk p 73 (fsC q n sb fb v 0 true) :: pre) ∨ (fa ≠ 1 ∧ r = .int .i64 0 ∧ ∃ L', K L' ∧ L = blk p 73 (fsC q n sb fb v (if 0 < fa then fa - 1 else fa) off) :: L')) :=
  step_spec (K := fun fa' L => ∃ L', K L' ∧ L = blk p 73 (fsC q n sb fb v fa' off) :: L') p q n sb fb v fa off h0 fun fa' => fun _ _ hw =>
    (h.frame (R := [blk p 73 (fsC q n sb fb v fa' off)]) (hw.ent (Ent.perm (List.perm_append_comm (l₁ := [_]))))).mono fun _ _ ⟨v, L', e, hk, hh⟩ => ⟨v, _, e, ⟨L', hk, rfl⟩, hh.ent (Ent.perm (List.perm_append_comm (l₂ := [_])))⟩
set_option maxHeartbeats 4000000 in
theorem sync_spec (p : Nat) (d : Dk) (hd : d.Ok) (s : ByteArray) : Spec Try.prog 15 [pv p, .string s] [FSA p d] (fun r L => r = .int .i64 (syncD d s).2 ∧ L = [FSA p (syncD d s).1]) := by
  refine FSA.open' fun x hx => ?_
  obtain ⟨o, e, hve⟩ := find_ptr x.rs d s
  have hfs := find_spec' (p := p) hx hve
  refine Spec.of 19 Try.func15 rfl rfl rfl ?_
  refine swp_seq ?_
  refine swp_region ?_
  refine s_pu (pu_assign rfl) ?_
  refine swl_sub _ (.cons (t := 0) rfl (.cons (t := 1) rfl .nil)) ?_
  refine swl_nil ?_
  refine then_n ?_
  refine swp_seq ?_
  refine swp_region ?_
  refine s_pu (pu_move rfl) ?_
  refine s_pu (pu_move rfl) ?_
  refine s_ef (ef_fn hfs rfl rfl (by repeat (first | exact Split.nil | (apply Split.cons; (repeat (first | with_reducible exact Take.here | apply Take.there)))))) ?_
  rintro v10 L1 ⟨rfl, rfl⟩
  refine swl_app ?_
  refine s_pu (pu_move rfl) ?_
  first | refine s_pu (pu_extractL rfl) ?_ | refine s_pu (pu_extract rfl rfl) ?_
  first | refine s_pu (pu_extractL rfl) ?_ | refine s_pu (pu_extract rfl rfl) ?_
  refine s_ef (ef_alloc) ?_
  intro b5
  refine s_ef0 (ef_store rfl rfl rfl) ?_
  refine s_pu (pu_assign rfl) ?_
  refine swl_sub _ (.cons (t := 0) rfl (.cons (t := 5) rfl (.cons (t := 6) rfl .nil))) ?_
  refine swl_nil ?_
  refine then_n ?_
  refine swp_seq ?_
  refine swp_seq ?_
  refine swp_region ?_
  refine s_pu (pu_move rfl) ?_
  refine s_pu (pu_neq rfl rfl) ?_
  refine swl_sub _ (.cons (t := 0) rfl (.cons (t := 5) rfl (.cons (t := 6) rfl (.cons (t := 14) rfl .nil)))) ?_
  refine swl_nil ?_
  refine then_n ?_
  refine swp_cond (b := _) rfl (fun h14 => ?_) (fun h14 => ?_)
  · skip   -- 14 T
    refine swp_seq ?_
    refine swp_region ?_
    refine s_pu (pu_move rfl) ?_
    refine s_pu (pu_assign rfl) ?_
    refine swl_sub _ (.cons (t := 4) rfl .nil) ?_
    refine swl_nil ?_
    refine then_n ?_
    refine swp_ret ?_
    refine then_r ?_
    have h14' : e ≠ 0 := by simpa using h14
    unfold syncD
    rw [find_err hve h14']
    exact done_retE [FSA p d] (.tmp rfl .nil) ⟨rfl, rfl⟩ ((Split.ent' (K := [fsH p d x, mpe x.sb skv x.es x.cs, mpe x.fb skv x.ef x.cf, own 84 3 x.pv x.ps.length (x.ps.flatMap encP), recsA x.rs]) (by repeat (first | exact Split.nil | (apply Split.cons; (repeat (first | with_reducible exact Take.here | apply Take.there)))))).trans (fs_close hx))
  · skip   -- 14 F
    refine swp_skip ?_
    refine then_n ?_
    refine swp_seq ?_
    have h14' : e = 0 := by simpa using h14
    subst h14'
    obtain ⟨k, hk1, hk2, hk3⟩ := find_ok hve
    obtain ⟨r, hr, hf, ha⟩ := hx.find hk1
    rw [ha] at hk2
    rw [hk2]
    refine swp_ent (Split.ent' (K := [recsA x.rs, blk b5 74 [pv r.a], fsH p d x, mpe x.sb skv x.es x.cs, mpe x.fb skv x.ef x.cf, own 84 3 x.pv x.ps.length (x.ps.flatMap encP)]) (by repeat (first | exact Split.nil | (apply Split.cons; (repeat (first | with_reducible exact Take.here | apply Take.there)))))) ?_
    refine swp_ent (recs_open' hr (real_of hd hf)) ?_
    refine swp_fact (fun m h => own_form h) fun hform => ?_
    refine swp_region ?_
    refine s_pu (pu_move rfl) ?_
    refine s_pu (pu_func (vs := []) (us := [_]) rfl rfl) ?_
    refine s_ef (ef_fn (step_spec' (f := 42) (ca := [pv b5]) (pre := [blk b5 74 [pv r.a], blk r.a 82 [.int .i64 (k : Nat), r.v, .int .i64 (r.f.safe : Nat)]]) p d.quota x.rs.length x.sb x.fb x.pv d.falls d.off hd.falls (sync1_spec b5 r.a k r.f.safe r.f.bytes.length r.v hform)) rfl rfl (by repeat (first | exact Split.nil | (apply Split.cons; (repeat (first | with_reducible exact Take.here | apply Take.there)))))) ?_
    rintro v18 L1 hs
    skip
    refine s_pu (pu_assign rfl) ?_
    refine swl_sub _ (.cons (t := 4) rfl .nil) ?_
    refine swl_nil ?_
    refine then_n ?_
    refine swp_ret ?_
    rcases hs with ⟨hf1, rfl, rfl⟩ | ⟨hfn, rfl, L', rfl, rfl⟩
    · have key : syncD d s = (fa0 d, 8) := by unfold syncD; rw [hk3]; exact atStep_1 hf1 _
      rw [key]
      refine done_retE [FSA p (fa0 d)] (.tmp rfl .nil) ⟨rfl, rfl⟩ ?_
      simp only [List.cons_append, List.nil_append]
      refine Ent.trans (Split.ent' (K := [own 5 1 r.v r.f.bytes.length (bcs r.f.bytes), blk r.a 82 [.int .i64 (k : Nat), r.v, .int .i64 (r.f.safe : Nat)], holeA x.rs k, fsH p (fa0 d) x, mpe x.sb skv x.es x.cs, mpe x.fb skv x.ef x.cf, own 84 3 x.pv x.ps.length (x.ps.flatMap encP)]) (by repeat (first | exact Split.nil | (apply Split.cons; (repeat (first | with_reducible exact Take.here | apply Take.there)))))) ?_
      refine (recs_back' hr (real_of hd hf)).trans ?_
      exact ((Split.ent' (K := [fsH p (fa0 d) x, mpe x.sb skv x.es x.cs, mpe x.fb skv x.ef x.cf, own 84 3 x.pv x.ps.length (x.ps.flatMap encP), recsA x.rs]) (by repeat (first | exact Split.nil | (apply Split.cons; (repeat (first | with_reducible exact Take.here | apply Take.there)))))).trans (fs_close (d := fa0 d) (hx.fa _ _)))
    · have key : syncD d s = ((fa1 d).setF k ⟨r.f.bytes, r.f.bytes.length⟩, 0) := by
        unfold syncD; rw [hk3, atStep_n hfn]
        show ((fa1 d).setF k ⟨(d.fl k).bytes, (d.fl k).bytes.length⟩, _) = _
        rw [← hf]
      rw [key]
      refine done_retE [FSA p ((fa1 d).setF k ⟨r.f.bytes, r.f.bytes.length⟩)] (.tmp rfl .nil) ⟨rfl, rfl⟩ ?_
      simp only [List.cons_append, List.nil_append]
      refine Ent.trans (Split.ent' (K := [own 5 1 r.v r.f.bytes.length (bcs r.f.bytes), blk r.a 82 [.int .i64 (k : Nat), r.v, .int .i64 (r.f.bytes.length : Nat)], holeA x.rs k, fsH p (fa1 d) x, mpe x.sb skv x.es x.cs, mpe x.fb skv x.ef x.cf, own 84 3 x.pv x.ps.length (x.ps.flatMap encP)]) (by repeat (first | exact Split.nil | (apply Split.cons; (repeat (first | with_reducible exact Take.here | apply Take.there)))))) ?_
      exact fs_set (hx.fa _ _) hr (r' := ⟨r.a, r.v, ⟨r.f.bytes, r.f.bytes.length⟩⟩) rfl (Nat.le_refl _)
end SX
namespace SX
open Go Go.Proofs
theorem own_cap {e n : Nat} {v : Value} {l : Nat} {xs : List Value} {L : List Assn} {m : PH} (h : Sat (own e n v l xs :: L) m) : ∃ A c, v = .slice A l c ∧ l ≤ c ∧ (A = none → c = 0) := by
  obtain ⟨m1, _, ⟨_, ho⟩, _⟩ := h
  rcases ho with ⟨rfl, rfl⟩ | ⟨g, cap, cur, rfl, _, h3, _⟩
  · exact ⟨_, _, rfl, Nat.le_refl _, fun _ => rfl⟩
  · exact ⟨_, _, rfl, h3, fun h => by cases h⟩
theorem bsize (s : ByteArray) : s.data.toList.length = s.size := by rw [Array.length_toList]; rfl
set_option maxHeartbeats 4000000 in
theorem append_spec (p : Nat) (d : Dk) (hd : d.Ok) (s t : ByteArray) (ht : t.size ≤ 140737488351232) : Spec Try.prog 16 [pv p, .string s, .string t] [FSA p d] (fun r L => r = .int .i64 (appendD d s t.data.toList).2 ∧ L = [FSA p (appendD d s t.data.toList).1]) := by
  refine FSA.open' fun x hx => ?_
  obtain ⟨o, e, hve⟩ := find_ptr x.rs d s
  have hfs := find_spec' (p := p) hx hve
  have hul := Dk.used_le hd
  have hn := strEq_nos t
  have hq := hd.q
  refine Spec.of 35 Try.func16 rfl rfl rfl ?_
  refine swp_seq ?_
  refine swp_region ?_
  refine s_ef (ef_box rfl rfl) ?_
  intro b5
  refine s_pu (pu_assign rfl) ?_
  refine swl_sub _ (.cons (t := 0) rfl (.cons (t := 1) rfl (.cons (t := 5) rfl .nil))) ?_
  refine swl_nil ?_
  refine then_n ?_
  refine swp_seq ?_
  refine swp_region ?_
  refine s_pu (pu_move rfl) ?_
  refine s_pu (pu_move rfl) ?_
  refine s_ef (ef_fn hfs rfl rfl (by repeat (first | exact Split.nil | (apply Split.cons; (repeat (first | with_reducible exact Take.here | apply Take.there)))))) ?_
  rintro v12 L1 ⟨rfl, rfl⟩
  refine swl_app ?_
  refine s_pu (pu_move rfl) ?_
  first | refine s_pu (pu_extractL rfl) ?_ | refine s_pu (pu_extract rfl rfl) ?_
  first | refine s_pu (pu_extractL rfl) ?_ | refine s_pu (pu_extract rfl rfl) ?_
  refine s_ef (ef_alloc) ?_
  intro b7
  refine s_ef0 (ef_store rfl rfl rfl) ?_
  refine s_pu (pu_assign rfl) ?_
  refine swl_sub _ (.cons (t := 0) rfl (.cons (t := 5) rfl (.cons (t := 7) rfl (.cons (t := 8) rfl .nil)))) ?_
  refine swl_nil ?_
  refine then_n ?_
  refine swp_seq ?_
  refine swp_seq ?_
  refine swp_region ?_
  refine s_pu (pu_move rfl) ?_
  refine s_pu (pu_neq rfl rfl) ?_
  refine swl_sub _ (.cons (t := 0) rfl (.cons (t := 5) rfl (.cons (t := 7) rfl (.cons (t := 8) rfl (.cons (t := 16) rfl .nil))))) ?_
  refine swl_nil ?_
  refine then_n ?_
  refine swp_cond (b := _) rfl (fun h16 => ?_) (fun h16 => ?_)
  · skip   -- 16 T
    refine swp_seq ?_
    refine swp_region ?_
    refine s_pu (pu_move rfl) ?_
    refine s_pu (pu_assign rfl) ?_
    refine swl_sub _ (.cons (t := 6) rfl .nil) ?_
    refine swl_nil ?_
    refine then_n ?_
    refine swp_ret ?_
    refine then_r ?_
    have h16' : e ≠ 0 := by simpa using h16
    unfold appendD
    rw [find_err hve h16']
    exact done_retE [FSA p d] (.tmp rfl .nil) ⟨rfl, rfl⟩ ((Split.ent' (K := [fsH p d x, mpe x.sb skv x.es x.cs, mpe x.fb skv x.ef x.cf, own 84 3 x.pv x.ps.length (x.ps.flatMap encP), recsA x.rs]) (by repeat (first | exact Split.nil | (apply Split.cons; (repeat (first | with_reducible exact Take.here | apply Take.there)))))).trans (fs_close hx))
  · skip   -- 16 F
    have h16' : e = 0 := by simpa using h16
    subst h16'
    obtain ⟨k, hk1, hk2, hk3⟩ := find_ok hve
    obtain ⟨r, hr, hf, ha⟩ := hx.find hk1
    rw [ha] at hk2
    rw [hk2]
    have hlen := (Dk.fl_ok hd k).1
    simp only [mostF] at hlen
    rw [← hf] at hlen
    refine swp_skip ?_
    refine then_n ?_
    refine swp_cut (fun env L => Sub env [(0, pv p), (5, pv b5), (7, pv b7)] ∧ Ent L [blk b7 74 [pv r.a], blk b5 9 [.string t], fsH p d x, mpe x.sb skv x.es x.cs, mpe x.fb skv x.ef x.cf, own 84 3 x.pv x.ps.length (x.ps.flatMap encP), recsA x.rs] ∧ ¬ (0 < t.data.toList.length ∧ d.quota < (d.used : Int) + t.data.toList.length)) ?_ ?_
    · skip
      refine swp_seq ?_
      refine swp_draw [0, 5, 11] ([fsH p d x, blk b5 9 [.string t]]) ([blk b7 74 [pv r.a], mpe x.sb skv x.es x.cs, mpe x.fb skv x.ef x.cf, own 84 3 x.pv x.ps.length (x.ps.flatMap encP), recsA x.rs]) (Split.ent (by repeat (first | exact Split.nil | (apply Split.cons; (repeat (first | with_reducible exact Take.here | apply Take.there)))))) (by kernel_rfl) ?_
      refine d_rd 0 rfl (rd_load rfl rfl) rfl (by kernel_rfl) (by kernel_rfl) (by kernel_rfl) ?_
      refine d_pu 1 rfl (pu_str_neq rfl rfl) (by kernel_rfl) (by kernel_rfl) (by kernel_rfl) ?_
      refine d_pu 2 rfl (pu_move rfl) (by kernel_rfl) (by kernel_rfl) (by kernel_rfl) ?_
      refine d_split 20 rfl (fun h20 => ?_) (fun h20 => ?_)
      · skip   -- 20 T
        refine d_pu_on 3 rfl rfl rfl (pu_move rfl) (by kernel_rfl) (by kernel_rfl) (by kernel_rfl) ?_
        refine d_rd_on 5 rfl rfl rfl (rd_load rfl rfl) rfl (by kernel_rfl) (by kernel_rfl) (by kernel_rfl) ?_
        refine d_pu_on 6 rfl rfl rfl (pu_strlen rfl) (by kernel_rfl) (by kernel_rfl) (by kernel_rfl) ?_
        refine d_pu_on 8 rfl rfl rfl (pu_move rfl) (by kernel_rfl) (by kernel_rfl) (by kernel_rfl) ?_
        first | refine d_pu_on 9 rfl rfl rfl (pu_nilCheck rfl) (by kernel_rfl) (by kernel_rfl) (by kernel_rfl) ?_ | refine d_pu_on 9 rfl rfl rfl (pu_nilCheck_fn rfl) (by kernel_rfl) (by kernel_rfl) (by kernel_rfl) ?_ | refine d_pu_on 9 rfl rfl rfl (pu_nilCheck_if rfl) (by kernel_rfl) (by kernel_rfl) (by kernel_rfl) ?_
        first | refine d_pu_on 10 rfl rfl rfl (pu_fieldAddr0 rfl) (by kernel_rfl) (by kernel_rfl) (by kernel_rfl) ?_ | refine d_pu_on 10 rfl rfl rfl (pu_fieldAddr rfl) (by kernel_rfl) (by kernel_rfl) (by kernel_rfl) ?_
        refine d_rd_on 11 rfl rfl rfl (rd_load rfl rfl) rfl (by kernel_rfl) (by kernel_rfl) (by kernel_rfl) ?_
        refine d_amb [4] (by kernel_rfl) rfl ?_
        refine dA_ef 4 rfl (GOn.some rfl rfl) (ef_fn (used_spec p d hd x hx) rfl rfl (by repeat (first | exact Split.nil | (apply Split.cons; (repeat (first | with_reducible exact Take.here | apply Take.there)))))) ?_
        rintro v22 L1 ⟨rfl, rfl⟩
        refine ⟨_, ent_appC (Split.ent (by repeat (first | exact Split.nil | (apply Split.cons; (repeat (first | with_reducible exact Take.here | apply Take.there)))))), ?_⟩
        refine d_pu_on 7 rfl rfl rfl (pu_add_as ((d.used + t.size : Nat) : Int) rfl rfl (by omega) (by omega) (by omega)) (by kernel_rfl) (by kernel_rfl) (by kernel_rfl) ?_
        refine d_pu_on 12 rfl rfl rfl (pu_gtr rfl rfl) (by kernel_rfl) (by kernel_rfl) (by kernel_rfl) ?_
        first | refine d_pu 13 rfl (pu_pick_t rfl rfl) (by kernel_rfl) (by kernel_rfl) (by kernel_rfl) ?_ | refine d_pu 13 rfl (pu_pick_f rfl rfl) (by kernel_rfl) (by kernel_rfl) (by kernel_rfl) ?_
        refine d_sub _ (.cons (t := 0) rfl (.cons (t := 5) rfl (.cons (t := 7) rfl (.cons (t := 31) rfl .nil)))) ?_
        first | refine d_nilt (by kernel_rfl) ?_ | refine d_nilf (by kernel_rfl) ?_
        refine then_n ?_
        refine swp_cond (b := _) rfl (fun h31 => ?_) (fun h31 => ?_)
        · skip   -- 31 T
          refine swp_seq ?_
          refine swp_region ?_
          refine s_pu (pu_assign rfl) ?_
          refine swl_sub _ (.cons (t := 6) rfl .nil) ?_
          refine swl_nil ?_
          refine then_n ?_
          refine swp_ret ?_
          refine then_r ?_
          have h31' := of_decide_eq_true h31
          have key : appendD d s t.data.toList = (d, 7) := by
            unfold appendD
            rw [hk3, if_pos]
            rw [bsize]
            rw [hn] at h20
            have h20' : t.size ≠ 0 := by simpa using h20
            exact ⟨by omega, by omega⟩
          rw [key]
          exact done_retE [FSA p d] (.tmp rfl .nil) ⟨rfl, rfl⟩ ((Split.ent' (K := [fsH p d x, mpe x.sb skv x.es x.cs, mpe x.fb skv x.ef x.cf, own 84 3 x.pv x.ps.length (x.ps.flatMap encP), recsA x.rs]) (by repeat (first | exact Split.nil | (apply Split.cons; (repeat (first | with_reducible exact Take.here | apply Take.there)))))).trans (fs_close hx))
        · skip   -- 31 F
          refine swp_skip ?_
          refine then_n ⟨⟨rfl, rfl, rfl, trivial⟩, Split.ent' (by repeat (first | exact Split.nil | (apply Split.cons; (repeat (first | with_reducible exact Take.here | apply Take.there))))), ?_⟩
          rw [bsize]
          first
            | (have h31' := of_decide_eq_false h31; rintro ⟨_, h2⟩; omega)
            | (rw [hn] at h20
               have h20' : t.size = 0 := by simpa using h20
               rintro ⟨h1, _⟩; omega)
      · skip   -- 20 F
        refine d_off 3 rfl rfl rfl rfl (by kernel_rfl) (by kernel_rfl) (by kernel_rfl) ?_
        refine d_off 4 rfl rfl rfl rfl (by kernel_rfl) (by kernel_rfl) (by kernel_rfl) ?_
        refine d_off 5 rfl rfl rfl rfl (by kernel_rfl) (by kernel_rfl) (by kernel_rfl) ?_
        refine d_off 6 rfl rfl rfl rfl (by kernel_rfl) (by kernel_rfl) (by kernel_rfl) ?_
        refine d_off 7 rfl rfl rfl rfl (by kernel_rfl) (by kernel_rfl) (by kernel_rfl) ?_
        refine d_off 8 rfl rfl rfl rfl (by kernel_rfl) (by kernel_rfl) (by kernel_rfl) ?_
        refine d_off 9 rfl rfl rfl rfl (by kernel_rfl) (by kernel_rfl) (by kernel_rfl) ?_
        refine d_off 10 rfl rfl rfl rfl (by kernel_rfl) (by kernel_rfl) (by kernel_rfl) ?_
        refine d_off 11 rfl rfl rfl rfl (by kernel_rfl) (by kernel_rfl) (by kernel_rfl) ?_
        refine d_off 12 rfl rfl rfl rfl (by kernel_rfl) (by kernel_rfl) (by kernel_rfl) ?_
        first | refine d_pu 13 rfl (pu_pick_t rfl rfl) (by kernel_rfl) (by kernel_rfl) (by kernel_rfl) ?_ | refine d_pu 13 rfl (pu_pick_f rfl rfl) (by kernel_rfl) (by kernel_rfl) (by kernel_rfl) ?_
        refine d_sub _ (.cons (t := 0) rfl (.cons (t := 5) rfl (.cons (t := 7) rfl (.cons (t := 31) rfl .nil)))) ?_
        first | refine d_nilt (by kernel_rfl) ?_ | refine d_nilf (by kernel_rfl) ?_
        refine then_n ?_
        refine swp_cond (b := _) rfl (fun h31 => by cases h31) (fun h31 => ?_)
        refine swp_skip ?_
        refine then_n ⟨⟨rfl, rfl, rfl, trivial⟩, Split.ent' (by repeat (first | exact Split.nil | (apply Split.cons; (repeat (first | with_reducible exact Take.here | apply Take.there))))), ?_⟩
        rw [bsize]
        first
          | (have h31' := of_decide_eq_false h31; rintro ⟨_, h2⟩; omega)
          | (rw [hn] at h20
             have h20' : t.size = 0 := by simpa using h20
             rintro ⟨h1, _⟩; omega)
    rintro env L ⟨hsub, hE, h1⟩
    refine swp_sub _ hsub ?_
    refine swp_ent hE ?_
    clear hsub hE env L
    have h1' := h1
    rw [bsize] at h1'
    refine swp_seq ?_
    refine swp_ent (Split.ent' (K := [recsA x.rs, blk b7 74 [pv r.a], blk b5 9 [.string t], fsH p d x, mpe x.sb skv x.es x.cs, mpe x.fb skv x.ef x.cf, own 84 3 x.pv x.ps.length (x.ps.flatMap encP)]) (by repeat (first | exact Split.nil | (apply Split.cons; (repeat (first | with_reducible exact Take.here | apply Take.there)))))) ?_
    refine swp_ent (recs_open' hr (real_of hd hf)) ?_
    refine swp_region ?_
    refine s_pu (pu_move rfl) ?_
    refine s_pu (pu_func (vs := []) (us := [_, _]) rfl rfl) ?_
    refine s_ef (ef_fn (step_spec' (f := 43) (ca := [pv b7, pv b5]) (pre := [blk b7 74 [pv r.a], blk b5 9 [.string t], blk r.a 82 [.int .i64 (k : Nat), r.v, .int .i64 (r.f.safe : Nat)], own 5 1 r.v r.f.bytes.length (bcs r.f.bytes)]) p d.quota x.rs.length x.sb x.fb x.pv d.falls d.off hd.falls (append1_spec b7 b5 r.a k r.f.safe r.f.bytes.length r.v (bcs r.f.bytes) t (by omega))) rfl rfl (by repeat (first | exact Split.nil | (apply Split.cons; (repeat (first | with_reducible exact Take.here | apply Take.there)))))) ?_
    rintro v34 L1 hs
    skip
    refine s_pu (pu_assign rfl) ?_
    refine swl_sub _ (.cons (t := 6) rfl .nil) ?_
    refine swl_nil ?_
    refine then_n ?_
    refine swp_ret ?_
    rcases hs with ⟨hf1, rfl, rfl⟩ | ⟨hfn, rfl, L', ⟨v', rfl⟩, rfl⟩
    · have key : appendD d s t.data.toList = (fa0 d, 8) := by unfold appendD; rw [hk3, if_neg h1]; exact atStep_1 hf1 _
      rw [key]
      refine done_retE [FSA p (fa0 d)] (.tmp rfl .nil) ⟨rfl, rfl⟩ ?_
      simp only [List.cons_append, List.nil_append]
      refine Ent.trans (Split.ent' (K := [own 5 1 r.v r.f.bytes.length (bcs r.f.bytes), blk r.a 82 [.int .i64 (k : Nat), r.v, .int .i64 (r.f.safe : Nat)], holeA x.rs k, fsH p (fa0 d) x, mpe x.sb skv x.es x.cs, mpe x.fb skv x.ef x.cf, own 84 3 x.pv x.ps.length (x.ps.flatMap encP)]) (by repeat (first | exact Split.nil | (apply Split.cons; (repeat (first | with_reducible exact Take.here | apply Take.there)))))) ?_
      refine (recs_back' hr (real_of hd hf)).trans ?_
      exact ((Split.ent' (K := [fsH p (fa0 d) x, mpe x.sb skv x.es x.cs, mpe x.fb skv x.ef x.cf, own 84 3 x.pv x.ps.length (x.ps.flatMap encP), recsA x.rs]) (by repeat (first | exact Split.nil | (apply Split.cons; (repeat (first | with_reducible exact Take.here | apply Take.there)))))).trans (fs_close (d := fa0 d) (hx.fa _ _)))
    · have key : appendD d s t.data.toList = ((fa1 d).setF k ⟨r.f.bytes ++ t.data.toList, r.f.safe⟩, 0) := by
        unfold appendD; rw [hk3, if_neg h1, atStep_n hfn]
        show ((fa1 d).setF k ⟨(d.fl k).bytes ++ _, (d.fl k).safe⟩, _) = _
        rw [← hf]
      rw [key]
      refine done_retE [FSA p ((fa1 d).setF k ⟨r.f.bytes ++ t.data.toList, r.f.safe⟩)] (.tmp rfl .nil) ⟨rfl, rfl⟩ ?_
      simp only [List.cons_append, List.nil_append]
      have hl2 : r.f.bytes.length + t.size = (r.f.bytes ++ t.data.toList).length := by rw [List.length_append, bsize]
      rw [hl2, ← bcs_append]
      refine Ent.trans (Split.ent' (K := [own 5 1 v' (r.f.bytes ++ t.data.toList).length (bcs (r.f.bytes ++ t.data.toList)), blk r.a 82 [.int .i64 (k : Nat), v', .int .i64 (r.f.safe : Nat)], holeA x.rs k, fsH p (fa1 d) x, mpe x.sb skv x.es x.cs, mpe x.fb skv x.ef x.cf, own 84 3 x.pv x.ps.length (x.ps.flatMap encP)]) (by repeat (first | exact Split.nil | (apply Split.cons; (repeat (first | with_reducible exact Take.here | apply Take.there)))))) ?_
      exact fs_set (hx.fa _ _) hr (r' := ⟨r.a, v', ⟨r.f.bytes ++ t.data.toList, r.f.safe⟩⟩) rfl (by have := real_of hd hf; show r.f.safe ≤ (r.f.bytes ++ t.data.toList).length; rw [List.length_append]; omega)
set_option maxHeartbeats 4000000 in
theorem cut_spec (p : Nat) (d : Dk) (hd : d.Ok) (s : ByteArray) (n : Int) : Spec Try.prog 32 [pv p, .string s, .int .i64 n] [FSA p d] (fun r L => r = .int .i64 (cutD d s n).2 ∧ L = [FSA p (cutD d s n).1]) := by
  refine FSA.open' fun x hx => ?_
  obtain ⟨o, e, hve⟩ := find_ptr x.rs d s
  have hfs := find_spec' (p := p) hx hve
  refine Spec.of 32 Try.func32 rfl rfl rfl ?_
  refine swp_seq ?_
  refine swp_region ?_
  refine s_ef (ef_box rfl rfl) ?_
  intro b5
  refine s_pu (pu_assign rfl) ?_
  refine swl_sub _ (.cons (t := 0) rfl (.cons (t := 1) rfl (.cons (t := 5) rfl .nil))) ?_
  refine swl_nil ?_
  refine then_n ?_
  refine swp_seq ?_
  refine swp_region ?_
  refine s_pu (pu_move rfl) ?_
  refine s_pu (pu_move rfl) ?_
  refine s_ef (ef_fn hfs rfl rfl (by repeat (first | exact Split.nil | (apply Split.cons; (repeat (first | with_reducible exact Take.here | apply Take.there)))))) ?_
  rintro v12 L1 ⟨rfl, rfl⟩
  refine swl_app ?_
  refine s_pu (pu_move rfl) ?_
  first | refine s_pu (pu_extractL rfl) ?_ | refine s_pu (pu_extract rfl rfl) ?_
  first | refine s_pu (pu_extractL rfl) ?_ | refine s_pu (pu_extract rfl rfl) ?_
  refine s_ef (ef_alloc) ?_
  intro b7
  refine s_ef0 (ef_store rfl rfl rfl) ?_
  refine s_pu (pu_assign rfl) ?_
  refine swl_sub _ (.cons (t := 0) rfl (.cons (t := 5) rfl (.cons (t := 7) rfl (.cons (t := 8) rfl .nil)))) ?_
  refine swl_nil ?_
  refine then_n ?_
  refine swp_seq ?_
  refine swp_seq ?_
  refine swp_region ?_
  refine s_pu (pu_move rfl) ?_
  refine s_pu (pu_neq rfl rfl) ?_
  refine swl_sub _ (.cons (t := 0) rfl (.cons (t := 5) rfl (.cons (t := 7) rfl (.cons (t := 8) rfl (.cons (t := 16) rfl .nil))))) ?_
  refine swl_nil ?_
  refine then_n ?_
  refine swp_cond (b := _) rfl (fun h16 => ?_) (fun h16 => ?_)
  · skip   -- 16 T
    refine swp_seq ?_
    refine swp_region ?_
    refine s_pu (pu_move rfl) ?_
    refine s_pu (pu_assign rfl) ?_
    refine swl_sub _ (.cons (t := 6) rfl .nil) ?_
    refine swl_nil ?_
    refine then_n ?_
    refine swp_ret ?_
    refine then_r ?_
    have h16' : e ≠ 0 := by simpa using h16
    unfold cutD
    rw [find_err hve h16']
    exact done_retE [FSA p d] (.tmp rfl .nil) ⟨rfl, rfl⟩ ((Split.ent' (K := [fsH p d x, mpe x.sb skv x.es x.cs, mpe x.fb skv x.ef x.cf, own 84 3 x.pv x.ps.length (x.ps.flatMap encP), recsA x.rs]) (by repeat (first | exact Split.nil | (apply Split.cons; (repeat (first | with_reducible exact Take.here | apply Take.there)))))).trans (fs_close hx))
  · skip   -- 16 F
    have h16' : e = 0 := by simpa using h16
    subst h16'
    obtain ⟨k, hk1, hk2, hk3⟩ := find_ok hve
    obtain ⟨r, hr, hf, ha⟩ := hx.find hk1
    rw [ha] at hk2
    rw [hk2]
    have hlen := (Dk.fl_ok hd k).1
    simp only [mostF] at hlen
    rw [← hf] at hlen
    refine swp_ent (Split.ent' (K := [recsA x.rs, blk b7 74 [pv r.a], blk b5 3 [.int .i64 n], fsH p d x, mpe x.sb skv x.es x.cs, mpe x.fb skv x.ef x.cf, own 84 3 x.pv x.ps.length (x.ps.flatMap encP)]) (by repeat (first | exact Split.nil | (apply Split.cons; (repeat (first | with_reducible exact Take.here | apply Take.there)))))) ?_
    refine swp_ent (recs_open' hr (real_of hd hf)) ?_
    refine swp_fact (fun m h => own_cap h) fun ⟨A, c, hv, hlc, hA⟩ => ?_
    refine swp_skip ?_
    refine then_n ?_
    refine swp_cut (fun env L => Sub env [(0, pv p), (5, pv b5), (7, pv b7)] ∧ Ent L [own 5 1 r.v r.f.bytes.length (bcs r.f.bytes), blk r.a 82 [.int .i64 (k : Nat), r.v, .int .i64 (r.f.safe : Nat)], holeA x.rs k, blk b7 74 [pv r.a], blk b5 3 [.int .i64 n], fsH p d x, mpe x.sb skv x.es x.cs, mpe x.fb skv x.ef x.cf, own 84 3 x.pv x.ps.length (x.ps.flatMap encP)] ∧ 0 ≤ n ∧ n ≤ r.f.bytes.length) ?_ ?_
    · skip
      refine swp_seq ?_
      refine swp_draw [0, 3, 4, 7] _ [] (by simp only [List.append_nil]; exact Ent.refl _) (by kernel_rfl) ?_
      refine d_rd 0 rfl (rd_load rfl rfl) rfl (by kernel_rfl) (by kernel_rfl) (by kernel_rfl) ?_
      refine d_pu 1 rfl (pu_lss rfl rfl) (by kernel_rfl) (by kernel_rfl) (by kernel_rfl) ?_
      refine d_pu 2 rfl (pu_move rfl) (by kernel_rfl) (by kernel_rfl) (by kernel_rfl) ?_
      refine d_split 20 rfl (fun h20 => ?_) (fun h20 => ?_)
      · skip   -- 20 T
        refine d_off 3 rfl rfl rfl rfl (by kernel_rfl) (by kernel_rfl) (by kernel_rfl) ?_
        refine d_off 4 rfl rfl rfl rfl (by kernel_rfl) (by kernel_rfl) (by kernel_rfl) ?_
        refine d_off 5 rfl rfl rfl rfl (by kernel_rfl) (by kernel_rfl) (by kernel_rfl) ?_
        refine d_off 6 rfl rfl rfl rfl (by kernel_rfl) (by kernel_rfl) (by kernel_rfl) ?_
        refine d_off 7 rfl rfl rfl rfl (by kernel_rfl) (by kernel_rfl) (by kernel_rfl) ?_
        refine d_off 8 rfl rfl rfl rfl (by kernel_rfl) (by kernel_rfl) (by kernel_rfl) ?_
        refine d_off 9 rfl rfl rfl rfl (by kernel_rfl) (by kernel_rfl) (by kernel_rfl) ?_
        first | refine d_pu 10 rfl (pu_pick_t rfl rfl) (by kernel_rfl) (by kernel_rfl) (by kernel_rfl) ?_ | refine d_pu 10 rfl (pu_pick_f rfl rfl) (by kernel_rfl) (by kernel_rfl) (by kernel_rfl) ?_
        refine d_sub _ (.cons (t := 0) rfl (.cons (t := 5) rfl (.cons (t := 7) rfl (.cons (t := 28) rfl .nil)))) ?_
        first | refine d_nilt (by kernel_rfl) ?_ | refine d_nilf (by kernel_rfl) ?_
        refine then_n ?_
        refine swp_cond (b := _) rfl (fun h28 => ?_) (fun h28 => by cases h28)
        refine swp_seq ?_
        refine swp_region ?_
        refine s_pu (pu_assign rfl) ?_
        refine swl_sub _ (.cons (t := 6) rfl .nil) ?_
        refine swl_nil ?_
        refine then_n ?_
        refine swp_ret ?_
        refine then_r ?_
        have h20' := of_decide_eq_true h20
        have key : cutD d s n = (d, 1) := by unfold cutD; rw [hk3, if_pos (.inl h20')]
        rw [key]
        refine done_retE [FSA p d] (.tmp rfl .nil) ⟨rfl, rfl⟩ ?_
        refine Ent.trans (Split.ent' (K := [own 5 1 r.v r.f.bytes.length (bcs r.f.bytes), blk r.a 82 [.int .i64 (k : Nat), r.v, .int .i64 (r.f.safe : Nat)], holeA x.rs k, fsH p d x, mpe x.sb skv x.es x.cs, mpe x.fb skv x.ef x.cf, own 84 3 x.pv x.ps.length (x.ps.flatMap encP)]) (by repeat (first | exact Split.nil | (apply Split.cons; (repeat (first | with_reducible exact Take.here | apply Take.there)))))) ?_
        exact (recs_back' hr (real_of hd hf)).trans ((Split.ent' (K := [fsH p d x, mpe x.sb skv x.es x.cs, mpe x.fb skv x.ef x.cf, own 84 3 x.pv x.ps.length (x.ps.flatMap encP), recsA x.rs]) (by repeat (first | exact Split.nil | (apply Split.cons; (repeat (first | with_reducible exact Take.here | apply Take.there)))))).trans (fs_close hx))
      · skip   -- 20 F
        refine d_rd_on 3 rfl rfl rfl (rd_load rfl rfl) rfl (by kernel_rfl) (by kernel_rfl) (by kernel_rfl) ?_
        refine d_rd_on 4 rfl rfl rfl (rd_load rfl rfl) rfl (by kernel_rfl) (by kernel_rfl) (by kernel_rfl) ?_
        first | refine d_pu_on 5 rfl rfl rfl (pu_nilCheck rfl) (by kernel_rfl) (by kernel_rfl) (by kernel_rfl) ?_ | refine d_pu_on 5 rfl rfl rfl (pu_nilCheck_fn rfl) (by kernel_rfl) (by kernel_rfl) (by kernel_rfl) ?_ | refine d_pu_on 5 rfl rfl rfl (pu_nilCheck_if rfl) (by kernel_rfl) (by kernel_rfl) (by kernel_rfl) ?_
        first | refine d_pu_on 6 rfl rfl rfl (pu_fieldAddr0 rfl) (by kernel_rfl) (by kernel_rfl) (by kernel_rfl) ?_ | refine d_pu_on 6 rfl rfl rfl (pu_fieldAddr rfl) (by kernel_rfl) (by kernel_rfl) (by kernel_rfl) ?_
        refine d_rd_on 7 rfl rfl rfl (rd_load rfl rfl) rfl (by kernel_rfl) (by kernel_rfl) (by kernel_rfl) ?_
        refine d_pu_on 8 rfl rfl rfl (pu_len_own ⟨A, c, hv⟩ rfl) (by kernel_rfl) (by kernel_rfl) (by kernel_rfl) ?_
        refine d_pu_on 9 rfl rfl rfl (pu_gtr rfl rfl) (by kernel_rfl) (by kernel_rfl) (by kernel_rfl) ?_
        first | refine d_pu 10 rfl (pu_pick_t rfl rfl) (by kernel_rfl) (by kernel_rfl) (by kernel_rfl) ?_ | refine d_pu 10 rfl (pu_pick_f rfl rfl) (by kernel_rfl) (by kernel_rfl) (by kernel_rfl) ?_
        refine d_sub _ (.cons (t := 0) rfl (.cons (t := 5) rfl (.cons (t := 7) rfl (.cons (t := 28) rfl .nil)))) ?_
        first | refine d_nilt (by kernel_rfl) ?_ | refine d_nilf (by kernel_rfl) ?_
        refine then_n ?_
        refine swp_cond (b := _) rfl (fun h28 => ?_) (fun h28 => ?_)
        · skip   -- 28 T
          refine swp_seq ?_
          refine swp_region ?_
          refine s_pu (pu_assign rfl) ?_
          refine swl_sub _ (.cons (t := 6) rfl .nil) ?_
          refine swl_nil ?_
          refine then_n ?_
          refine swp_ret ?_
          refine then_r ?_
          have h28' := of_decide_eq_true h28
          have key : cutD d s n = (d, 1) := by unfold cutD; rw [hk3, if_pos (.inr (by rw [← hf]; exact h28'))]
          rw [key]
          refine done_retE [FSA p d] (.tmp rfl .nil) ⟨rfl, rfl⟩ ?_
          refine Ent.trans (Split.ent' (K := [own 5 1 r.v r.f.bytes.length (bcs r.f.bytes), blk r.a 82 [.int .i64 (k : Nat), r.v, .int .i64 (r.f.safe : Nat)], holeA x.rs k, fsH p d x, mpe x.sb skv x.es x.cs, mpe x.fb skv x.ef x.cf, own 84 3 x.pv x.ps.length (x.ps.flatMap encP)]) (by repeat (first | exact Split.nil | (apply Split.cons; (repeat (first | with_reducible exact Take.here | apply Take.there)))))) ?_
          exact (recs_back' hr (real_of hd hf)).trans ((Split.ent' (K := [fsH p d x, mpe x.sb skv x.es x.cs, mpe x.fb skv x.ef x.cf, own 84 3 x.pv x.ps.length (x.ps.flatMap encP), recsA x.rs]) (by repeat (first | exact Split.nil | (apply Split.cons; (repeat (first | with_reducible exact Take.here | apply Take.there)))))).trans (fs_close hx))
        · skip   -- 28 F
          refine swp_skip ?_
          exact then_n ⟨⟨rfl, rfl, rfl, trivial⟩, Split.ent' (by repeat (first | exact Split.nil | (apply Split.cons; (repeat (first | with_reducible exact Take.here | apply Take.there))))), by have := of_decide_eq_false h20; omega, by have := of_decide_eq_false h28; omega⟩
    rintro env L ⟨hsub, hE, h1, h2⟩
    refine swp_sub _ hsub ?_
    refine swp_ent hE ?_
    clear hsub hE env L
    obtain ⟨m, rfl⟩ : ∃ m : Nat, n = (m : Int) := ⟨n.toNat, by omega⟩
    have h2' : m ≤ r.f.bytes.length := by omega
    have hv2 : r.v = .slice A r.f.bytes.length c := hv
    refine swp_seq ?_
    refine swp_region ?_
    refine s_pu (pu_move rfl) ?_
    refine s_pu (pu_func (vs := []) (us := [_, _]) rfl rfl) ?_
    refine s_ef (ef_fn (step_spec' (f := 62) (ca := [pv b7, pv b5]) (pre := [blk b7 74 [pv r.a], blk b5 3 [.int .i64 (m : Nat)], blk r.a 82 [.int .i64 (k : Nat), r.v, .int .i64 (r.f.safe : Nat)], own 5 1 r.v r.f.bytes.length (bcs r.f.bytes)]) p d.quota x.rs.length x.sb x.fb x.pv d.falls d.off hd.falls (by rw [hv2]; exact cut1_spec b7 b5 r.a k r.f.safe m r.f.bytes.length c A r.f.bytes rfl h2' hlc (by omega) hA)) rfl rfl (by repeat (first | exact Split.nil | (apply Split.cons; (repeat (first | with_reducible exact Take.here | apply Take.there)))))) ?_
    rintro v31 L1 hs
    skip
    refine s_pu (pu_assign rfl) ?_
    refine swl_sub _ (.cons (t := 6) rfl .nil) ?_
    refine swl_nil ?_
    refine then_n ?_
    refine swp_ret ?_
    rcases hs with ⟨hf1, rfl, rfl⟩ | ⟨hfn, rfl, L', ⟨v', rfl⟩, rfl⟩
    · have key : cutD d s (m : Int) = (fa0 d, 8) := by unfold cutD; rw [hk3, if_neg (by rw [← hf]; omega)]; exact atStep_1 hf1 _
      rw [key]
      refine done_retE [FSA p (fa0 d)] (.tmp rfl .nil) ⟨rfl, rfl⟩ ?_
      simp only [List.cons_append, List.nil_append]
      refine Ent.trans (Split.ent' (K := [own 5 1 r.v r.f.bytes.length (bcs r.f.bytes), blk r.a 82 [.int .i64 (k : Nat), r.v, .int .i64 (r.f.safe : Nat)], holeA x.rs k, fsH p (fa0 d) x, mpe x.sb skv x.es x.cs, mpe x.fb skv x.ef x.cf, own 84 3 x.pv x.ps.length (x.ps.flatMap encP)]) (by repeat (first | exact Split.nil | (apply Split.cons; (repeat (first | with_reducible exact Take.here | apply Take.there)))))) ?_
      refine (recs_back' hr (real_of hd hf)).trans ?_
      exact ((Split.ent' (K := [fsH p (fa0 d) x, mpe x.sb skv x.es x.cs, mpe x.fb skv x.ef x.cf, own 84 3 x.pv x.ps.length (x.ps.flatMap encP), recsA x.rs]) (by repeat (first | exact Split.nil | (apply Split.cons; (repeat (first | with_reducible exact Take.here | apply Take.there)))))).trans (fs_close (d := fa0 d) (hx.fa _ _)))
    · have key : cutD d s (m : Int) = ((fa1 d).setF k ⟨r.f.bytes.take m, min r.f.safe m⟩, 0) := by
        unfold cutD; rw [hk3, if_neg (by rw [← hf]; omega), atStep_n hfn]
        show ((fa1 d).setF k ⟨(d.fl k).bytes.take (m : Int).toNat, min (d.fl k).safe (m : Int).toNat⟩, _) = _
        rw [← hf, Int.toNat_natCast]
      rw [key]
      refine done_retE [FSA p ((fa1 d).setF k ⟨r.f.bytes.take m, min r.f.safe m⟩)] (.tmp rfl .nil) ⟨rfl, rfl⟩ ?_
      simp only [List.cons_append, List.nil_append]
      have hl2 : m = (r.f.bytes.take m).length := by rw [List.length_take, Nat.min_eq_left h2']
      refine Ent.trans (Split.ent' (K := [own 5 1 v' m (bcs (r.f.bytes.take m)), blk r.a 82 [.int .i64 (k : Nat), v', .int .i64 (min r.f.safe m : Nat)], holeA x.rs k, fsH p (fa1 d) x, mpe x.sb skv x.es x.cs, mpe x.fb skv x.ef x.cf, own 84 3 x.pv x.ps.length (x.ps.flatMap encP)]) (by repeat (first | exact Split.nil | (apply Split.cons; (repeat (first | with_reducible exact Take.here | apply Take.there)))))) ?_
      have := fs_set (p := p) (L := []) (hx.fa (fa1 d).falls d.off) hr (r' := ⟨r.a, v', ⟨r.f.bytes.take m, min r.f.safe m⟩⟩) rfl (by have := real_of hd hf; show min r.f.safe m ≤ (r.f.bytes.take m).length; rw [List.length_take]; omega)
      simp only [← hl2] at this
      exact this
end SX
namespace SX
open Go Go.Proofs
instance : MClone Try.prog 67 := ⟨_, Try.func67, by kernel_rfl, by kernel_rfl, by kernel_rfl, by kernel_rfl⟩
/-- maps.Clone -/
theorem mclone_spec (b : Nat) (es : Ents ByteArray) (cl : Nat) : Spec Try.prog 41 [.map (some b)] [mpe b skv es cl] (fun r L => ∃ b', r = .map (some b') ∧ L = [mpe b' skv es cl, mpe b skv es cl]) := by
  refine Spec.of 9 Try.func41 rfl rfl rfl ?_
  refine swp_seq ?_
  refine swp_region ?_
  refine s_pu (pu_assign rfl) ?_
  refine swl_sub _ (.cons (t := 0) rfl .nil) ?_
  refine swl_nil ?_
  refine then_n ?_
  refine swp_seq ?_
  refine swp_seq ?_
  refine swp_region ?_
  refine s_pu (pu_move rfl) ?_
  refine s_pu (pu_map_eq_nil rfl rfl) ?_
  refine swl_sub _ (.cons (t := 0) rfl (.cons (t := 4) rfl .nil)) ?_
  refine swl_nil ?_
  refine then_n ?_
  refine swp_cond (b := _) rfl (fun h4 => by cases h4) (fun h4 => ?_)
  refine swp_skip ?_
  refine then_n ?_
  refine swp_seq ?_
  refine swp_region ?_
  refine s_pu (pu_move rfl) ?_
  refine s_pu (pu_iface rfl) ?_
  refine s_ef (ef_mclone (κ := ByteArray) rfl rfl) ?_
  rintro b7
  skip
  refine s_pu (pu_typeAssert_map rfl) ?_
  refine s_pu (pu_assign rfl) ?_
  refine swl_sub _ (.cons (t := 2) rfl .nil) ?_
  refine swl_nil ?_
  refine then_n ?_
  refine swp_ret ?_
  exact done_ret [mpe b7 skv es cl, mpe b skv es cl] (.tmp rfl .nil) ⟨b7, rfl, rfl⟩ (by repeat (first | exact Split.nil | (apply Split.cons; (repeat (first | with_reducible exact Take.here | apply Take.there)))))
/-- SyncNames' step -/
theorem syncn1_spec (p d0 : Nat) (q : Int) (n sb fb : Nat) (w : Value) (fa : Int) (off : Bool) (es : Ents ByteArray) (cl : Nat) :
    Spec Try.prog 40 [pv d0] [blk p 73 (fsC q n sb fb w fa off), blk d0 24 [pv p], mpe sb skv es cl]
      (fun _ L => ∃ fb', L = [blk p 73 (fsC q n sb fb' (.slice none 0 0) fa off), mpe sb skv es cl, mpe fb' skv es cl]) := by
  refine Spec.of 12 Try.func40 rfl rfl rfl ?_
  refine swp_seq ?_
  refine swp_draw [0, 1, 4] ([blk p 73 (fsC q n sb fb w fa off), blk d0 24 [pv p]]) ([mpe sb skv es cl]) (Split.ent (by repeat (first | exact Split.nil | (apply Split.cons; (repeat (first | with_reducible exact Take.here | apply Take.there)))))) (by kernel_rfl) ?_
  refine d_rd 0 rfl (rd_load rfl rfl) rfl (by kernel_rfl) (by kernel_rfl) (by kernel_rfl) ?_
  refine d_rd 1 rfl (rd_load rfl rfl) rfl (by kernel_rfl) (by kernel_rfl) (by kernel_rfl) ?_
  first | refine d_pu 2 rfl (pu_nilCheck rfl) (by kernel_rfl) (by kernel_rfl) (by kernel_rfl) ?_ | refine d_pu 2 rfl (pu_nilCheck_fn rfl) (by kernel_rfl) (by kernel_rfl) (by kernel_rfl) ?_ | refine d_pu 2 rfl (pu_nilCheck_if rfl) (by kernel_rfl) (by kernel_rfl) (by kernel_rfl) ?_
  first | refine d_pu 3 rfl (pu_fieldAddr0 rfl) (by kernel_rfl) (by kernel_rfl) (by kernel_rfl) ?_ | refine d_pu 3 rfl (pu_fieldAddr rfl) (by kernel_rfl) (by kernel_rfl) (by kernel_rfl) ?_
  refine d_rd 4 rfl (rd_load rfl rfl) rfl (by kernel_rfl) (by kernel_rfl) (by kernel_rfl) ?_
  refine d_eft 5 rfl (by kernel_rfl) (ef_fn (mclone_spec sb es cl) rfl rfl (by repeat (first | exact Split.nil | (apply Split.cons; (repeat (first | with_reducible exact Take.here | apply Take.there)))))) ?_
  rintro v6 L1 ⟨b', rfl, rfl⟩
  refine ⟨_, ent_appC (Split.ent (by repeat (first | exact Split.nil | (apply Split.cons; (repeat (first | with_reducible exact Take.here | apply Take.there)))))), ?_⟩
  first | refine d_pu 6 rfl (pu_nilCheck rfl) (by kernel_rfl) (by kernel_rfl) (by kernel_rfl) ?_ | refine d_pu 6 rfl (pu_nilCheck_fn rfl) (by kernel_rfl) (by kernel_rfl) (by kernel_rfl) ?_ | refine d_pu 6 rfl (pu_nilCheck_if rfl) (by kernel_rfl) (by kernel_rfl) (by kernel_rfl) ?_
  first | refine d_pu 7 rfl (pu_fieldAddr0 rfl) (by kernel_rfl) (by kernel_rfl) (by kernel_rfl) ?_ | refine d_pu 7 rfl (pu_fieldAddr rfl) (by kernel_rfl) (by kernel_rfl) (by kernel_rfl) ?_
  first | refine d_fin0t 8 rfl (by kernel_rfl) (by kernel_rfl) (ef_store rfl rfl rfl) ?_ | refine d_fin0f 8 rfl (by kernel_rfl) (by kernel_rfl) (ef_store rfl rfl rfl) ?_
  refine d_sub _ (.cons (t := 0) rfl .nil) ?_
  first | refine d_nilt (by kernel_rfl) ?_ | refine d_nilf (by kernel_rfl) ?_
  refine then_n ?_
  refine swp_region ?_
  refine s_rd (rd_load rfl rfl) ?_
  first | refine s_pu (pu_nilCheck rfl) ?_ | refine s_pu (pu_nilCheck_fn rfl) ?_ | refine s_pu (pu_nilCheck_if rfl) ?_
  first | refine s_pu (pu_fieldAddr0 rfl) ?_ | refine s_pu (pu_fieldAddr rfl) ?_
  refine s_ef0 (ef_store rfl rfl rfl) ?_
  refine swl_sub _ .nil ?_
  refine swl_nil ?_
  exact done_end [blk p 73 (fsC q n sb b' (.slice none 0 0) fa off), mpe sb skv es cl, mpe b' skv es cl] .nil ⟨b', rfl⟩ (by repeat (first | exact Split.nil | (apply Split.cons; (repeat (first | with_reducible exact Take.here | apply Take.there)))))
theorem Rep.sync {d : Dk} {x : FX} (h : Rep d x) (fb' : Nat) : Rep { d with safe := d.seen, pend := [] } { x with fb := fb', ef := x.es, cf := x.cs, ps := [], pv := .slice none 0 0 } :=
  ⟨h.seen, h.seen, h.bs, h.bs, h.len, fun k hk => h.fl k (by
    rcases hk with hk | hk | ⟨c, hc, _⟩
    · exact .inl hk
    · exact .inl hk
    · cases hc), rfl, fun i p c hp => by cases hp⟩
set_option maxHeartbeats 4000000 in
theorem syncn_spec (p : Nat) (d : Dk) (hd : d.Ok) : Spec Try.prog 14 [pv p] [FSA p d] (fun r L => r = .int .i64 (syncNamesD d).2 ∧ L = [FSA p (syncNamesD d).1]) := by
  refine FSA.open' fun x hx => ?_
  obtain ⟨o, e, hve⟩ := find_ptr x.rs d nos
  have hfs := find_spec' (p := p) hx hve
  have hcs := find_cases hve
  have hno : findN d.seen nos = none := findN_none.2 fun x hx e => by have := hd.names x hx; rw [e, strEq_refl] at this; cases this
  refine Spec.of 16 Try.func14 rfl rfl rfl ?_
  refine swp_seq ?_
  refine swp_region ?_
  refine s_ef (ef_box rfl rfl) ?_
  intro b1
  refine s_pu (pu_assign rfl) ?_
  refine swl_sub _ (.cons (t := 1) rfl .nil) ?_
  refine swl_nil ?_
  refine then_n ?_
  refine swp_seq ?_
  refine swp_seq ?_
  refine swp_region ?_
  refine s_rd (rd_load rfl rfl) ?_
  refine s_ef (ef_fn hfs rfl rfl (by repeat (first | exact Split.nil | (apply Split.cons; (repeat (first | with_reducible exact Take.here | apply Take.there)))))) ?_
  rintro v7 L1 ⟨rfl, rfl⟩
  refine swl_app ?_
  refine s_pu (pu_move rfl) ?_
  first | refine s_pu (pu_extractL rfl) ?_ | refine s_pu (pu_extract rfl rfl) ?_
  first | refine s_pu (pu_extractL rfl) ?_ | refine s_pu (pu_extract rfl rfl) ?_
  refine s_pu (pu_assign rfl) ?_
  refine s_pu (pu_assign rfl) ?_
  refine swl_sub _ (.cons (t := 1) rfl (.cons (t := 4) rfl .nil)) ?_
  refine swl_nil ?_
  refine then_n ?_
  refine swp_seq ?_
  refine swp_region ?_
  refine s_pu (pu_move rfl) ?_
  refine s_pu (pu_neq rfl rfl) ?_
  refine swl_sub _ (.cons (t := 1) rfl (.cons (t := 4) rfl (.cons (t := 11) rfl .nil))) ?_
  refine swl_nil ?_
  refine then_n ?_
  refine swp_cond (b := _) rfl (fun h11 => ?_) (fun h11 => ?_)
  · skip   -- 11 T
    refine swp_seq ?_
    refine swp_region ?_
    refine s_pu (pu_move rfl) ?_
    refine s_pu (pu_assign rfl) ?_
    refine swl_sub _ (.cons (t := 2) rfl .nil) ?_
    refine swl_nil ?_
    refine then_n ?_
    refine swp_ret ?_
    refine then_r ?_
    have h11' : e ≠ 6 := by simpa using h11
    have h8 : e = 8 ∧ d.off = true := by
      rcases hcs with h | ⟨h, _⟩ | ⟨_, _, k, h, _⟩
      · exact h
      · exact absurd h h11'
      · rw [hno] at h; cases h
    have key : syncNamesD d = (d, 8) := by unfold syncNamesD; rw [if_pos h8.2]
    rw [key, h8.1]
    exact done_retE [FSA p d] (.tmp rfl .nil) ⟨rfl, rfl⟩ ((Split.ent' (K := [fsH p d x, mpe x.sb skv x.es x.cs, mpe x.fb skv x.ef x.cf, own 84 3 x.pv x.ps.length (x.ps.flatMap encP), recsA x.rs]) (by repeat (first | exact Split.nil | (apply Split.cons; (repeat (first | with_reducible exact Take.here | apply Take.there)))))).trans (fs_close hx))
  · skip   -- 11 F
    have h11' : e = 6 := by simpa using h11
    have hoff : d.off = false := by
      rcases hcs with ⟨h, _⟩ | ⟨_, h, _⟩ | ⟨h, _⟩
      · rw [h11'] at h; cases h
      · exact h
      · rw [h11'] at h; cases h
    refine swp_skip ?_
    refine then_n ?_
    refine swp_seq ?_
    refine swp_region ?_
    refine s_rd (rd_load rfl rfl) ?_
    refine s_pu (pu_func (vs := []) (us := [_]) rfl rfl) ?_
    refine s_ef (ef_fn (step_spec (f := 40) (ca := [pv b1]) (pre := [blk b1 24 [pv p], mpe x.sb skv x.es x.cs]) p d.quota x.rs.length x.sb x.fb x.pv d.falls d.off hd.falls (fun fa' => syncn1_spec p b1 d.quota x.rs.length x.sb x.fb x.pv fa' d.off x.es x.cs)) rfl rfl (by repeat (first | exact Split.nil | (apply Split.cons; (repeat (first | with_reducible exact Take.here | apply Take.there)))))) ?_
    rintro v15 L1 hs
    skip
    refine s_pu (pu_assign rfl) ?_
    refine swl_sub _ (.cons (t := 2) rfl .nil) ?_
    refine swl_nil ?_
    refine then_n ?_
    refine swp_ret ?_
    rcases hs with ⟨hf1, rfl, rfl⟩ | ⟨hfn, rfl, fb', rfl⟩
    · have key : syncNamesD d = (fa0 d, 8) := by unfold syncNamesD; rw [if_neg (by rw [hoff]; decide)]; exact atStep_1 hf1 _
      rw [key]
      refine done_retE [FSA p (fa0 d)] (.tmp rfl .nil) ⟨rfl, rfl⟩ ?_
      simp only [List.cons_append, List.nil_append]
      exact ((Split.ent' (K := [fsH p (fa0 d) x, mpe x.sb skv x.es x.cs, mpe x.fb skv x.ef x.cf, own 84 3 x.pv x.ps.length (x.ps.flatMap encP), recsA x.rs]) (by repeat (first | exact Split.nil | (apply Split.cons; (repeat (first | with_reducible exact Take.here | apply Take.there)))))).trans (fs_close (d := fa0 d) (hx.fa _ _)))
    · have key : syncNamesD d = (({ (fa1 d) with safe := d.seen, pend := [] } : Dk), 0) := by unfold syncNamesD; rw [if_neg (by rw [hoff]; decide)]; exact atStep_n hfn _
      rw [key]
      refine done_retE [FSA p ({ (fa1 d) with safe := d.seen, pend := [] } : Dk)] (.tmp rfl .nil) ⟨rfl, rfl⟩ ?_
      simp only [List.cons_append, List.nil_append]
      refine Ent.trans (own_nil_ent (e := 84) (n := 3)) ?_
      refine Ent.trans (Split.ent' (K := [blk p 73 (fsC d.quota x.rs.length x.sb fb' (.slice none 0 0) (if 0 < d.falls then d.falls - 1 else d.falls) d.off), mpe x.sb skv x.es x.cs, mpe fb' skv x.es x.cs, own 84 3 (.slice none 0 0) 0 [], recsA x.rs]) (by repeat (first | exact Split.nil | (apply Split.cons; (repeat (first | with_reducible exact Take.here | apply Take.there)))))) ?_
      exact fs_close (d := { (fa1 d) with safe := d.seen, pend := [] }) (x := { x with fb := fb', ef := x.es, cf := x.cs, ps := [], pv := .slice none 0 0 }) ((hx.fa (fa1 d).falls d.off).sync fb')
/-- Rename's step -/
theorem rename1_spec (p d0 s0 t0 f0 a : Nat) (q : Int) (n sb fb : Nat) (w : Value) (fa : Int) (off : Bool) (es : Ents ByteArray) (cl : Nat) (ps : List Pc) (hl : ps.length ≤ 1048576) (s t : ByteArray) :
    Spec Try.prog 63 [pv s0, pv t0, pv d0, pv f0] [blk p 73 (fsC q n sb fb w fa off), blk s0 9 [.string s], blk t0 9 [.string t], blk d0 24 [pv p], blk f0 74 [pv a], mpe sb skv es cl, own 84 3 w ps.length (ps.flatMap encP)]
      (fun _ L => (strEq s t = true ∧ L = [blk p 73 (fsC q n sb fb w fa off), mpe sb skv es cl, own 84 3 w ps.length (ps.flatMap encP)]) ∨ (strEq s t = false ∧ ∃ w' ps', ps' = ps ++ [((s, t, pv a) : Pc)] ∧ L = [blk p 73 (fsC q n sb fb w' fa off), mpe sb skv (doE es cl (s, t, pv a)) (doC es cl (s, t, pv a)), own 84 3 w' ps'.length (ps'.flatMap encP)])) := by
  refine Spec.of 13 Try.func63 rfl rfl rfl ?_
  refine swp_seq ?_
  refine swp_region ?_
  refine s_rd (rd_load rfl rfl) ?_
  refine s_rd (rd_load rfl rfl) ?_
  refine s_pu (pu_str_neq rfl rfl) ?_
  refine swl_sub _ (.cons (t := 0) rfl (.cons (t := 1) rfl (.cons (t := 2) rfl (.cons (t := 3) rfl (.cons (t := 6) rfl .nil))))) ?_
  refine swl_nil ?_
  refine then_n ?_
  refine swp_cond (b := _) rfl (fun h6 => ?_) (fun h6 => ?_)
  · skip   -- 6 T
    refine swp_region ?_
    refine s_rd (rd_load rfl rfl) ?_
    refine s_rd (rd_load rfl rfl) ?_
    refine s_rd (rd_load rfl rfl) ?_
    refine s_rd (rd_load rfl rfl) ?_
    refine s_pu (pu_bld (qs := [(0, _), (1, _), (2, _)]) rfl) ?_
    refine s_ef (ef_fn (change_spec p q n sb fb w fa off es cl ps hl s t (some ⟨a, 0, none⟩)) rfl rfl (by repeat (first | exact Split.nil | (apply Split.cons; (repeat (first | with_reducible exact Take.here | apply Take.there)))))) ?_
    rintro v12 L1 ⟨w', ps', hps', rfl⟩
    refine swl_app ?_
    refine swl_sub _ .nil ?_
    refine swl_nil ?_
    exact done_end [blk p 73 (fsC q n sb fb w' fa off), mpe sb skv (doE es cl (s, t, pv a)) (doC es cl (s, t, pv a)), own 84 3 w' ps'.length (ps'.flatMap encP)] .nil (.inr ⟨by simpa using h6, w', ps', hps', rfl⟩) (by repeat (first | exact Split.nil | (apply Split.cons; (repeat (first | with_reducible exact Take.here | apply Take.there)))))
  · skip   -- 6 F
    refine swp_skip ?_
    exact done_end [blk p 73 (fsC q n sb fb w fa off), mpe sb skv es cl, own 84 3 w ps.length (ps.flatMap encP)] .nil (.inl ⟨by simpa using h6, rfl⟩) (by repeat (first | exact Split.nil | (apply Split.cons; (repeat (first | with_reducible exact Take.here | apply Take.there)))))
/-- Remove's step -/
theorem remove1_spec (p d0 s0 : Nat) (q : Int) (n sb fb : Nat) (w : Value) (fa : Int) (off : Bool) (es : Ents ByteArray) (cl : Nat) (ps : List Pc) (hl : ps.length ≤ 1048576) (s : ByteArray) :
    Spec Try.prog 64 [pv d0, pv s0] [blk p 73 (fsC q n sb fb w fa off), blk s0 9 [.string s], blk d0 24 [pv p], mpe sb skv es cl, own 84 3 w ps.length (ps.flatMap encP)]
      (fun _ L => ∃ w' ps', ps' = ps ++ [((s, nos, .pointer none) : Pc)] ∧ L = [blk p 73 (fsC q n sb fb w' fa off), mpe sb skv (doE es cl (s, nos, .pointer none)) (doC es cl (s, nos, .pointer none)), own 84 3 w' ps'.length (ps'.flatMap encP)]) := by
  refine Spec.of 6 Try.func64 rfl rfl rfl ?_
  refine swp_region ?_
  refine s_rd (rd_load rfl rfl) ?_
  refine s_rd (rd_load rfl rfl) ?_
  refine s_pu (pu_bld (qs := [(0, _)]) rfl) ?_
  refine s_ef (ef_fn (change_spec p q n sb fb w fa off es cl ps hl s nos none) rfl rfl (by repeat (first | exact Split.nil | (apply Split.cons; (repeat (first | with_reducible exact Take.here | apply Take.there)))))) ?_
  rintro v5 L1 ⟨w', ps', hps', rfl⟩
  refine swl_app ?_
  refine swl_sub _ .nil ?_
  refine swl_nil ?_
  exact done_end [blk p 73 (fsC q n sb fb w' fa off), mpe sb skv (doE es cl (s, nos, .pointer none)) (doC es cl (s, nos, .pointer none)), own 84 3 w' ps'.length (ps'.flatMap encP)] .nil ⟨w', ps', hps', rfl⟩ (by repeat (first | exact Split.nil | (apply Split.cons; (repeat (first | with_reducible exact Take.here | apply Take.there)))))
end SX
namespace SX
open Go Go.Proofs
set_option maxHeartbeats 4000000 in
theorem remove_spec (p : Nat) (d : Dk) (hd : d.Ok) (hw : Few d) (s : ByteArray) : Spec Try.prog 34 [pv p, .string s] [FSA p d] (fun r L => r = .int .i64 (removeD d s).2 ∧ L = [FSA p (removeD d s).1]) := by
  refine FSA.open' fun x hx => ?_
  obtain ⟨o, e, hve⟩ := find_ptr x.rs d s
  have hfs := find_spec' (p := p) hx hve
  refine Spec.of 19 Try.func34 rfl rfl rfl ?_
  refine swp_seq ?_
  refine swp_region ?_
  refine s_ef (ef_box rfl rfl) ?_
  intro b2
  refine s_ef (ef_box rfl rfl) ?_
  intro b3
  refine s_pu (pu_assign rfl) ?_
  refine swl_sub _ (.cons (t := 2) rfl (.cons (t := 3) rfl .nil)) ?_
  refine swl_nil ?_
  refine then_n ?_
  refine swp_seq ?_
  refine swp_seq ?_
  refine swp_region ?_
  refine s_rd (rd_load rfl rfl) ?_
  refine s_rd (rd_load rfl rfl) ?_
  refine s_ef (ef_fn hfs rfl rfl (by repeat (first | exact Split.nil | (apply Split.cons; (repeat (first | with_reducible exact Take.here | apply Take.there)))))) ?_
  rintro v10 L1 ⟨rfl, rfl⟩
  refine swl_app ?_
  refine s_pu (pu_move rfl) ?_
  first | refine s_pu (pu_extractL rfl) ?_ | refine s_pu (pu_extract rfl rfl) ?_
  first | refine s_pu (pu_extractL rfl) ?_ | refine s_pu (pu_extract rfl rfl) ?_
  refine s_pu (pu_assign rfl) ?_
  refine s_pu (pu_assign rfl) ?_
  refine swl_sub _ (.cons (t := 2) rfl (.cons (t := 3) rfl (.cons (t := 6) rfl .nil))) ?_
  refine swl_nil ?_
  refine then_n ?_
  refine swp_seq ?_
  refine swp_region ?_
  refine s_pu (pu_move rfl) ?_
  refine s_pu (pu_neq rfl rfl) ?_
  refine swl_sub _ (.cons (t := 2) rfl (.cons (t := 3) rfl (.cons (t := 6) rfl (.cons (t := 14) rfl .nil)))) ?_
  refine swl_nil ?_
  refine then_n ?_
  refine swp_cond (b := _) rfl (fun h14 => ?_) (fun h14 => ?_)
  · skip   -- 14 T
    refine swp_seq ?_
    refine swp_region ?_
    refine s_pu (pu_move rfl) ?_
    refine s_pu (pu_assign rfl) ?_
    refine swl_sub _ (.cons (t := 4) rfl .nil) ?_
    refine swl_nil ?_
    refine then_n ?_
    refine swp_ret ?_
    refine then_r ?_
    have h14' : e ≠ 0 := by simpa using h14
    unfold removeD
    rw [find_err hve h14']
    exact done_retE [FSA p d] (.tmp rfl .nil) ⟨rfl, rfl⟩ ((Split.ent' (K := [fsH p d x, mpe x.sb skv x.es x.cs, mpe x.fb skv x.ef x.cf, own 84 3 x.pv x.ps.length (x.ps.flatMap encP), recsA x.rs]) (by repeat (first | exact Split.nil | (apply Split.cons; (repeat (first | with_reducible exact Take.here | apply Take.there)))))).trans (fs_close hx))
  · skip   -- 14 F
    have h14' : e = 0 := by simpa using h14
    subst h14'
    obtain ⟨k, hk1, hk2, hk3⟩ := find_ok hve
    refine swp_skip ?_
    refine then_n ?_
    refine swp_seq ?_
    refine swp_region ?_
    refine s_rd (rd_load rfl rfl) ?_
    refine s_pu (pu_func (vs := []) (us := [_, _]) rfl rfl) ?_
    refine s_ef (ef_fn (step_spec (f := 64) (ca := [pv b2, pv b3]) (pre := [blk b3 9 [.string s], blk b2 24 [pv p], mpe x.sb skv x.es x.cs, own 84 3 x.pv x.ps.length (x.ps.flatMap encP)]) p d.quota x.rs.length x.sb x.fb x.pv d.falls d.off hd.falls (fun fa' => remove1_spec p b2 b3 d.quota x.rs.length x.sb x.fb x.pv fa' d.off x.es x.cs x.ps (by rw [hx.ps.1]; have := hw.2; omega) s)) rfl rfl (by repeat (first | exact Split.nil | (apply Split.cons; (repeat (first | with_reducible exact Take.here | apply Take.there)))))) ?_
    rintro v18 L1 hs
    skip
    refine s_pu (pu_assign rfl) ?_
    refine swl_sub _ (.cons (t := 4) rfl .nil) ?_
    refine swl_nil ?_
    refine then_n ?_
    refine swp_ret ?_
    rcases hs with ⟨hf1, rfl, rfl⟩ | ⟨hfn, rfl, w', ps', hps, rfl⟩
    · have key : removeD d s = (fa0 d, 8) := by unfold removeD; rw [hk3]; exact atStep_1 hf1 _
      rw [key]
      refine done_retE [FSA p (fa0 d)] (.tmp rfl .nil) ⟨rfl, rfl⟩ ?_
      simp only [List.cons_append, List.nil_append]
      exact ((Split.ent' (K := [fsH p (fa0 d) x, mpe x.sb skv x.es x.cs, mpe x.fb skv x.ef x.cf, own 84 3 x.pv x.ps.length (x.ps.flatMap encP), recsA x.rs]) (by repeat (first | exact Split.nil | (apply Split.cons; (repeat (first | with_reducible exact Take.here | apply Take.there)))))).trans (fs_close (d := fa0 d) (hx.fa _ _)))
    · have key : removeD d s = ((fa1 d).chg ⟨s, nos, 0⟩, 0) := by unfold removeD; rw [hk3]; exact atStep_n hfn _
      have hr := (hx.fa (fa1 d).falls d.off).chg hd.names (p := (s, nos, .pointer none)) (c := ⟨s, nos, 0⟩) ⟨rfl, .inl rfl, by show _ = if strEq nos nos = true then _ else _; rw [if_pos (strEq_refl _)]⟩ (fun h => absurd h (by show ¬ strEq nos nos = false; rw [strEq_refl]; decide))
      rw [key]
      refine done_retE [FSA p ((fa1 d).chg ⟨s, nos, 0⟩)] (.tmp rfl .nil) ⟨rfl, rfl⟩ ?_
      simp only [List.cons_append, List.nil_append]
      rw [hps]
      refine Ent.trans (Split.ent' (K := [blk p 73 (fsC d.quota x.rs.length x.sb x.fb w' (if 0 < d.falls then d.falls - 1 else d.falls) d.off), mpe x.sb skv (doE x.es x.cs (s, nos, .pointer none)) (doC x.es x.cs (s, nos, .pointer none)), mpe x.fb skv x.ef x.cf, own 84 3 w' (x.ps ++ [(s, nos, Value.pointer none)]).length ((x.ps ++ [(s, nos, Value.pointer none)]).flatMap encP), recsA x.rs]) (by repeat (first | exact Split.nil | (apply Split.cons; (repeat (first | with_reducible exact Take.here | apply Take.there)))))) ?_
      exact fs_close (d := (fa1 d).chg ⟨s, nos, 0⟩) (x := { x with es := doE x.es x.cs (s, nos, .pointer none), cs := doC x.es x.cs (s, nos, .pointer none), ps := x.ps ++ [(s, nos, Value.pointer none)], pv := w' }) ⟨hr.seen, hr.safe, hr.bs, hr.bf, hr.len, hr.fl, hr.ps⟩
set_option maxHeartbeats 4000000 in
theorem rename_spec (p : Nat) (d : Dk) (hd : d.Ok) (hw : Few d) (s t : ByteArray) : Spec Try.prog 33 [pv p, .string s, .string t] [FSA p d] (fun r L => r = .int .i64 (renameD d s t).2 ∧ L = [FSA p (renameD d s t).1]) := by
  refine FSA.open' fun x hx => ?_
  obtain ⟨o, e, hve⟩ := find_ptr x.rs d s
  have hfs := find_spec' (p := p) hx hve
  refine Spec.of 24 Try.func33 rfl rfl rfl ?_
  refine swp_seq ?_
  refine swp_region ?_
  refine s_ef (ef_box rfl rfl) ?_
  intro b3
  refine s_ef (ef_box rfl rfl) ?_
  intro b4
  refine s_ef (ef_box rfl rfl) ?_
  intro b5
  refine s_pu (pu_assign rfl) ?_
  refine swl_sub _ (.cons (t := 3) rfl (.cons (t := 4) rfl (.cons (t := 5) rfl .nil))) ?_
  refine swl_nil ?_
  refine then_n ?_
  refine swp_seq ?_
  refine swp_region ?_
  refine s_rd (rd_load rfl rfl) ?_
  refine s_rd (rd_load rfl rfl) ?_
  refine s_ef (ef_fn hfs rfl rfl (by repeat (first | exact Split.nil | (apply Split.cons; (repeat (first | with_reducible exact Take.here | apply Take.there)))))) ?_
  rintro v12 L1 ⟨rfl, rfl⟩
  refine swl_app ?_
  refine s_pu (pu_move rfl) ?_
  first | refine s_pu (pu_extractL rfl) ?_ | refine s_pu (pu_extract rfl rfl) ?_
  first | refine s_pu (pu_extractL rfl) ?_ | refine s_pu (pu_extract rfl rfl) ?_
  refine s_ef (ef_alloc) ?_
  intro b7
  refine s_ef0 (ef_store rfl rfl rfl) ?_
  refine s_pu (pu_assign rfl) ?_
  refine swl_sub _ (.cons (t := 3) rfl (.cons (t := 4) rfl (.cons (t := 5) rfl (.cons (t := 7) rfl (.cons (t := 8) rfl .nil))))) ?_
  refine swl_nil ?_
  refine then_n ?_
  refine swp_seq ?_
  refine swp_seq ?_
  refine swp_region ?_
  refine s_pu (pu_move rfl) ?_
  refine s_pu (pu_neq rfl rfl) ?_
  refine swl_sub _ (.cons (t := 3) rfl (.cons (t := 4) rfl (.cons (t := 5) rfl (.cons (t := 7) rfl (.cons (t := 8) rfl (.cons (t := 16) rfl .nil)))))) ?_
  refine swl_nil ?_
  refine then_n ?_
  refine swp_cond (b := _) rfl (fun h16 => ?_) (fun h16 => ?_)
  · skip   -- 16 T
    refine swp_seq ?_
    refine swp_region ?_
    refine s_pu (pu_move rfl) ?_
    refine s_pu (pu_assign rfl) ?_
    refine swl_sub _ (.cons (t := 6) rfl .nil) ?_
    refine swl_nil ?_
    refine then_n ?_
    refine swp_ret ?_
    refine then_r ?_
    have h16' : e ≠ 0 := by simpa using h16
    unfold renameD
    rw [find_err hve h16']
    exact done_retE [FSA p d] (.tmp rfl .nil) ⟨rfl, rfl⟩ ((Split.ent' (K := [fsH p d x, mpe x.sb skv x.es x.cs, mpe x.fb skv x.ef x.cf, own 84 3 x.pv x.ps.length (x.ps.flatMap encP), recsA x.rs]) (by repeat (first | exact Split.nil | (apply Split.cons; (repeat (first | with_reducible exact Take.here | apply Take.there)))))).trans (fs_close hx))
  · skip   -- 16 F
    have h16' : e = 0 := by simpa using h16
    subst h16'
    obtain ⟨k, hk1, hk2, hk3⟩ := find_ok hve
    obtain ⟨r, hr, hf, ha⟩ := hx.find hk1
    rw [ha] at hk2
    rw [hk2]
    refine swp_skip ?_
    refine then_n ?_
    refine swp_seq ?_
    refine swp_seq ?_
    refine swp_region ?_
    refine s_rd (rd_load rfl rfl) ?_
    refine s_ef (ef_fn (named_spec t) rfl rfl (by repeat (first | exact Split.nil | (apply Split.cons; (repeat (first | with_reducible exact Take.here | apply Take.there)))))) ?_
    rintro v19 L1 ⟨rfl, rfl⟩
    refine swl_app ?_
    refine s_pu (pu_not rfl) ?_
    refine swl_sub _ (.cons (t := 3) rfl (.cons (t := 4) rfl (.cons (t := 5) rfl (.cons (t := 7) rfl (.cons (t := 20) rfl .nil))))) ?_
    refine swl_nil ?_
    refine then_n ?_
    refine swp_cond (b := _) rfl (fun h20 => ?_) (fun h20 => ?_)
    · skip   -- 20 T
      refine swp_seq ?_
      refine swp_region ?_
      refine s_pu (pu_assign rfl) ?_
      refine swl_sub _ (.cons (t := 6) rfl .nil) ?_
      refine swl_nil ?_
      refine then_n ?_
      refine swp_ret ?_
      refine then_r ?_
      have h20' : goodN t = false := by simpa using h20
      have key : renameD d s t = (d, 1) := by unfold renameD; rw [hk3, if_pos h20']
      rw [key]
      exact done_retE [FSA p d] (.tmp rfl .nil) ⟨rfl, rfl⟩ ((Split.ent' (K := [fsH p d x, mpe x.sb skv x.es x.cs, mpe x.fb skv x.ef x.cf, own 84 3 x.pv x.ps.length (x.ps.flatMap encP), recsA x.rs]) (by repeat (first | exact Split.nil | (apply Split.cons; (repeat (first | with_reducible exact Take.here | apply Take.there)))))).trans (fs_close hx))
    · skip   -- 20 F
      have h20' : goodN t = true := by simpa using h20
      refine swp_skip ?_
      refine then_n ?_
      refine swp_seq ?_
      refine swp_region ?_
      refine s_rd (rd_load rfl rfl) ?_
      refine s_pu (pu_func (vs := []) (us := [_, _, _, _]) rfl rfl) ?_
      refine s_ef (ef_fn (step_spec (f := 63) (ca := [pv b4, pv b5, pv b3, pv b7]) (pre := [blk b4 9 [.string s], blk b5 9 [.string t], blk b3 24 [pv p], blk b7 74 [pv r.a], mpe x.sb skv x.es x.cs, own 84 3 x.pv x.ps.length (x.ps.flatMap encP)]) p d.quota x.rs.length x.sb x.fb x.pv d.falls d.off hd.falls (fun fa' => rename1_spec p b3 b4 b5 b7 r.a d.quota x.rs.length x.sb x.fb x.pv fa' d.off x.es x.cs x.ps (by rw [hx.ps.1]; have := hw.2; omega) s t)) rfl rfl (by repeat (first | exact Split.nil | (apply Split.cons; (repeat (first | with_reducible exact Take.here | apply Take.there)))))) ?_
      rintro v23 L1 hs
      skip
      refine s_pu (pu_assign rfl) ?_
      refine swl_sub _ (.cons (t := 6) rfl .nil) ?_
      refine swl_nil ?_
      refine then_n ?_
      refine swp_ret ?_
      rcases hs with ⟨hf1, rfl, rfl⟩ | ⟨hfn, rfl, hs⟩
      · have key : renameD d s t = (fa0 d, 8) := by unfold renameD; rw [hk3, if_neg (by rw [h20']; decide)]; exact atStep_1 hf1 _
        rw [key]
        refine done_retE [FSA p (fa0 d)] (.tmp rfl .nil) ⟨rfl, rfl⟩ ?_
        simp only [List.cons_append, List.nil_append]
        exact ((Split.ent' (K := [fsH p (fa0 d) x, mpe x.sb skv x.es x.cs, mpe x.fb skv x.ef x.cf, own 84 3 x.pv x.ps.length (x.ps.flatMap encP), recsA x.rs]) (by repeat (first | exact Split.nil | (apply Split.cons; (repeat (first | with_reducible exact Take.here | apply Take.there)))))).trans (fs_close (d := fa0 d) (hx.fa _ _)))
      · have key : renameD d s t = ((if strEq s t = true then fa1 d else (fa1 d).chg ⟨s, t, k⟩), 0) := by unfold renameD; rw [hk3, if_neg (by rw [h20']; decide)]; exact atStep_n hfn _
        rw [key]
        rcases hs with ⟨hst, rfl⟩ | ⟨hst, w', ps', hps, rfl⟩
        · rw [if_pos hst]
          refine done_retE [FSA p (fa1 d)] (.tmp rfl .nil) ⟨rfl, rfl⟩ ?_
          simp only [List.cons_append, List.nil_append]
          exact (Split.ent' (K := [fsH p (fa1 d) x, mpe x.sb skv x.es x.cs, mpe x.fb skv x.ef x.cf, own 84 3 x.pv x.ps.length (x.ps.flatMap encP), recsA x.rs]) (by repeat (first | exact Split.nil | (apply Split.cons; (repeat (first | with_reducible exact Take.here | apply Take.there)))))).trans (fs_close (d := fa1 d) (hx.fa _ _))
        · rw [if_neg (by rw [hst]; decide)]
          have hr := (hx.fa (fa1 d).falls d.off).chg hd.names (p := (s, t, pv r.a)) (c := ⟨s, t, k⟩) ⟨rfl, .inl rfl, by show _ = if strEq t nos = true then _ else adr x.rs k; rw [if_neg (by rw [goodN_ne h20']; decide), ha]⟩ (fun _ => ⟨r, hr, hf⟩)
          refine done_retE [FSA p ((fa1 d).chg ⟨s, t, k⟩)] (.tmp rfl .nil) ⟨rfl, rfl⟩ ?_
          simp only [List.cons_append, List.nil_append]
          rw [hps]
          refine Ent.trans (Split.ent' (K := [blk p 73 (fsC d.quota x.rs.length x.sb x.fb w' (if 0 < d.falls then d.falls - 1 else d.falls) d.off), mpe x.sb skv (doE x.es x.cs (s, t, pv r.a)) (doC x.es x.cs (s, t, pv r.a)), mpe x.fb skv x.ef x.cf, own 84 3 w' (x.ps ++ [(s, t, pv r.a)]).length ((x.ps ++ [(s, t, pv r.a)]).flatMap encP), recsA x.rs]) (by repeat (first | exact Split.nil | (apply Split.cons; (repeat (first | with_reducible exact Take.here | apply Take.there)))))) ?_
          exact fs_close (d := (fa1 d).chg ⟨s, t, k⟩) (x := { x with es := doE x.es x.cs (s, t, pv r.a), cs := doC x.es x.cs (s, t, pv r.a), ps := x.ps ++ [(s, t, pv r.a)], pv := w' }) ⟨hr.seen, hr.safe, hr.bs, hr.bf, hr.len, hr.fl, hr.ps⟩
theorem read_err {rs : List Rc} {d : Dk} {s : ByteArray} {v : Value} {e : Int} (h : findV rs d s = (v, e)) (he : e ≠ 0) : readD d s = ([], e) := by
  unfold readD
  rcases find_cases h with ⟨rfl, h1⟩ | ⟨rfl, h1, h2⟩ | ⟨h0, _⟩
  · rw [if_pos h1]
  · rw [if_neg (by rw [h1]; decide), h2]
  · exact absurd h0 he
set_option maxHeartbeats 4000000 in
theorem read_spec (p : Nat) (d : Dk) (hd : d.Ok) (s : ByteArray) : Spec Try.prog 18 [pv p, .string s] [FSA p d] (fun r L => r = .tuple #[.string ⟨(readD d s).1.toArray⟩, .int .i64 (readD d s).2] ∧ L = [FSA p d]) := by
  refine FSA.open' fun x hx => ?_
  obtain ⟨o, e, hve⟩ := find_ptr x.rs d s
  have hfs := find_spec' (p := p) hx hve
  refine Spec.of 22 Try.func18 rfl rfl rfl ?_
  refine swp_seq ?_
  refine swp_region ?_
  refine s_pu (pu_assign rfl) ?_
  refine s_pu (pu_assign rfl) ?_
  refine swl_sub _ (.cons (t := 0) rfl (.cons (t := 1) rfl .nil)) ?_
  refine swl_nil ?_
  refine then_n ?_
  refine swp_seq ?_
  refine swp_region ?_
  refine s_pu (pu_move rfl) ?_
  refine s_pu (pu_move rfl) ?_
  refine s_ef (ef_fn hfs rfl rfl (by repeat (first | exact Split.nil | (apply Split.cons; (repeat (first | with_reducible exact Take.here | apply Take.there)))))) ?_
  rintro v11 L1 ⟨rfl, rfl⟩
  refine swl_app ?_
  refine s_pu (pu_move rfl) ?_
  first | refine s_pu (pu_extractL rfl) ?_ | refine s_pu (pu_extract rfl rfl) ?_
  first | refine s_pu (pu_extractL rfl) ?_ | refine s_pu (pu_extract rfl rfl) ?_
  refine s_pu (pu_assign rfl) ?_
  refine s_pu (pu_assign rfl) ?_
  refine swl_sub _ (.cons (t := 6) rfl (.cons (t := 7) rfl .nil)) ?_
  refine swl_nil ?_
  refine then_n ?_
  refine swp_seq ?_
  refine swp_seq ?_
  refine swp_region ?_
  refine s_pu (pu_move rfl) ?_
  refine s_pu (pu_neq rfl rfl) ?_
  refine swl_sub _ (.cons (t := 6) rfl (.cons (t := 7) rfl (.cons (t := 15) rfl .nil))) ?_
  refine swl_nil ?_
  refine then_n ?_
  refine swp_cond (b := _) rfl (fun h15 => ?_) (fun h15 => ?_)
  · skip   -- 15 T
    refine swp_seq ?_
    refine swp_region ?_
    refine s_pu (pu_move rfl) ?_
    refine s_pu (pu_assign rfl) ?_
    refine s_pu (pu_assign rfl) ?_
    refine swl_sub _ (.cons (t := 4) rfl (.cons (t := 5) rfl .nil)) ?_
    refine swl_nil ?_
    refine then_n ?_
    refine swp_ret ?_
    refine then_r ?_
    have h15' : e ≠ 0 := by simpa using h15
    rw [read_err hve h15']
    exact done_retE [FSA p d] (.tmp rfl (.tmp rfl .nil)) ⟨rfl, rfl⟩ ((Split.ent' (K := [fsH p d x, mpe x.sb skv x.es x.cs, mpe x.fb skv x.ef x.cf, own 84 3 x.pv x.ps.length (x.ps.flatMap encP), recsA x.rs]) (by repeat (first | exact Split.nil | (apply Split.cons; (repeat (first | with_reducible exact Take.here | apply Take.there)))))).trans (fs_close hx))
  · skip   -- 15 F
    have h15' : e = 0 := by simpa using h15
    subst h15'
    have hk3 : ∃ k, findN d.seen s = some k ∧ .pointer o = adr x.rs k ∧ readD d s = ((d.fl k).bytes, 0) := by
      rcases find_cases hve with ⟨h0, _⟩ | ⟨h0, _⟩ | ⟨_, h1, k, h2, h3⟩
      · cases h0
      · cases h0
      · refine ⟨k, h2, h3, ?_⟩
        unfold readD
        rw [if_neg (by rw [h1]; decide), h2]
    obtain ⟨k, hk1, hk2, hk3⟩ := hk3
    obtain ⟨r, hr, hf, ha⟩ := hx.find hk1
    rw [ha] at hk2
    rw [hk2]
    refine swp_ent (Split.ent' (K := [recsA x.rs, fsH p d x, mpe x.sb skv x.es x.cs, mpe x.fb skv x.ef x.cf, own 84 3 x.pv x.ps.length (x.ps.flatMap encP)]) (by repeat (first | exact Split.nil | (apply Split.cons; (repeat (first | with_reducible exact Take.here | apply Take.there)))))) ?_
    refine swp_ent (recs_open' hr (real_of hd hf)) ?_
    refine swp_skip ?_
    refine then_n ?_
    refine swp_seq ?_
    refine swp_region ?_
    refine s_pu (pu_move rfl) ?_
    first | refine s_pu (pu_nilCheck rfl) ?_ | refine s_pu (pu_nilCheck_fn rfl) ?_ | refine s_pu (pu_nilCheck_if rfl) ?_
    first | refine s_pu (pu_fieldAddr0 rfl) ?_ | refine s_pu (pu_fieldAddr rfl) ?_
    refine s_rd (rd_load rfl rfl) ?_
    refine s_rd (rd_bytes_own r.f.bytes rfl (by repeat (first | with_reducible exact Take.here | apply Take.there))) ?_
    refine s_pu (pu_assign rfl) ?_
    refine s_pu (pu_assign rfl) ?_
    refine swl_sub _ (.cons (t := 4) rfl (.cons (t := 5) rfl .nil)) ?_
    refine swl_nil ?_
    refine then_n ?_
    refine swp_ret ?_
    rw [hk3, ← hf]
    refine done_retE [FSA p d] (.tmp rfl (.tmp rfl .nil)) ⟨rfl, rfl⟩ ?_
    refine Ent.trans (Split.ent' (K := [own 5 1 r.v r.f.bytes.length (bcs r.f.bytes), blk r.a 82 [.int .i64 (k : Nat), r.v, .int .i64 (r.f.safe : Nat)], holeA x.rs k, fsH p d x, mpe x.sb skv x.es x.cs, mpe x.fb skv x.ef x.cf, own 84 3 x.pv x.ps.length (x.ps.flatMap encP)]) (by repeat (first | exact Split.nil | (apply Split.cons; (repeat (first | with_reducible exact Take.here | apply Take.there)))))) ?_
    exact (recs_back' hr (real_of hd hf)).trans ((Split.ent' (K := [fsH p d x, mpe x.sb skv x.es x.cs, mpe x.fb skv x.ef x.cf, own 84 3 x.pv x.ps.length (x.ps.flatMap encP), recsA x.rs]) (by repeat (first | exact Split.nil | (apply Split.cons; (repeat (first | with_reducible exact Take.here | apply Take.there)))))).trans (fs_close hx))
theorem off_spec (p : Nat) (d : Dk) : Spec Try.prog 21 [pv p] [FSA p d] (fun r L => r = .bool d.off ∧ L = [FSA p d]) := by
  refine FSA.open' fun x hx => ?_
  refine Spec.of 11 Try.func21 rfl rfl rfl ?_
  refine swp_seq ?_
  refine swp_region ?_
  refine s_pu (pu_assign rfl) ?_
  refine swl_sub _ (.cons (t := 0) rfl .nil) ?_
  refine swl_nil ?_
  refine then_n ?_
  refine swp_seq ?_
  refine swp_region ?_
  refine s_pu (pu_move rfl) ?_
  refine s_pu (pu_ptr_ne_nil rfl rfl) ?_
  refine s_pu (pu_move rfl) ?_
  refine s_split 5 rfl (fun h5 => ?_) (fun h5 => by cases h5)
  refine s_on rfl rfl ?_
  refine s_pu (pu_move rfl) ?_
  refine s_on rfl rfl ?_
  first | refine s_pu (pu_nilCheck rfl) ?_ | refine s_pu (pu_nilCheck_fn rfl) ?_ | refine s_pu (pu_nilCheck_if rfl) ?_
  refine s_on rfl rfl ?_
  first | refine s_pu (pu_fieldAddr0 rfl) ?_ | refine s_pu (pu_fieldAddr rfl) ?_
  refine s_on rfl rfl ?_
  refine s_rd (rd_load rfl rfl) ?_
  first | refine s_pu (pu_pick_t rfl rfl) ?_ | refine s_pu (pu_pick_f rfl rfl) ?_
  refine s_pu (pu_assign rfl) ?_
  refine swl_sub _ (.cons (t := 2) rfl .nil) ?_
  refine swl_nil ?_
  refine then_n ?_
  refine swp_ret ?_
  exact done_retE [FSA p d] (.tmp rfl .nil) ⟨rfl, rfl⟩ ((Split.ent' (K := [fsH p d x, mpe x.sb skv x.es x.cs, mpe x.fb skv x.ef x.cf, own 84 3 x.pv x.ps.length (x.ps.flatMap encP), recsA x.rs]) (by repeat (first | exact Split.nil | (apply Split.cons; (repeat (first | with_reducible exact Take.here | apply Take.there)))))).trans (fs_close hx))
theorem fall_spec (p : Nat) (d : Dk) (n : Int) : Spec Try.prog 23 [pv p, .int .i64 n] [FSA p d] (fun _ L => L = [FSA p (fallD d n)]) := by
  refine FSA.open' fun x hx => ?_
  refine Spec.of 11 Try.func23 rfl rfl rfl ?_
  refine swp_seq ?_
  refine swp_region ?_
  refine s_pu (pu_move rfl) ?_
  refine s_pu (pu_ptr_ne_nil rfl rfl) ?_
  refine swl_sub _ (.cons (t := 0) rfl (.cons (t := 1) rfl (.cons (t := 5) rfl .nil))) ?_
  refine swl_nil ?_
  refine then_n ?_
  refine swp_cond (b := _) rfl (fun h5 => ?_) (fun h5 => by cases h5)
  refine swp_region ?_
  refine s_pu (pu_move rfl) ?_
  refine s_pu (pu_move rfl) ?_
  refine s_pu (pu_max2 rfl rfl) ?_
  first | refine s_pu (pu_nilCheck rfl) ?_ | refine s_pu (pu_nilCheck_fn rfl) ?_ | refine s_pu (pu_nilCheck_if rfl) ?_
  first | refine s_pu (pu_fieldAddr0 rfl) ?_ | refine s_pu (pu_fieldAddr rfl) ?_
  refine s_ef0 (ef_store rfl rfl rfl) ?_
  refine swl_sub _ .nil ?_
  refine swl_nil ?_
  exact done_endE [FSA p (fallD d n)] .nil rfl ((Split.ent' (K := [blk p 73 (fsC d.quota x.rs.length x.sb x.fb x.pv (max n 0) d.off), mpe x.sb skv x.es x.cs, mpe x.fb skv x.ef x.cf, own 84 3 x.pv x.ps.length (x.ps.flatMap encP), recsA x.rs]) (by repeat (first | exact Split.nil | (apply Split.cons; (repeat (first | with_reducible exact Take.here | apply Take.there)))))).trans (fs_close (d := fallD d n) (hx.fa (max n 0) d.off)))
theorem newD_rep (q : Int) (sb fb : Nat) : Rep (newD q) ⟨sb, fb, [], 0, [], 0, [], [], .slice none 0 0⟩ :=
  ⟨.nil _, .nil _, .nil _, .nil _, rfl, (fun k hk => by
    rcases hk with ⟨⟨y, hy, _⟩⟩ | ⟨⟨y, hy, _⟩⟩ | ⟨c, hc, _⟩
    · cases hy
    · cases hy
    · cases hc), rfl, fun i p c hp => by cases hp⟩
def newOk (q : Int) : Prop := 0 ≤ q ∧ q ≤ 16777216
theorem new_spec (q : Int) : Spec Try.prog 12 [.int .i64 q] [] (fun r L => (¬ newOk q ∧ r = .tuple #[.pointer none, .int .i64 1] ∧ L = []) ∨ (newOk q ∧ ∃ p, r = .tuple #[pv p, .int .i64 0] ∧ L = [FSA p (newD q)])) := by
  refine Spec.of 15 Try.func12 rfl rfl rfl ?_
  refine swp_seq ?_
  refine swp_region ?_
  refine s_pu (pu_assign rfl) ?_
  refine s_pu (pu_assign rfl) ?_
  refine swl_sub _ (.cons (t := 0) rfl .nil) ?_
  refine swl_nil ?_
  refine then_n ?_
  refine swp_seq ?_
  refine swp_seq ?_
  refine swp_region ?_
  refine s_pu (pu_move rfl) ?_
  refine s_pu (pu_lss rfl rfl) ?_
  refine s_pu (pu_move rfl) ?_
  refine s_split 6 rfl (fun h6 => ?_) (fun h6 => ?_)
  · skip   -- 6 T
    refine s_off rfl rfl rfl ?_
    refine s_off rfl rfl rfl ?_
    first | refine s_pu (pu_pick_t rfl rfl) ?_ | refine s_pu (pu_pick_f rfl rfl) ?_
    refine swl_sub _ (.cons (t := 0) rfl (.cons (t := 9) rfl .nil)) ?_
    refine swl_nil ?_
    refine then_n ?_
    refine swp_cond (b := _) rfl (fun h9 => ?_) (fun h9 => by cases h9)
    refine swp_seq ?_
    refine swp_region ?_
    refine s_pu (pu_assign rfl) ?_
    refine s_pu (pu_assign rfl) ?_
    refine swl_sub _ (.cons (t := 2) rfl (.cons (t := 3) rfl .nil)) ?_
    refine swl_nil ?_
    refine then_n ?_
    refine swp_ret ?_
    refine then_r ?_
    exact done_ret [] (.tmp rfl (.tmp rfl .nil)) (.inl ⟨fun h => by have := of_decide_eq_true h6; have := h.1; omega, rfl, rfl⟩) (by repeat (first | exact Split.nil | (apply Split.cons; (repeat (first | with_reducible exact Take.here | apply Take.there)))))
  · skip   -- 6 F
    refine s_on rfl rfl ?_
    refine s_pu (pu_move rfl) ?_
    refine s_on rfl rfl ?_
    refine s_pu (pu_gtr rfl rfl) ?_
    first | refine s_pu (pu_pick_t rfl rfl) ?_ | refine s_pu (pu_pick_f rfl rfl) ?_
    refine swl_sub _ (.cons (t := 0) rfl (.cons (t := 9) rfl .nil)) ?_
    refine swl_nil ?_
    refine then_n ?_
    refine swp_cond (b := _) rfl (fun h9 => ?_) (fun h9 => ?_)
    · skip   -- 9 T
      refine swp_seq ?_
      refine swp_region ?_
      refine s_pu (pu_assign rfl) ?_
      refine s_pu (pu_assign rfl) ?_
      refine swl_sub _ (.cons (t := 2) rfl (.cons (t := 3) rfl .nil)) ?_
      refine swl_nil ?_
      refine then_n ?_
      refine swp_ret ?_
      refine then_r ?_
      exact done_ret [] (.tmp rfl (.tmp rfl .nil)) (.inl ⟨fun h => by have := of_decide_eq_true h9; have := h.2; omega, rfl, rfl⟩) (by repeat (first | exact Split.nil | (apply Split.cons; (repeat (first | with_reducible exact Take.here | apply Take.there)))))
    · skip   -- 9 F
      refine swp_skip ?_
      refine then_n ?_
      refine swp_seq ?_
      refine swp_region ?_
      refine s_pu (pu_move rfl) ?_
      refine s_ef (ef_makeMap (kv := skv)) ?_
      intro b11
      refine s_ef (ef_makeMap (kv := skv)) ?_
      intro b12
      refine s_pu (pu_bld (qs := [(0, _), (2, _), (3, _)]) rfl) ?_
      refine s_ef (ef_box rfl rfl) ?_
      intro b14
      refine s_pu (pu_assign rfl) ?_
      refine s_pu (pu_assign rfl) ?_
      refine swl_sub _ (.cons (t := 2) rfl (.cons (t := 3) rfl .nil)) ?_
      refine swl_nil ?_
      refine then_n ?_
      refine swp_ret ?_
      refine done_retE [FSA b14 (newD q)] (.tmp rfl (.tmp rfl .nil)) (.inr ⟨⟨by have := of_decide_eq_false h6; omega, by have := of_decide_eq_false h9; omega⟩, b14, rfl, rfl⟩) ?_
      refine Ent.trans (own_nil_ent (e := 84) (n := 3)) ?_
      have e1 : Ent [] [recsA []] := star_close (K := []) (L := [])
      exact Ent.trans (Split.ent' (K := [blk b14 73 [.int .i64 q, .int .i64 0, .map (some b11), .map (some b12), .slice none 0 0, .int .i64 0, .bool false], mpe b11 skv [] 0, mpe b12 skv [] 0, own 84 3 (.slice none 0 0) 0 []]) (by repeat (first | exact Split.nil | (apply Split.cons; (repeat (first | with_reducible exact Take.here | apply Take.there)))))) ((Ent.under (X := [blk b14 73 [.int .i64 q, .int .i64 0, .map (some b11), .map (some b12), .slice none 0 0, .int .i64 0, .bool false], mpe b11 skv [] 0, mpe b12 skv [] 0, own 84 3 (.slice none 0 0) 0 []]) e1).trans (fs_close (newD_rep q b11 b12)))
end SX
namespace Go.Proofs
open Go.Shelf
def Try.lays190_ren : Go.Shelf.Ren := ⟨fun | 190 => 56 | 125 => 74 | 258 => 73 | 128 => 85 | 129 => 86 | 302 => 76 | 303 => 77 | 304 => 78 | 305 => 79 | 306 => 80 | 307 => 81 | 308 => 82 | 309 => 83 | 310 => 84 | 333 => 87 | 329 => 88 | 330 => 89 | 334 => 90 | 335 => 91 | 336 => 92 | 344 => 93 | n => n, fun | 31 => 22 | 9 => 9 | 3 => 3 | 46 => 109 | 0 => 0 | 51 => 121 | 53 => 123 | 4 => 4 | 183 => 113 | 182 => 112 | 131 => 118 | 5 => 5 | 218 => 124 | 222 => 128 | 228 => 130 | 229 => 131 | n => n, fun | n => n⟩
theorem Try.lays190 : Go.Proofs.Lays.n190 Try.prog Try.lays190_ren := {
  mixed := by kernel_rfl
  f125 := Try.func74.trans (congrArg some (by kernel_rfl))
  f128 := Try.func85.trans (congrArg some (by kernel_rfl))
  f129 := Try.func86.trans (congrArg some (by kernel_rfl))
  f190 := Try.func56.trans (congrArg some (by kernel_rfl))
  f258 := Try.func73.trans (congrArg some (by kernel_rfl))
  f302 := Try.func76.trans (congrArg some (by kernel_rfl))
  f303 := Try.func77.trans (congrArg some (by kernel_rfl))
  f304 := Try.func78.trans (congrArg some (by kernel_rfl))
  f305 := Try.func79.trans (congrArg some (by kernel_rfl))
  f306 := Try.func80.trans (congrArg some (by kernel_rfl))
  f307 := Try.func81.trans (congrArg some (by kernel_rfl))
  f308 := Try.func82.trans (congrArg some (by kernel_rfl))
  f309 := Try.func83.trans (congrArg some (by kernel_rfl))
  f310 := Try.func84.trans (congrArg some (by kernel_rfl))
  f329 := Try.func88.trans (congrArg some (by kernel_rfl))
  f330 := Try.func89.trans (congrArg some (by kernel_rfl))
  f333 := Try.func87.trans (congrArg some (by kernel_rfl))
  f334 := Try.func90.trans (congrArg some (by kernel_rfl))
  f335 := Try.func91.trans (congrArg some (by kernel_rfl))
  f336 := Try.func92.trans (congrArg some (by kernel_rfl))
  f344 := Try.func93.trans (congrArg some (by kernel_rfl))
  t0 := Try.underlying0
  a0 := Try.isAgg0
  z0 := Try.sizeOf0
  v0 := Try.zeroValue0
  t3 := Try.underlying3
  a3 := Try.isAgg3
  z3 := Try.sizeOf3
  v3 := Try.zeroValue3
  t4 := Try.underlying4
  a4 := Try.isAgg4
  z4 := Try.sizeOf4
  v4 := Try.zeroValue4
  t5 := Try.underlying5
  a5 := Try.isAgg5
  z5 := Try.sizeOf5
  v5 := Try.zeroValue5
  t9 := Try.underlying9
  a9 := Try.isAgg9
  z9 := Try.sizeOf9
  v9 := Try.zeroValue9
  t31 := Try.underlying22
  a31 := Try.isAgg22
  z31 := Try.sizeOf22
  v31 := Try.zeroValue22
  t46 := Try.underlying109
  a46 := Try.isAgg109
  z46 := Try.sizeOf109
  v46 := Try.zeroValue109
  t51 := Try.underlying121
  a51 := Try.isAgg121
  z51 := Try.sizeOf121
  v51 := Try.zeroValue121
  t53 := Try.underlying123
  a53 := Try.isAgg123
  z53 := Try.sizeOf123
  v53 := Try.zeroValue123
  t131 := Try.underlying118
  a131 := Try.isAgg118
  z131 := Try.sizeOf118
  v131 := Try.zeroValue118
  t182 := Try.underlying112
  a182 := Try.isAgg112
  z182 := Try.sizeOf112
  v182 := Try.zeroValue112
  t183 := Try.underlying113
  a183 := Try.isAgg113
  z183 := Try.sizeOf113
  v183 := Try.zeroValue113
  t218 := Try.underlying124
  a218 := Try.isAgg124
  z218 := Try.sizeOf124
  v218 := Try.zeroValue124
  t222 := Try.underlying128
  a222 := Try.isAgg128
  z222 := Try.sizeOf128
  v222 := Try.zeroValue128
  t228 := Try.underlying130
  a228 := Try.isAgg130
  z228 := Try.sizeOf130
  v228 := Try.zeroValue130
  t229 := Try.underlying131
  a229 := Try.isAgg131
  z229 := Try.sizeOf131
  v229 := Try.zeroValue131 }
open Go.Sort Go.RowKit in
theorem Try.slices_Sort_string (blk off cap : Nat) (ss : List (List UInt8)) (w : World) (hH : Holds encStr w blk off ss.toArray) (hblk : blk < w.heap.size) (hsz : ss.length < 4611686018427387904) :
    Calls Try.prog 56 #[.slice (some ⟨blk, off, none⟩) ss.length cap] w fun e w' =>
      e = .returned (.tuple #[]) ∧ ∃ n os, w' = grow (putRow encStr (Sort.ahead w n) blk off (ss.mergeSort fun x y => decide (x ≤ y)).toArray) os := Any.slices_Sort_string Try.lays190 blk off cap ss w hH hblk hsz
open Go.RowKit Go.Sort in
/-- .. and plain. (LAID: no walk: one application.) -/
theorem Try.slices_Sort_string_none (p : Option Addr) (cap : Nat) (w : World) :
    Calls Try.prog 56 #[.slice p 0 cap] w fun e w' => e = .returned (.tuple #[]) ∧ w' = w := Any.slices_Sort_string_none Try.lays190 p cap w
end Go.Proofs
namespace SX
open Go Go.Proofs
theorem sort_spec (v : Value) (xs : List ByteArray) (hl : xs.length ≤ 1099511627776) : Spec Try.prog 56 [v] [own 9 1 v xs.length (xs.flatMap scsv)] (fun r L => r = .tuple #[] ∧ L = [own 9 1 v xs.length ((srtS xs).flatMap scsv)]) :=
  sort_strs (fun blk off cap ss w => Try.slices_Sort_string blk off cap ss w) (fun p cap w => Try.slices_Sort_string_none p cap w) v xs hl
theorem srtS_self (xs : List ByteArray) : (srtS xs).Perm xs := by
  unfold srtS
  have := (List.mergeSort_perm (xs.map byL) fun x y => decide (x ≤ y)).map toB
  rw [List.map_map] at this
  have e : (xs.map (toB ∘ byL)) = xs := by
    conv => rhs; rw [← List.map_id xs]
    exact List.map_congr_left fun x _ => toB_byL x
  rwa [e] at this
theorem srtS_perm {xs ys : List ByteArray} (h : xs.Perm ys) : srtS xs = srtS ys :=
  List.Perm.eq_of_pairwise (le := fun a b => strLt b a = false) (fun a b _ _ h1 h2 => by
    rcases strLt_total a b with k | k | k
    · rw [k] at h2; cases h2
    · exact k
    · rw [k] at h1; cases h1) (srtS_pw xs) (srtS_pw ys) ((srtS_self xs).trans (h.trans (srtS_self ys).symm))
def namesD (d : Dk) : List ByteArray := if d.off = true then [] else srtS (d.seen.map (·.1))
set_option maxHeartbeats 4000000 in
theorem names_spec (p : Nat) (d : Dk) (hd : d.Ok) : Spec Try.prog 22 [pv p] [FSA p d] (fun r L => L = [own 9 1 r (namesD d).length ((namesD d).flatMap scsv), FSA p d]) := by
  refine FSA.open' fun x hx => ?_
  have hel := hx.seen.len hd.seenOk.nodup
  have hsl := hd.seenLe
  refine Spec.of 30 Try.func22 rfl rfl rfl ?_
  refine swp_seq ?_
  refine swp_region ?_
  refine s_pu (pu_assign rfl) ?_
  refine swl_sub _ (.cons (t := 0) rfl .nil) ?_
  refine swl_nil ?_
  refine then_n ?_
  refine swp_seq ?_
  refine swp_region ?_
  refine s_pu (pu_assign rfl) ?_
  refine swl_sub _ (.cons (t := 0) rfl (.cons (t := 3) rfl .nil)) ?_
  refine swl_nil ?_
  refine then_n ?_
  refine swp_seq ?_
  refine swp_seq ?_
  refine swp_region ?_
  refine s_pu (pu_move rfl) ?_
  refine s_pu (pu_ptr_eq_nil rfl rfl) ?_
  refine s_pu (pu_move rfl) ?_
  refine s_split 7 rfl (fun h7 => by cases h7) (fun h7 => ?_)
  refine s_on rfl rfl ?_
  refine s_pu (pu_move rfl) ?_
  refine s_on rfl rfl ?_
  first | refine s_pu (pu_nilCheck rfl) ?_ | refine s_pu (pu_nilCheck_fn rfl) ?_ | refine s_pu (pu_nilCheck_if rfl) ?_
  refine s_on rfl rfl ?_
  first | refine s_pu (pu_fieldAddr0 rfl) ?_ | refine s_pu (pu_fieldAddr rfl) ?_
  refine s_on rfl rfl ?_
  refine s_rd (rd_load rfl rfl) ?_
  first | refine s_pu (pu_pick_t rfl rfl) ?_ | refine s_pu (pu_pick_f rfl rfl) ?_
  refine swl_sub _ (.cons (t := 0) rfl (.cons (t := 3) rfl (.cons (t := 12) rfl .nil))) ?_
  refine swl_nil ?_
  refine then_n ?_
  refine swp_cond (b := _) rfl (fun h12 => ?_) (fun h12 => ?_)
  · skip   -- 12 T
    refine swp_seq ?_
    refine swp_region ?_
    refine s_pu (pu_move rfl) ?_
    refine s_pu (pu_assign rfl) ?_
    refine swl_sub _ (.cons (t := 2) rfl .nil) ?_
    refine swl_nil ?_
    refine then_n ?_
    refine swp_ret ?_
    refine then_r ?_
    have key : namesD d = [] := by unfold namesD; rw [if_pos h12]
    rw [key]
    refine done_retE [own 9 1 (.slice none 0 0) 0 [], FSA p d] (.tmp rfl .nil) rfl ?_
    exact (((Split.ent' (K := [fsH p d x, mpe x.sb skv x.es x.cs, mpe x.fb skv x.ef x.cf, own 84 3 x.pv x.ps.length (x.ps.flatMap encP), recsA x.rs]) (by repeat (first | exact Split.nil | (apply Split.cons; (repeat (first | with_reducible exact Take.here | apply Take.there)))))).trans (fs_close hx))).trans own_nil_ent
  · skip   -- 12 F
    refine swp_skip ?_
    refine then_n ?_
    refine swp_seq ?_
    refine swp_seq ?_
    refine swp_region ?_
    refine s_pu (pu_move rfl) ?_
    first | refine s_pu (pu_nilCheck rfl) ?_ | refine s_pu (pu_nilCheck_fn rfl) ?_ | refine s_pu (pu_nilCheck_if rfl) ?_
    first | refine s_pu (pu_fieldAddr0 rfl) ?_ | refine s_pu (pu_fieldAddr rfl) ?_
    refine s_rd (rd_load rfl rfl) ?_
    refine s_ef (ef_range (κ := ByteArray) rfl) ?_
    rintro it
    skip
    refine swl_sub _ (.cons (t := 3) rfl (.cons (t := 18) rfl .nil)) ?_
    refine swl_nil ?_
    refine then_n ?_
    refine swp_block ?_
    refine swp_ent (own_nil_ent (e := 9) (n := 1)) ?_
    refine swp_ent (Split.ent' (K := [own 9 1 (.slice none 0 0) 0 [], itA it x.sb x.cs [] x.cs, fsH p d x, mpe x.sb skv x.es x.cs, mpe x.fb skv x.ef x.cf, own 84 3 x.pv x.ps.length (x.ps.flatMap encP), recsA x.rs]) (by repeat (first | exact Split.nil | (apply Split.cons; (repeat (first | with_reducible exact Take.here | apply Take.there)))))) ?_
    refine swp_loop (ι := Ents ByteArray × Ents ByteArray) (fun k env L => ∃ v, Sub env [(3, v), (18, pv it)] ∧ Ent L [own 9 1 v (k.1.map (·.1)).length ((k.1.map (·.1)).flatMap scsv), itA it x.sb x.cs (k.1.map (·.2.2)) x.cs, fsH p d x, mpe x.sb skv x.es x.cs, mpe x.fb skv x.ef x.cf, own 84 3 x.pv x.ps.length (x.ps.flatMap encP), recsA x.rs] ∧ Going x.es k.1 k.2) (fun k => k.2.length) ([], x.es) ⟨.slice none 0 0, ⟨rfl, rfl, trivial⟩, Ent.refl _, Going.start _⟩ ?_
    rintro ⟨dn, td⟩ env L ⟨v, hsub, hE, hgo⟩
    dsimp only at hsub hE hgo
    refine swp_sub _ hsub ?_
    refine swp_ent hE ?_
    clear hsub hE env L
    have hdl : dn.length ≤ 64 := by have := hgo.length_eq; rw [List.length_append] at this; omega
    refine swp_seq ?_
    refine swp_region ?_
    refine s_ef (ef_next (κ := ByteArray) rfl (by repeat (first | exact Split.nil | (apply Split.cons; (repeat (first | with_reducible exact Take.here | apply Take.there))))) hx.bs.1 (Nat.le_refl _)) ?_
    refine ⟨fun hall => ?_, fun y hy hns => ?_⟩
    · skip
      first | refine s_pu (pu_extractL rfl) ?_ | refine s_pu (pu_extract rfl rfl) ?_
      refine swl_sub _ (.cons (t := 3) rfl (.cons (t := 18) rfl (.cons (t := 20) rfl .nil))) ?_
      refine swl_nil ?_
      refine then_n ?_
      refine swp_seq ?_
      refine swp_cond (b := _) rfl (fun h20 => by cases h20) (fun h20 => ?_)
      have htd := hgo.stop hx.bs hall
      rw [htd] at hgo
      have hsum : srtS (dn.map (·.1)) = namesD d := by
        unfold namesD
        rw [if_neg (by rw [h12]; decide)]
        refine srtS_perm ?_
        refine List.Perm.trans ?_ (names_perm hx.seen hd.seenOk.nodup)
        refine List.Perm.map _ ?_
        have := hgo; unfold Going at this; rwa [List.append_nil] at this
      refine swp_exit ?_
      refine then_x ?_
      refine then_x ?_
      refine block_hit rfl ?_
      refine then_n ?_
      refine swp_seq ?_
      refine swp_region ?_
      refine s_pu (pu_move rfl) ?_
      refine s_ef (ef_fn (sort_spec v (dn.map (·.1)) (by rw [List.length_map]; omega)) rfl rfl (by repeat (first | exact Split.nil | (apply Split.cons; (repeat (first | with_reducible exact Take.here | apply Take.there)))))) ?_
      rintro v28 L1 ⟨rfl, rfl⟩
      refine swl_app ?_
      refine swl_sub _ (.cons (t := 3) rfl .nil) ?_
      refine swl_nil ?_
      refine then_n ?_
      refine swp_seq ?_
      refine swp_region ?_
      refine s_pu (pu_move rfl) ?_
      refine s_pu (pu_assign rfl) ?_
      refine swl_sub _ (.cons (t := 2) rfl .nil) ?_
      refine swl_nil ?_
      refine then_n ?_
      refine swp_ret ?_
      rw [← hsum, srtS_len]
      refine done_retE [own 9 1 v (dn.map (·.1)).length ((srtS (dn.map (·.1))).flatMap scsv), FSA p d] (.tmp rfl .nil) rfl ?_
      refine Ent.trans (Split.ent' (K := [fsH p d x, mpe x.sb skv x.es x.cs, mpe x.fb skv x.ef x.cf, own 84 3 x.pv x.ps.length (x.ps.flatMap encP), recsA x.rs, own 9 1 v (dn.map (·.1)).length ((srtS (dn.map (·.1))).flatMap scsv)]) (by repeat (first | exact Split.nil | (apply Split.cons; (repeat (first | with_reducible exact Take.here | apply Take.there)))))) ?_
      exact (fs_close hx).trans Ent.swap
    · skip
      first | refine s_pu (pu_extractL rfl) ?_ | refine s_pu (pu_extract rfl rfl) ?_
      refine swl_sub _ (.cons (t := 3) rfl (.cons (t := 18) rfl (.cons (t := 20) rfl .nil))) ?_
      refine swl_nil ?_
      refine then_n ?_
      refine swp_seq ?_
      refine swp_cond (b := _) rfl (fun h20 => ?_) (fun h20 => by cases h20)
      obtain ⟨td', hgo', hlt⟩ := hgo.step hy hns
      refine swp_skip ?_
      refine then_n ?_
      refine swp_block ?_
      refine swp_seq ?_
      refine swp_region ?_
      refine s_rd (rd_entry (κ := ByteArray) rfl (by repeat (first | exact Split.nil | (apply Split.cons; (repeat (first | with_reducible exact Take.here | apply Take.there))))) hy hx.bs) ?_
      first | refine s_pu (pu_extractL rfl) ?_ | refine s_pu (pu_extract rfl rfl) ?_
      refine s_pu (pu_assign rfl) ?_
      refine swl_sub _ (.cons (t := 3) rfl (.cons (t := 4) rfl (.cons (t := 18) rfl .nil))) ?_
      refine swl_nil ?_
      refine then_n ?_
      refine swp_region ?_
      refine s_pu (pu_move rfl) ?_
      refine s_pu (pu_move rfl) ?_
      refine s_ef (ef_bldS (qs := [(0, _)]) rfl rfl rfl) ?_
      intro b25
      refine s_ef (ef_append_lit (l := (dn.map (·.1)).length) (m := 1) rfl rfl (by repeat (first | exact Split.nil | (apply Split.cons; (repeat (first | with_reducible exact Take.here | apply Take.there))))) (by simp only [maxLen]; rw [List.length_map]; omega) (by rw [List.length_map]; omega)) ?_
      rintro v' hv'
      skip
      refine s_pu (pu_assign rfl) ?_
      refine swl_sub _ (.cons (t := 3) rfl (.cons (t := 18) rfl .nil)) ?_
      refine swl_nil ?_
      refine block_n ?_
      refine then_n ⟨(dn ++ [y], td'), ⟨v', ⟨rfl, rfl, trivial⟩, ?_, hgo'⟩, by dsimp only; omega⟩
      have e1 : ((dn ++ [y]).map (·.1)).length = (dn.map (·.1)).length + 1 := by simp
      have e2 : ((dn ++ [y]).map (·.1)).flatMap scsv = (dn.map (·.1)).flatMap scsv ++ [.string y.1] := by rw [List.map_append, List.flatMap_append]; rfl
      have e3 : (dn ++ [y]).map (·.2.2) = dn.map (·.2.2) ++ [y.2.2] := by rw [List.map_append]; rfl
      dsimp only
      rw [e1, e2, e3]
      exact Split.ent' (by repeat (first | exact Split.nil | (apply Split.cons; (repeat (first | with_reducible exact Take.here | apply Take.there)))))
end SX
namespace SX
open Go Go.Proofs
theorem crash_rep {d : Dk} {x : FX} (hd : d.Ok) (hx : Rep d x) {n : Int} {keep : List Int} {ef : Ents ByteArray} {cf b' : Nat} {rs' : List Rc} (hE : NmRel ef (namesAt d n) x.rs) (hB : Born ef cf) (hc : Crs (namesAt d n) keep (ef.map (·.1)) x.rs rs') :
    Rep (crashD d n keep) ⟨b', x.fb, ef, cf, ef, cf, rs', [], .slice none 0 0⟩ := by
  have hno : NmOk d.files.length (namesAt d n) := by rw [namesAt_eq]; exact namesK_ok hd _
  have hE' : NmRel ef (namesAt d n) rs' := hE.to fun y _ => hc.adr _
  have hlen : (crashD d n keep).files.length = d.files.length := by unfold crashD; simp
  refine ⟨hE', hE', hB, hB, by rw [hlen, ← hx.len]; exact hc.len, fun k hk => ?_, rfl, fun i p c hp => by cases hp⟩
  have hk' : ∃ y ∈ namesAt d n, y.2 = k := by
    rcases hk with hk | hk | ⟨c, hc, _⟩
    · exact hk
    · exact hk
    · cases hc
  obtain ⟨y, hy, rfl⟩ := hk'
  have hlt := (hno.good y hy).2
  have hlive : live d y.2 := by
    rw [namesAt_eq] at hy
    rcases namesK_live _ y hy with h | h
    · exact .inr (.inl h)
    · exact .inr (.inr h)
  obtain ⟨r, hr, hf⟩ := hx.fl y.2 hlive
  obtain ⟨r', h1, _, h3, _⟩ := hc.at_ y.2 r hr
  have hfn := findN_of hno.nodup (s := y.1) (k := y.2) hy
  have hin : y.1 ∈ ef.map (·.1) := by
    have := (names_perm hE hno.nodup).mem_iff (a := y.1)
    exact this.2 (List.mem_map.2 ⟨y, hy, rfl⟩)
  refine ⟨r', h1, ?_⟩
  rw [h3 ⟨y.1, hin, hfn⟩, hf]
  unfold Dk.fl crashD
  dsimp only
  rw [List.getElem?_map, List.getElem?_range hlt, Option.map_some, Option.getD_some, if_pos]
  · rfl
  · exact List.any_eq_true.2 ⟨y, hy, by simp⟩
set_option maxHeartbeats 8000000 in
theorem crash_spec (μ : PH) (p : Nat) (d : Dk) (hd : d.Ok) (n : Int) (kv : Value) (keep : List Int) (hk : Row μ kv 1 keep.length (keep.flatMap (icsk .i64))) (hw : Few d) :
    Spec Try.prog 17 [pv p, .agg #[.int .i64 n, kv]] [FSA p d, ro μ] (fun _ L => ∃ μ', Le μ μ' ∧ L = [FSA p (crashD d n keep), ro μ']) := by
  refine FSA.open' fun x hx => ?_
  have hpl := hx.ps.1
  have hfw := hw.2
  have hff := hw.1
  have hxl := hx.len
  obtain ⟨KK, hKK⟩ : ∃ K, K = min (max n 0).toNat d.pend.length := ⟨_, rfl⟩
  refine Spec.of 114 Try.func17 rfl rfl rfl ?_
  refine swp_seq ?_
  refine swp_region ?_
  refine s_ef (ef_box rfl rfl) ?_
  intro b3
  refine swl_sub _ (.cons (t := 0) rfl (.cons (t := 3) rfl .nil)) ?_
  refine swl_nil ?_
  refine then_n ?_
  refine swp_seq ?_
  refine swp_seq ?_
  refine swp_region ?_
  refine s_pu (pu_move rfl) ?_
  refine s_pu (pu_ptr_eq_nil rfl rfl) ?_
  refine swl_sub _ (.cons (t := 0) rfl (.cons (t := 3) rfl (.cons (t := 10) rfl .nil))) ?_
  refine swl_nil ?_
  refine then_n ?_
  refine swp_cond (b := _) rfl (fun h10 => by cases h10) (fun h10 => ?_)
  refine swp_share_own (e := 84) (n := 3) (v := x.pv) (l := x.ps.length) (xs := x.ps.flatMap encP) (μ := μ) (by repeat (first | exact Split.nil | (apply Split.cons; (repeat (first | with_reducible exact Take.here | apply Take.there))))) fun μ2 hle2 hrow => ?_
  have hk2 := hk.le hle2
  obtain ⟨hl0, A, cap, hv, hlc, hcm, hnil, hpos⟩ := hrow
  refine swp_ent (Split.ent' (K := [mpe x.fb skv x.ef x.cf, fsH p d x, mpe x.sb skv x.es x.cs, recsA x.rs, blk b3 34 [.int .i64 n, kv], ro μ2]) (by repeat (first | exact Split.nil | (apply Split.cons; (repeat (first | with_reducible exact Take.here | apply Take.there)))))) ?_
  refine swp_skip ?_
  refine then_n ?_
  refine swp_seq ?_
  refine swp_seq ?_
  refine swp_draw [3, 5, 10] _ [] (by simp only [List.append_nil]; exact Ent.refl _) (by kernel_rfl) ?_
  refine d_pu 0 rfl (pu_move rfl) (by kernel_rfl) (by kernel_rfl) (by kernel_rfl) ?_
  first | refine d_pu 1 rfl (pu_nilCheck rfl) (by kernel_rfl) (by kernel_rfl) (by kernel_rfl) ?_ | refine d_pu 1 rfl (pu_nilCheck_fn rfl) (by kernel_rfl) (by kernel_rfl) (by kernel_rfl) ?_ | refine d_pu 1 rfl (pu_nilCheck_if rfl) (by kernel_rfl) (by kernel_rfl) (by kernel_rfl) ?_
  first | refine d_pu 2 rfl (pu_fieldAddr0 rfl) (by kernel_rfl) (by kernel_rfl) (by kernel_rfl) ?_ | refine d_pu 2 rfl (pu_fieldAddr rfl) (by kernel_rfl) (by kernel_rfl) (by kernel_rfl) ?_
  refine d_rd 3 rfl (rd_load rfl rfl) rfl (by kernel_rfl) (by kernel_rfl) (by kernel_rfl) ?_
  first | refine d_pu 4 rfl (pu_fieldAddr0 rfl) (by kernel_rfl) (by kernel_rfl) (by kernel_rfl) ?_ | refine d_pu 4 rfl (pu_fieldAddr rfl) (by kernel_rfl) (by kernel_rfl) (by kernel_rfl) ?_
  refine d_rd 5 rfl (rd_load rfl rfl) rfl (by kernel_rfl) (by kernel_rfl) (by kernel_rfl) ?_
  refine d_pu 6 rfl (pu_max2 rfl rfl) (by kernel_rfl) (by kernel_rfl) (by kernel_rfl) ?_
  refine d_pu 7 rfl (pu_move rfl) (by kernel_rfl) (by kernel_rfl) (by kernel_rfl) ?_
  first | refine d_pu 8 rfl (pu_nilCheck rfl) (by kernel_rfl) (by kernel_rfl) (by kernel_rfl) ?_ | refine d_pu 8 rfl (pu_nilCheck_fn rfl) (by kernel_rfl) (by kernel_rfl) (by kernel_rfl) ?_ | refine d_pu 8 rfl (pu_nilCheck_if rfl) (by kernel_rfl) (by kernel_rfl) (by kernel_rfl) ?_
  first | refine d_pu 9 rfl (pu_fieldAddr0 rfl) (by kernel_rfl) (by kernel_rfl) (by kernel_rfl) ?_ | refine d_pu 9 rfl (pu_fieldAddr rfl) (by kernel_rfl) (by kernel_rfl) (by kernel_rfl) ?_
  refine d_rd 10 rfl (rd_load rfl rfl) rfl (by kernel_rfl) (by kernel_rfl) (by kernel_rfl) ?_
  refine d_pu 11 rfl (pu_len_own ⟨A, cap, hv⟩ rfl) (by kernel_rfl) (by kernel_rfl) (by kernel_rfl) ?_
  refine d_pu 12 rfl (pu_min2 rfl rfl) (by kernel_rfl) (by kernel_rfl) (by kernel_rfl) ?_
  refine d_pu 13 rfl (pu_slice_hi KK (congrArg some hv) rfl (by rw [hKK, hpl]; omega) (by rw [hKK]; omega)) (by kernel_rfl) (by kernel_rfl) (by kernel_rfl) ?_
  refine d_pu 14 rfl (pu_len rfl) (by kernel_rfl) (by kernel_rfl) (by kernel_rfl) ?_
  refine d_pu 15 rfl (pu_move rfl) (by kernel_rfl) (by kernel_rfl) (by kernel_rfl) ?_
  refine d_sub _ (.cons (t := 0) rfl (.cons (t := 3) rfl (.cons (t := 24) rfl (.cons (t := 25) rfl (.cons (t := 26) rfl .nil))))) ?_
  first | refine d_nilt (by kernel_rfl) ?_ | refine d_nilf (by kernel_rfl) ?_
  refine then_n ?_
  refine swp_block ?_
  refine swp_loop (ι := Nat) (fun i env L => Sub env [(0, pv p), (3, pv b3), (24, .slice A KK cap), (25, .int .i64 (KK : Nat)), (26, .int .i64 (i : Nat))] ∧ i ≤ KK ∧ ∃ ef cf, NmRel ef (namesK d i) x.rs ∧ Born ef cf ∧ Ent L [mpe x.fb skv ef cf, fsH p d x, mpe x.sb skv x.es x.cs, recsA x.rs, blk b3 34 [.int .i64 n, kv], ro μ2]) (fun i => KK - i) 0 ⟨⟨rfl, rfl, rfl, rfl, rfl, trivial⟩, Nat.zero_le _, x.ef, x.cf, hx.safe, hx.bf, Ent.refl _⟩ ?_
  rintro i env L ⟨hsub, hi, ef, cf, hE, hB, hEnt⟩
  refine swp_sub _ hsub ?_
  refine swp_ent hEnt ?_
  clear hsub hEnt env L
  refine swp_seq ?_
  refine swp_region ?_
  refine s_pu (pu_lss rfl rfl) ?_
  refine swl_sub _ (.cons (t := 0) rfl (.cons (t := 3) rfl (.cons (t := 24) rfl (.cons (t := 25) rfl (.cons (t := 26) rfl (.cons (t := 27) rfl .nil)))))) ?_
  refine swl_nil ?_
  refine then_n ?_
  refine swp_seq ?_
  refine swp_cond (b := _) rfl (fun h27 => ?_) (fun h27 => ?_)
  · skip   -- 27 T
    have h27' : i < KK := by have := of_decide_eq_true h27; omega
    have hip : i < d.pend.length := by omega
    obtain ⟨b, off, hA, hra⟩ := hpos (by omega)
    subst hA
    obtain ⟨pc, hpc⟩ : ∃ q, x.ps[i]? = some q := ⟨_, List.getElem?_eq_getElem (by omega)⟩
    obtain ⟨cg, hcg⟩ : ∃ q, d.pend[i]? = some q := ⟨_, List.getElem?_eq_getElem hip⟩
    have hpr := hx.ps.2 i pc cg hpc hcg
    have hel := hra.elem (f := encP) (n := 3) (fun _ => rfl) hpc
    obtain ⟨g0, c0, v0⟩ := pc
    obtain ⟨o, rfl⟩ : ∃ o, v0 = .pointer o := by
      have := hpr.2.2
      dsimp only at this
      rw [this]
      split
      · exact ⟨_, rfl⟩
      · unfold adr
        split
        · exact ⟨_, rfl⟩
        · exact ⟨_, rfl⟩
    have hcome : strEq cg.come nos = false → cg.file < x.rs.length := fun h => by rw [hxl]; exact (hd.pend cg (List.mem_of_getElem? hcg) h).2
    refine swp_skip ?_
    refine then_n ?_
    refine swp_seq ?_
    refine swp_block ?_
    refine swp_seq ?_
    refine swp_region ?_
    refine s_pu (pu_indexAddr (off + i * 3) rfl rfl (by omega) (by omega) (by rw [Int.toNat_natCast])) ?_
    refine s_rd (rd_roA rfl rfl hel) ?_
    refine s_ef (ef_alloc) ?_
    intro b5
    refine s_ef0 (ef_storeA rfl rfl rfl rfl) ?_
    refine swl_sub _ (.cons (t := 0) rfl (.cons (t := 3) rfl (.cons (t := 5) rfl (.cons (t := 24) rfl (.cons (t := 25) rfl (.cons (t := 26) rfl .nil)))))) ?_
    refine swl_nil ?_
    refine then_n ?_
    refine swp_draw [0, 4] ([fsH p d x, blk b5 84 [.string g0, .string c0, .pointer o]]) ([mpe x.fb skv ef cf, mpe x.sb skv x.es x.cs, recsA x.rs, blk b3 34 [.int .i64 n, kv], ro μ2]) (Split.ent (by repeat (first | exact Split.nil | (apply Split.cons; (repeat (first | with_reducible exact Take.here | apply Take.there)))))) (by kernel_rfl) ?_
    first | refine d_rd 0 rfl (rd_loadW rfl rfl) rfl (by kernel_rfl) (by kernel_rfl) (by kernel_rfl) ?_ | refine d_rd 0 rfl (rd_loadX rfl rfl rfl) rfl (by kernel_rfl) (by kernel_rfl) (by kernel_rfl) ?_
    refine d_pu 1 rfl (pu_move rfl) (by kernel_rfl) (by kernel_rfl) (by kernel_rfl) ?_
    first | refine d_pu 2 rfl (pu_nilCheck rfl) (by kernel_rfl) (by kernel_rfl) (by kernel_rfl) ?_ | refine d_pu 2 rfl (pu_nilCheck_fn rfl) (by kernel_rfl) (by kernel_rfl) (by kernel_rfl) ?_ | refine d_pu 2 rfl (pu_nilCheck_if rfl) (by kernel_rfl) (by kernel_rfl) (by kernel_rfl) ?_
    first | refine d_pu 3 rfl (pu_fieldAddr0 rfl) (by kernel_rfl) (by kernel_rfl) (by kernel_rfl) ?_ | refine d_pu 3 rfl (pu_fieldAddr rfl) (by kernel_rfl) (by kernel_rfl) (by kernel_rfl) ?_
    refine d_rd 4 rfl (rd_load rfl rfl) rfl (by kernel_rfl) (by kernel_rfl) (by kernel_rfl) ?_
    first | refine d_fint 5 rfl (by kernel_rfl) (by kernel_rfl) (ef_fn (do_spec x.fb cf ef g0 c0 o) rfl rfl (by repeat (first | exact Split.nil | (apply Split.cons; (repeat (first | with_reducible exact Take.here | apply Take.there)))))) ?_ | refine d_finf 5 rfl (by kernel_rfl) (by kernel_rfl) (ef_fn (do_spec x.fb cf ef g0 c0 o) rfl rfl (by repeat (first | exact Split.nil | (apply Split.cons; (repeat (first | with_reducible exact Take.here | apply Take.there)))))) ?_
    rintro v35 L1 rfl
    refine swd_app ?_
    refine d_sub _ (.cons (t := 0) rfl (.cons (t := 3) rfl (.cons (t := 24) rfl (.cons (t := 25) rfl (.cons (t := 26) rfl .nil))))) ?_
    first | refine d_nilt (by kernel_rfl) ?_ | refine d_nilf (by kernel_rfl) ?_
    refine block_n ?_
    refine then_n ?_
    refine swp_region ?_
    refine s_pu (pu_add_as ((i + 1 : Nat) : Int) rfl rfl (by omega) (by omega) (by omega)) ?_
    refine s_pu (pu_move rfl) ?_
    refine swl_sub _ (.cons (t := 0) rfl (.cons (t := 3) rfl (.cons (t := 24) rfl (.cons (t := 25) rfl (.cons (t := 26) rfl .nil))))) ?_
    refine swl_nil ?_
    refine then_n ⟨i + 1, ⟨⟨rfl, rfl, rfl, rfl, rfl, trivial⟩, h27', doE ef cf (g0, c0, .pointer o), doC ef cf (g0, c0, .pointer o), ?_, doE_born hB _, Split.ent' (by repeat (first | exact Split.nil | (apply Split.cons; (repeat (first | with_reducible exact Take.here | apply Take.there)))))⟩, by omega⟩
    rw [namesK_step hcg]
    exact doE_rel hE (fun y hy => goodN_ne ((namesK_ok hd i).good y hy).1) hpr hcome
  · skip   -- 27 F
    have h27' : i = KK := by have := of_decide_eq_false h27; omega
    subst h27'
    have hEn : NmRel ef (namesAt d n) x.rs := by rw [namesAt_eq, ← hKK]; exact hE
    have hno : NmOk d.files.length (namesAt d n) := by rw [namesAt_eq]; exact namesK_ok hd _
    refine swp_exit ?_
    refine then_x ?_
    refine then_x ?_
    refine block_hit rfl ?_
    refine then_n ?_
    refine swp_seq ?_
    refine swp_seq ?_
    refine swp_region ?_
    refine s_pu (pu_move rfl) ?_
    first | refine s_pu (pu_nilCheck rfl) ?_ | refine s_pu (pu_nilCheck_fn rfl) ?_ | refine s_pu (pu_nilCheck_if rfl) ?_
    first | refine s_pu (pu_fieldAddr0 rfl) ?_ | refine s_pu (pu_fieldAddr rfl) ?_
    refine s_rd (rd_load rfl rfl) ?_
    refine s_ef (ef_range (κ := ByteArray) rfl) ?_
    rintro it
    skip
    refine swl_sub _ (.cons (t := 0) rfl (.cons (t := 3) rfl (.cons (t := 41) rfl .nil))) ?_
    refine swl_nil ?_
    refine then_n ?_
    refine swp_block ?_
    refine swp_ent (Split.ent' (K := [itA it x.fb cf [] cf, mpe x.fb skv ef cf, fsH p d x, mpe x.sb skv x.es x.cs, recsA x.rs, blk b3 34 [.int .i64 n, kv], ro μ2]) (by repeat (first | exact Split.nil | (apply Split.cons; (repeat (first | with_reducible exact Take.here | apply Take.there)))))) ?_
    refine swp_loop (ι := Ents ByteArray × Ents ByteArray) (fun k env L => Sub env [(0, pv p), (3, pv b3), (41, pv it)] ∧ Going ef k.1 k.2 ∧ ∃ rs', Crs (namesAt d n) keep (k.1.map (·.1)) x.rs rs' ∧ Ent L [itA it x.fb cf (k.1.map (·.2.2)) cf, mpe x.fb skv ef cf, fsH p d x, mpe x.sb skv x.es x.cs, recsA rs', blk b3 34 [.int .i64 n, kv], ro μ2]) (fun k => k.2.length) ([], ef) ⟨⟨rfl, rfl, rfl, trivial⟩, Going.start _, x.rs, Crs.start _ _ _, Ent.refl _⟩ ?_
    rintro ⟨dn, td⟩ env L ⟨hsub, hgo, rs', hC, hEnt⟩
    dsimp only at hsub hEnt hgo hC
    refine swp_sub _ hsub ?_
    refine swp_ent hEnt ?_
    clear hsub hEnt env L
    refine swp_seq ?_
    refine swp_region ?_
    refine s_ef (ef_next (κ := ByteArray) rfl (by repeat (first | exact Split.nil | (apply Split.cons; (repeat (first | with_reducible exact Take.here | apply Take.there))))) hB.1 (Nat.le_refl _)) ?_
    refine ⟨fun hall => ?_, fun y hy hns => ?_⟩
    · skip
      first | refine s_pu (pu_extractL rfl) ?_ | refine s_pu (pu_extract rfl rfl) ?_
      refine swl_sub _ (.cons (t := 0) rfl (.cons (t := 3) rfl (.cons (t := 41) rfl (.cons (t := 43) rfl .nil)))) ?_
      refine swl_nil ?_
      refine then_n ?_
      refine swp_seq ?_
      refine swp_cond (b := _) rfl (fun h43 => by cases h43) (fun h43 => ?_)
      have htd := hgo.stop hB hall
      rw [htd] at hgo
      have hCe : Crs (namesAt d n) keep (ef.map (·.1)) x.rs rs' := hC.perm (by
        have := hgo; unfold Going at this; rw [List.append_nil] at this; exact this.map _)
      refine swp_exit ?_
      refine then_x ?_
      refine then_x ?_
      refine block_hit rfl ?_
      refine then_n ?_
      refine swp_seq ?_
      refine swp_region ?_
      refine s_pu (pu_move rfl) ?_
      refine s_pu (pu_move rfl) ?_
      first | refine s_pu (pu_nilCheck rfl) ?_ | refine s_pu (pu_nilCheck_fn rfl) ?_ | refine s_pu (pu_nilCheck_if rfl) ?_
      first | refine s_pu (pu_fieldAddr0 rfl) ?_ | refine s_pu (pu_fieldAddr rfl) ?_
      refine s_rd (rd_load rfl rfl) ?_
      refine s_ef (ef_fn (mclone_spec x.fb ef cf) rfl rfl (by repeat (first | exact Split.nil | (apply Split.cons; (repeat (first | with_reducible exact Take.here | apply Take.there)))))) ?_
      rintro v102 L1 ⟨b', rfl, rfl⟩
      refine swl_app ?_
      first | refine s_pu (pu_nilCheck rfl) ?_ | refine s_pu (pu_nilCheck_fn rfl) ?_ | refine s_pu (pu_nilCheck_if rfl) ?_
      first | refine s_pu (pu_fieldAddr0 rfl) ?_ | refine s_pu (pu_fieldAddr rfl) ?_
      refine s_ef0 (ef_store rfl rfl rfl) ?_
      refine swl_sub _ (.cons (t := 0) rfl .nil) ?_
      refine swl_nil ?_
      refine then_n ?_
      refine swp_region ?_
      refine s_pu (pu_move rfl) ?_
      refine s_pu (pu_move rfl) ?_
      refine s_pu (pu_move rfl) ?_
      first | refine s_pu (pu_nilCheck rfl) ?_ | refine s_pu (pu_nilCheck_fn rfl) ?_ | refine s_pu (pu_nilCheck_if rfl) ?_
      first | refine s_pu (pu_fieldAddr0 rfl) ?_ | refine s_pu (pu_fieldAddr rfl) ?_
      refine s_ef0 (ef_store rfl rfl rfl) ?_
      first | refine s_pu (pu_nilCheck rfl) ?_ | refine s_pu (pu_nilCheck_fn rfl) ?_ | refine s_pu (pu_nilCheck_if rfl) ?_
      first | refine s_pu (pu_fieldAddr0 rfl) ?_ | refine s_pu (pu_fieldAddr rfl) ?_
      refine s_ef0 (ef_store rfl rfl rfl) ?_
      first | refine s_pu (pu_nilCheck rfl) ?_ | refine s_pu (pu_nilCheck_fn rfl) ?_ | refine s_pu (pu_nilCheck_if rfl) ?_
      first | refine s_pu (pu_fieldAddr0 rfl) ?_ | refine s_pu (pu_fieldAddr rfl) ?_
      refine s_ef0 (ef_store rfl rfl rfl) ?_
      refine swl_sub _ .nil ?_
      refine swl_nil ?_
      refine done_endE [FSA p (crashD d n keep), ro μ2] .nil ⟨μ2, hle2, rfl⟩ ?_
      refine Ent.trans (own_nil_ent (e := 84) (n := 3)) ?_
      rw [← hCe.len]
      refine Ent.trans (Split.ent' (K := [blk p 73 (fsC d.quota rs'.length b' x.fb (.slice none 0 0) 0 false), mpe b' skv ef cf, mpe x.fb skv ef cf, own 84 3 (.slice none 0 0) 0 [], recsA rs', ro μ2]) (by repeat (first | exact Split.nil | (apply Split.cons; (repeat (first | with_reducible exact Take.here | apply Take.there)))))) ?_
      exact fs_close (crash_rep hd hx (b' := b') hEn hB hCe)
    · skip
      first | refine s_pu (pu_extractL rfl) ?_ | refine s_pu (pu_extract rfl rfl) ?_
      refine swl_sub _ (.cons (t := 0) rfl (.cons (t := 3) rfl (.cons (t := 41) rfl (.cons (t := 43) rfl .nil)))) ?_
      refine swl_nil ?_
      refine then_n ?_
      refine swp_seq ?_
      refine swp_cond (b := _) rfl (fun h43 => ?_) (fun h43 => by cases h43)
      obtain ⟨td', hgo', hlt⟩ := hgo.step hy hns
      have hlk := mlook_of hEn.keys hy
      rw [hEn.look] at hlk
      obtain ⟨k, hfk, hav⟩ := Option.map_eq_some_iff.1 hlk
      have hmem := findN_mem hfk
      obtain ⟨r, hr, hrf⟩ := hx.fl k (by
        rw [namesAt_eq] at hmem
        rcases namesK_live _ _ hmem with h | h
        · exact .inr (.inl h)
        · exact .inr (.inr h))
      have hok := Dk.fl_ok hd k
      rw [← hrf] at hok
      obtain ⟨r', hr', hra', hcut, hsl, hle⟩ := hC.now hr hok.2
      have hyv : y.2.1 = pv r'.a := by rw [← hav, adr_at hr, hra']
      have hkf : k < 9223372036854775807 := by have := (hno.good _ hmem).2; omega
      have hmo := moreF_le keep k r'.f hsl
      have hm1 := hok.1
      simp only [mostF] at hm1
      refine swp_skip ?_
      refine then_n ?_
      refine swp_block ?_
      refine swp_seq ?_
      refine swp_region ?_
      refine s_rd (rd_entry (κ := ByteArray) rfl (by repeat (first | exact Split.nil | (apply Split.cons; (repeat (first | with_reducible exact Take.here | apply Take.there))))) hy hB) ?_
      first | refine s_pu (pu_extractL rfl) ?_ | refine s_pu (pu_extract rfl rfl) ?_
      refine s_pu (pu_assign rfl) ?_
      refine swl_sub _ (.cons (t := 0) rfl (.cons (t := 3) rfl (.cons (t := 7) rfl (.cons (t := 41) rfl .nil)))) ?_
      refine swl_nil ?_
      refine then_n ?_
      refine swp_seq ?_
      rw [hyv]
      refine swp_ent (Split.ent' (K := [recsA rs', itA it x.fb cf (dn.map (·.2.2) ++ [y.2.2]) cf, mpe x.fb skv ef cf, fsH p d x, mpe x.sb skv x.es x.cs, blk b3 34 [.int .i64 n, kv], ro μ2]) (by repeat (first | exact Split.nil | (apply Split.cons; (repeat (first | with_reducible exact Take.here | apply Take.there)))))) ?_
      refine swp_ent (recs_open' hr' hsl) ?_
      refine swp_fact (fun m h => own_cap h) fun ⟨A', c', hv', hlc', hA'⟩ => ?_
      refine swp_region ?_
      refine s_pu (pu_assign rfl) ?_
      refine swl_sub _ (.cons (t := 0) rfl (.cons (t := 3) rfl (.cons (t := 7) rfl (.cons (t := 8) rfl (.cons (t := 41) rfl .nil))))) ?_
      refine swl_nil ?_
      refine then_n ?_
      refine swp_cut (fun env L => Sub env [(0, pv p), (3, pv b3), (41, pv it), (7, pv r'.a), (8, .int .i64 (moreF keep k r'.f : Nat))] ∧ Ent L [own 5 1 r'.v r'.f.bytes.length (bcs r'.f.bytes), blk r'.a 82 [.int .i64 (k : Nat), r'.v, .int .i64 (r'.f.safe : Nat)], holeA rs' k, itA it x.fb cf (dn.map (·.2.2) ++ [y.2.2]) cf, mpe x.fb skv ef cf, fsH p d x, mpe x.sb skv x.es x.cs, blk b3 34 [.int .i64 n, kv], ro μ2]) ?_ ?_
      · skip
        refine swp_seq ?_
        refine swp_region ?_
        first | refine s_pu (pu_fieldAddr0 rfl) ?_ | refine s_pu (pu_fieldAddr rfl) ?_
        refine s_rd (rd_load rfl rfl) ?_
        refine s_pu (pu_len_row hk2 rfl) ?_
        refine s_pu (pu_gtr rfl rfl) ?_
        refine swl_sub _ (.cons (t := 0) rfl (.cons (t := 3) rfl (.cons (t := 7) rfl (.cons (t := 8) rfl (.cons (t := 41) rfl (.cons (t := 49) rfl .nil)))))) ?_
        refine swl_nil ?_
        refine then_n ?_
        refine swp_cond (b := _) rfl (fun h49 => ?_) (fun h49 => ?_)
        · skip   -- 49 T
          have h49' : 0 < keep.length := by have := of_decide_eq_true h49; omega
          have hj : k % keep.length < keep.length := Nat.mod_lt _ h49'
          obtain ⟨kb, ko, kc, hkv, hkc, hkm, hkr⟩ := hk2.pos h49'
          have hkj : keep[k % keep.length]? = some keep[k % keep.length] := List.getElem?_eq_getElem hj
          have hkcell := (hkr.elem (f := icsk .i64) (n := 1) (fun _ => rfl) hkj).cell
          refine swp_draw [1, 5, 7, 11, 16, 21] _ [] (by simp only [List.append_nil]; exact Ent.refl _) (by kernel_rfl) ?_
          first | refine d_pu 0 rfl (pu_fieldAddr0 rfl) (by kernel_rfl) (by kernel_rfl) (by kernel_rfl) ?_ | refine d_pu 0 rfl (pu_fieldAddr rfl) (by kernel_rfl) (by kernel_rfl) (by kernel_rfl) ?_
          refine d_rd 1 rfl (rd_load rfl rfl) rfl (by kernel_rfl) (by kernel_rfl) (by kernel_rfl) ?_
          refine d_pu 2 rfl (pu_move rfl) (by kernel_rfl) (by kernel_rfl) (by kernel_rfl) ?_
          first | refine d_pu 3 rfl (pu_nilCheck rfl) (by kernel_rfl) (by kernel_rfl) (by kernel_rfl) ?_ | refine d_pu 3 rfl (pu_nilCheck_fn rfl) (by kernel_rfl) (by kernel_rfl) (by kernel_rfl) ?_ | refine d_pu 3 rfl (pu_nilCheck_if rfl) (by kernel_rfl) (by kernel_rfl) (by kernel_rfl) ?_
          first | refine d_pu 4 rfl (pu_fieldAddr0 rfl) (by kernel_rfl) (by kernel_rfl) (by kernel_rfl) ?_ | refine d_pu 4 rfl (pu_fieldAddr rfl) (by kernel_rfl) (by kernel_rfl) (by kernel_rfl) ?_
          refine d_rd 5 rfl (rd_load rfl rfl) rfl (by kernel_rfl) (by kernel_rfl) (by kernel_rfl) ?_
          first | refine d_pu 6 rfl (pu_fieldAddr0 rfl) (by kernel_rfl) (by kernel_rfl) (by kernel_rfl) ?_ | refine d_pu 6 rfl (pu_fieldAddr rfl) (by kernel_rfl) (by kernel_rfl) (by kernel_rfl) ?_
          refine d_rd 7 rfl (rd_load rfl rfl) rfl (by kernel_rfl) (by kernel_rfl) (by kernel_rfl) ?_
          refine d_pu 8 rfl (pu_len_row hk2 rfl) (by kernel_rfl) (by kernel_rfl) (by kernel_rfl) ?_
          refine d_pu 9 rfl (pu_rem_nat rfl rfl h49') (by kernel_rfl) (by kernel_rfl) (by kernel_rfl) ?_
          refine d_pu 10 rfl (pu_indexAddr (ko + (k % keep.length) * 1) (congrArg some hkv) rfl (by omega) (by omega) (by rw [Int.toNat_natCast])) (by kernel_rfl) (by kernel_rfl) (by kernel_rfl) ?_
          refine d_rd 11 rfl (rd_ro rfl hkcell) rfl (by kernel_rfl) (by kernel_rfl) (by kernel_rfl) ?_
          refine d_pu 12 rfl (pu_max2 rfl rfl) (by kernel_rfl) (by kernel_rfl) (by kernel_rfl) ?_
          refine d_pu 13 rfl (pu_move rfl) (by kernel_rfl) (by kernel_rfl) (by kernel_rfl) ?_
          first | refine d_pu 14 rfl (pu_nilCheck rfl) (by kernel_rfl) (by kernel_rfl) (by kernel_rfl) ?_ | refine d_pu 14 rfl (pu_nilCheck_fn rfl) (by kernel_rfl) (by kernel_rfl) (by kernel_rfl) ?_ | refine d_pu 14 rfl (pu_nilCheck_if rfl) (by kernel_rfl) (by kernel_rfl) (by kernel_rfl) ?_
          first | refine d_pu 15 rfl (pu_fieldAddr0 rfl) (by kernel_rfl) (by kernel_rfl) (by kernel_rfl) ?_ | refine d_pu 15 rfl (pu_fieldAddr rfl) (by kernel_rfl) (by kernel_rfl) (by kernel_rfl) ?_
          refine d_rd 16 rfl (rd_load rfl rfl) rfl (by kernel_rfl) (by kernel_rfl) (by kernel_rfl) ?_
          refine d_pu 17 rfl (pu_len_own ⟨A', c', hv'⟩ rfl) (by kernel_rfl) (by kernel_rfl) (by kernel_rfl) ?_
          refine d_pu 18 rfl (pu_move rfl) (by kernel_rfl) (by kernel_rfl) (by kernel_rfl) ?_
          first | refine d_pu 19 rfl (pu_nilCheck rfl) (by kernel_rfl) (by kernel_rfl) (by kernel_rfl) ?_ | refine d_pu 19 rfl (pu_nilCheck_fn rfl) (by kernel_rfl) (by kernel_rfl) (by kernel_rfl) ?_ | refine d_pu 19 rfl (pu_nilCheck_if rfl) (by kernel_rfl) (by kernel_rfl) (by kernel_rfl) ?_
          first | refine d_pu 20 rfl (pu_fieldAddr0 rfl) (by kernel_rfl) (by kernel_rfl) (by kernel_rfl) ?_ | refine d_pu 20 rfl (pu_fieldAddr rfl) (by kernel_rfl) (by kernel_rfl) (by kernel_rfl) ?_
          refine d_rd 21 rfl (rd_load rfl rfl) rfl (by kernel_rfl) (by kernel_rfl) (by kernel_rfl) ?_
          refine d_pu 22 rfl (pu_sub_as ((r'.f.bytes.length : Int) - r'.f.safe) rfl rfl (by omega) (by omega) (by omega)) (by kernel_rfl) (by kernel_rfl) (by kernel_rfl) ?_
          refine d_pu 23 rfl (pu_min2 rfl rfl) (by kernel_rfl) (by kernel_rfl) (by kernel_rfl) ?_
          refine d_pu 24 rfl (pu_assign rfl) (by kernel_rfl) (by kernel_rfl) (by kernel_rfl) ?_
          refine d_sub _ (.cons (t := 0) rfl (.cons (t := 3) rfl (.cons (t := 7) rfl (.cons (t := 8) rfl (.cons (t := 41) rfl .nil))))) ?_
          first | refine d_nilt (by kernel_rfl) ?_ | refine d_nilf (by kernel_rfl) ?_
          refine then_n ⟨⟨rfl, rfl, rfl, rfl, ?_, trivial⟩, Split.ent' (by repeat (first | exact Split.nil | (apply Split.cons; (repeat (first | with_reducible exact Take.here | apply Take.there)))))⟩
          have e1 : ((moreF keep k r'.f : Nat) : Int) = min (max keep[k % keep.length] 0) ((r'.f.bytes.length : Int) - r'.f.safe) := by
            unfold moreF; rw [if_neg (by omega), hkj, Option.getD_some]; omega
          rw [e1]; rfl
        · skip   -- 49 F
          refine swp_skip ?_
          have h49' : keep.length = 0 := by have := of_decide_eq_false h49; omega
          refine then_n ⟨⟨rfl, rfl, rfl, rfl, ?_, trivial⟩, Split.ent' (by repeat (first | exact Split.nil | (apply Split.cons; (repeat (first | with_reducible exact Take.here | apply Take.there)))))⟩
          have e1 : moreF keep k r'.f = 0 := by unfold moreF; rw [if_pos h49']
          rw [e1]; rfl
      rintro env L ⟨hsub, hEnt⟩
      refine swp_sub _ hsub ?_
      refine swp_ent hEnt ?_
      clear hsub hEnt env L
      refine swp_seq ?_
      refine swp_draw [4, 8] _ [] (by simp only [List.append_nil]; exact Ent.refl _) (by kernel_rfl) ?_
      refine d_pu 0 rfl (pu_move rfl) (by kernel_rfl) (by kernel_rfl) (by kernel_rfl) ?_
      refine d_pu 1 rfl (pu_move rfl) (by kernel_rfl) (by kernel_rfl) (by kernel_rfl) ?_
      first | refine d_pu 2 rfl (pu_nilCheck rfl) (by kernel_rfl) (by kernel_rfl) (by kernel_rfl) ?_ | refine d_pu 2 rfl (pu_nilCheck_fn rfl) (by kernel_rfl) (by kernel_rfl) (by kernel_rfl) ?_ | refine d_pu 2 rfl (pu_nilCheck_if rfl) (by kernel_rfl) (by kernel_rfl) (by kernel_rfl) ?_
      first | refine d_pu 3 rfl (pu_fieldAddr0 rfl) (by kernel_rfl) (by kernel_rfl) (by kernel_rfl) ?_ | refine d_pu 3 rfl (pu_fieldAddr rfl) (by kernel_rfl) (by kernel_rfl) (by kernel_rfl) ?_
      refine d_rd 4 rfl (rd_load rfl rfl) rfl (by kernel_rfl) (by kernel_rfl) (by kernel_rfl) ?_
      refine d_pu 5 rfl (pu_move rfl) (by kernel_rfl) (by kernel_rfl) (by kernel_rfl) ?_
      first | refine d_pu 6 rfl (pu_nilCheck rfl) (by kernel_rfl) (by kernel_rfl) (by kernel_rfl) ?_ | refine d_pu 6 rfl (pu_nilCheck_fn rfl) (by kernel_rfl) (by kernel_rfl) (by kernel_rfl) ?_ | refine d_pu 6 rfl (pu_nilCheck_if rfl) (by kernel_rfl) (by kernel_rfl) (by kernel_rfl) ?_
      first | refine d_pu 7 rfl (pu_fieldAddr0 rfl) (by kernel_rfl) (by kernel_rfl) (by kernel_rfl) ?_ | refine d_pu 7 rfl (pu_fieldAddr rfl) (by kernel_rfl) (by kernel_rfl) (by kernel_rfl) ?_
      refine d_rd 8 rfl (rd_load rfl rfl) rfl (by kernel_rfl) (by kernel_rfl) (by kernel_rfl) ?_
      refine d_pu 9 rfl (pu_move rfl) (by kernel_rfl) (by kernel_rfl) (by kernel_rfl) ?_
      refine d_pu 10 rfl (pu_add_as ((r'.f.safe + moreF keep k r'.f : Nat) : Int) rfl rfl (by omega) (by omega) (by omega)) (by kernel_rfl) (by kernel_rfl) (by kernel_rfl) ?_
      refine d_pu 11 rfl (pu_slice_hi (r'.f.safe + moreF keep k r'.f) (congrArg some hv') rfl rfl (by omega)) (by kernel_rfl) (by kernel_rfl) (by kernel_rfl) ?_
      first | refine d_fint 12 rfl (by kernel_rfl) (by kernel_rfl) (ef_fn (bclone_own A' (r'.f.safe + moreF keep k r'.f) r'.f.bytes.length c' c' r'.f.bytes rfl hmo (by omega) (fun h => by have := hA' h; omega)) rfl rfl (by rw [← hv']; exact (by repeat (first | exact Split.nil | (apply Split.cons; (repeat (first | with_reducible exact Take.here | apply Take.there))))))) ?_ | refine d_finf 12 rfl (by kernel_rfl) (by kernel_rfl) (ef_fn (bclone_own A' (r'.f.safe + moreF keep k r'.f) r'.f.bytes.length c' c' r'.f.bytes rfl hmo (by omega) (fun h => by have := hA' h; omega)) rfl rfl (by rw [← hv']; exact (by repeat (first | exact Split.nil | (apply Split.cons; (repeat (first | with_reducible exact Take.here | apply Take.there))))))) ?_
      rintro v86 L1 ⟨⟨A2, c2, rfl⟩, rfl⟩
      refine swd_app ?_
      first | refine d_pu 13 rfl (pu_nilCheck rfl) (by kernel_rfl) (by kernel_rfl) (by kernel_rfl) ?_ | refine d_pu 13 rfl (pu_nilCheck_fn rfl) (by kernel_rfl) (by kernel_rfl) (by kernel_rfl) ?_ | refine d_pu 13 rfl (pu_nilCheck_if rfl) (by kernel_rfl) (by kernel_rfl) (by kernel_rfl) ?_
      first | refine d_pu 14 rfl (pu_fieldAddr0 rfl) (by kernel_rfl) (by kernel_rfl) (by kernel_rfl) ?_ | refine d_pu 14 rfl (pu_fieldAddr rfl) (by kernel_rfl) (by kernel_rfl) (by kernel_rfl) ?_
      first | refine d_fin0t 15 rfl (by kernel_rfl) (by kernel_rfl) (ef_store rfl rfl rfl) ?_ | refine d_fin0f 15 rfl (by kernel_rfl) (by kernel_rfl) (ef_store rfl rfl rfl) ?_
      refine d_sub _ (.cons (t := 0) rfl (.cons (t := 3) rfl (.cons (t := 7) rfl (.cons (t := 41) rfl .nil)))) ?_
      first | refine d_nilt (by kernel_rfl) ?_ | refine d_nilf (by kernel_rfl) ?_
      refine then_n ?_
      refine swp_region ?_
      refine s_pu (pu_move rfl) ?_
      refine s_pu (pu_move rfl) ?_
      first | refine s_pu (pu_nilCheck rfl) ?_ | refine s_pu (pu_nilCheck_fn rfl) ?_ | refine s_pu (pu_nilCheck_if rfl) ?_
      first | refine s_pu (pu_fieldAddr0 rfl) ?_ | refine s_pu (pu_fieldAddr rfl) ?_
      refine s_rd (rd_load rfl rfl) ?_
      refine s_pu (pu_len rfl) ?_
      first | refine s_pu (pu_nilCheck rfl) ?_ | refine s_pu (pu_nilCheck_fn rfl) ?_ | refine s_pu (pu_nilCheck_if rfl) ?_
      first | refine s_pu (pu_fieldAddr0 rfl) ?_ | refine s_pu (pu_fieldAddr rfl) ?_
      refine s_ef0 (ef_store rfl rfl rfl) ?_
      refine swl_sub _ (.cons (t := 0) rfl (.cons (t := 3) rfl (.cons (t := 41) rfl .nil))) ?_
      refine swl_nil ?_
      refine block_n ?_
      refine then_n ⟨(dn ++ [y], td'), ⟨⟨rfl, rfl, rfl, trivial⟩, hgo', rs'.set k ⟨r'.a, .slice A2 (r'.f.safe + moreF keep k r'.f) c2, cutF keep k r'.f⟩, ?_, ?_⟩, by dsimp only; omega⟩
      · dsimp only
        rw [List.map_append]
        exact hC.step hfk hr hra' hcut
      · dsimp only
        have e3 : (dn ++ [y]).map (·.2.2) = dn.map (·.2.2) ++ [y.2.2] := by rw [List.map_append]; rfl
        have e4 : (cutF keep k r'.f).bytes.length = r'.f.safe + moreF keep k r'.f := by show (r'.f.bytes.take _).length = _; rw [List.length_take, Nat.min_eq_left hmo]
        rw [e3]
        refine Ent.trans (Split.ent' (K := [own 5 1 (.slice A2 (r'.f.safe + moreF keep k r'.f) c2) (r'.f.safe + moreF keep k r'.f) (bcs (r'.f.bytes.take (r'.f.safe + moreF keep k r'.f))), blk r'.a 82 [.int .i64 (k : Nat), .slice A2 (r'.f.safe + moreF keep k r'.f) c2, .int .i64 (r'.f.safe + moreF keep k r'.f : Nat)], holeA rs' k, itA it x.fb cf (dn.map (·.2.2) ++ [y.2.2]) cf, mpe x.fb skv ef cf, fsH p d x, mpe x.sb skv x.es x.cs, blk b3 34 [.int .i64 n, kv], ro μ2]) (by repeat (first | exact Split.nil | (apply Split.cons; (repeat (first | with_reducible exact Take.here | apply Take.there)))))) ?_
        have h2 := recs_close' (rs := rs') (i := k) ⟨r'.a, .slice A2 (r'.f.safe + moreF keep k r'.f) c2, cutF keep k r'.f⟩ (List.getElem?_eq_some_iff.1 hr').1 (by show r'.f.safe + moreF keep k r'.f ≤ (cutF keep k r'.f).bytes.length; rw [e4]; exact Nat.le_refl _) (L := [itA it x.fb cf (dn.map (·.2.2) ++ [y.2.2]) cf, mpe x.fb skv ef cf, fsH p d x, mpe x.sb skv x.es x.cs, blk b3 34 [.int .i64 n, kv], ro μ2])
        rw [e4] at h2
        exact Ent.trans h2 (Split.ent' (by repeat (first | exact Split.nil | (apply Split.cons; (repeat (first | with_reducible exact Take.here | apply Take.there))))))
end SX
