/- A part of the proof: walks of the program's functions, and the rules by which they go. -/
import Derived.Test.YtllgakmdhjgmoaaGreatB411835e9
import Derived.Test.YtllgakmdhjgmoaaGreatB9a0af180
namespace SX
open Go Go.Proofs
def badB (b : UInt8) : Bool := decide (b.toNat < 33) || decide (126 < b.toNat)
theorem named1_spec (b : UInt8) : Spec Tryz.prog 117 [.int .u8 (b.toNat : Nat)] [] (fun r L => r = .bool (badB b) ∧ L = []) := by
  refine Spec.of 9 Tryz.func117 rfl rfl rfl ?_
  refine swp_sr ?_
  refine s_as rfl ?_
  refine swl_sub _ (sc0 0 rfl .nil) ?_
  refine swl_nn ?_
  refine swp_sr ?_
  refine s_mv rfl ?_
  refine s_pu (pu_lss rfl rfl) ?_
  refine s_mv rfl ?_
  refine s_split 5 rfl (fun h5 => ?_) (fun h5 => ?_)
  · skip   -- 5 T
    refine s_off rfl rfl rfl ?_
    refine s_off rfl rfl rfl ?_
    first | refine s_pu (pu_pick_t rfl rfl) ?_ | refine s_pu (pu_pick_f rfl rfl) ?_
    refine s_as rfl ?_
    refine swl_sub _ (sc0 2 rfl .nil) ?_
    refine swl_nn ?_
    refine swp_ret ?_
    refine done_ret [] (.tmp rfl .nil) ⟨?_, rfl⟩ sp0
    unfold badB
    first
      | (have h := of_decide_eq_true h5; rw [decide_eq_true (show b.toNat < 33 by omega)]; rfl)
      | (have h := of_decide_eq_false h5
         rw [decide_eq_false (show ¬ b.toNat < 33 by omega)]
         by_cases h2 : 126 < b.toNat
         · rw [decide_eq_true h2, decide_eq_true om0]; rfl
         · rw [decide_eq_false h2, decide_eq_false om0]; rfl)
  · skip   -- 5 F
    refine s_on rfl rfl ?_
    refine s_mv rfl ?_
    refine s_on rfl rfl ?_
    refine s_pu (pu_gtr rfl rfl) ?_
    first | refine s_pu (pu_pick_t rfl rfl) ?_ | refine s_pu (pu_pick_f rfl rfl) ?_
    refine s_as rfl ?_
    refine swl_sub _ (sc0 2 rfl .nil) ?_
    refine swl_nn ?_
    refine swp_ret ?_
    refine done_ret [] (.tmp rfl .nil) ⟨?_, rfl⟩ sp0
    unfold badB
    first
      | (have h := of_decide_eq_true h5; rw [decide_eq_true (show b.toNat < 33 by omega)]; rfl)
      | (have h := of_decide_eq_false h5
         rw [decide_eq_false (show ¬ b.toNat < 33 by omega)]
         by_cases h2 : 126 < b.toNat
         · rw [decide_eq_true h2, decide_eq_true om0]; rfl
         · rw [decide_eq_false h2, decide_eq_false om0]; rfl)
theorem swl_share1 {P : Program} {rn : Option Nat} {Q : Post} {N : Nat} {L : List Assn} {μ : PH} {env : Env} {ops : Array Oper} {ol : List Oper} {b : Nat} {o : Obj} {L0 : List Assn} (hL : Split L0 [one b o, ro μ] L) (h : ∀ μ', Le μ μ' → μ' b = some o → swl P rn ops Q N ol env (ro μ' :: L)) : swl P rn ops Q N ol env L0 := fun E D a w hd hf hh => by
  obtain ⟨μ', h1, h2, h3⟩ := (hh.ent hL.ent).share
  exact h μ' h1 h2 E D a w hd hf h3
theorem ent_ro0 {L : List Assn} : Ent L (ro (fun _ => none) :: L) := fun m h => ⟨fun _ => none, m, (fun k x hk => by cases hk), h, (fun _ => .inl rfl), (fun _ _ h => by cases h), (fun _ _ h => h)⟩
theorem idx_spec (μ : PH) (v : Value) (l : List UInt8) (hr : Row μ v 1 l.length (bcs l)) (hl : l.length ≤ 1048576) : Spec Tryz.prog 138 [v, .func (.func 117) #[] #[]] [ro μ] (fun r L => ∃ i : Int, r = .int .i64 i ∧ (0 ≤ i ↔ l.any badB = true) ∧ L = [ro μ]) := by
  refine Spec.of 19 Tryz.func138 rfl rfl rfl ?_
  refine swp_sr ?_
  refine s_as rfl ?_
  refine swl_sub _ (sc0 0 rfl (sc0 1 rfl .nil)) ?_
  refine swl_nn ?_
  refine swp_seq ?_
  refine swp_sr ?_
  refine s_mv rfl ?_
  refine s_pu (pu_len_row hr rfl) ?_
  refine s_mv rfl ?_
  refine swl_sub _ (sc0 0 rfl (sc0 1 rfl (sc0 7 rfl (sc0 8 rfl .nil)))) ?_
  refine swl_nn ?_
  refine swp_block ?_
  refine swp_loop (ι := Nat) (fun i env L => Sub env [(0, v), (1, .func (.func 117) #[] #[]), (7, .int .i64 (l.length : Nat)), (8, .int .i64 (i : Nat))] ∧ L = [ro μ] ∧ i ≤ l.length ∧ (l.take i).any badB = false) (fun i => l.length - i) 0 ⟨⟨rfl, rfl, rfl, rfl, trivial⟩, rfl, Nat.zero_le _, rfl⟩ ?_
  rintro i env L ⟨hsub, rfl, hi, hn⟩
  refine swp_sub _ hsub ?_
  clear hsub env
  refine swp_sr ?_
  refine s_pu (pu_lss rfl rfl) ?_
  refine swl_sub _ (sc0 0 rfl (sc0 1 rfl (sc0 7 rfl (sc0 8 rfl (sc0 9 rfl .nil))))) ?_
  refine swl_nn ?_
  refine swp_seq ?_
  refine swp_cond (b := _) rfl (fun h9 => ?_) (fun h9 => ?_)
  · skip   -- 9 T
    have h9' : i < l.length := by have := of_decide_eq_true h9; omega
    obtain ⟨b, hb⟩ : ∃ b, l[i]? = some b := ⟨_, List.getElem?_eq_getElem h9'⟩
    obtain ⟨g, o, c, hv, _, _, hrr⟩ := hr.pos om0
    have hc := (hrr.elem (f := bc1) (n := 1) (fun _ => rfl) hb).cell
    refine swp_skip ?_
    refine then_n ?_
    refine swp_seq ?_
    refine swp_block ?_
    refine swp_sr ?_
    refine s_mv rfl ?_
    refine s_as rfl ?_
    refine swl_sub _ (sc0 0 rfl (sc0 1 rfl (sc0 5 rfl (sc0 7 rfl (sc0 8 rfl .nil))))) ?_
    refine swl_nn ?_
    refine swp_sr ?_
    refine s_mv rfl ?_
    refine s_mv rfl ?_
    refine s_mv rfl ?_
    refine s_pu (pu_indexAddr (o + i * 1) (congrArg some hv) rfl om0 om0 (by rw [Int.toNat_natCast])) ?_
    refine s_rd (rd_ro rfl hc) ?_
    refine s_ef (ef_fn (named1_spec b) rfl rfl sp0) ?_
    rintro v16 L1 ⟨rfl, rfl⟩
    refine swl_app ?_
    refine swl_sub _ (sc0 0 rfl (sc0 1 rfl (sc0 5 rfl (sc0 7 rfl (sc0 8 rfl (sc0 16 rfl .nil)))))) ?_
    refine swl_nn ?_
    refine swp_cond (b := _) rfl (fun h16 => ?_) (fun h16 => ?_)
    · skip   -- 16 T
      refine swp_sr ?_
      refine s_mv rfl ?_
      refine s_as rfl ?_
      refine swl_sub _ (sc0 4 rfl .nil) ?_
      refine swl_nn ?_
      refine swp_ret ?_
      refine block_r ?_
      refine then_r ?_
      refine then_r ?_
      refine block_r ?_
      refine then_r ?_
      refine done_ret [ro μ] (.tmp rfl .nil) ⟨i, rfl, ⟨fun _ => List.any_eq_true.2 ⟨b, List.mem_of_getElem? hb, h16⟩, fun _ => by omega⟩, rfl⟩ sp0
    · skip   -- 16 F
      refine swp_skip ?_
      refine block_n ?_
      refine then_n ?_
      refine swp_region ?_
      refine s_pu (pu_add_as ((i + 1 : Nat) : Int) rfl rfl om0 om0 om0) ?_
      refine s_mv rfl ?_
      refine swl_sub _ (sc0 0 rfl (sc0 1 rfl (sc0 7 rfl (sc0 8 rfl .nil)))) ?_
      refine swl_nil ?_
      refine then_n ⟨i + 1, ⟨⟨rfl, rfl, rfl, rfl, trivial⟩, rfl, h9', ?_⟩, by omega⟩
      rw [List.take_add_one, hb, List.any_append, hn]; simp [h16]
  · skip   -- 9 F
    have h9' := of_decide_eq_false h9
    obtain rfl : i = l.length := by omega
    rw [List.take_length] at hn
    refine swp_exit ?_
    refine then_x ?_
    refine then_x ?_
    refine block_hit rfl ?_
    refine then_n ?_
    refine swp_sr ?_
    refine s_as rfl ?_
    refine swl_sub _ (sc0 4 rfl .nil) ?_
    refine swl_nn ?_
    refine swp_ret ?_
    refine done_ret [ro μ] (.tmp rfl .nil) ⟨-1, rfl, ⟨fun h => by omega, fun h => by rw [hn] at h; cases h⟩, rfl⟩ sp0
theorem contains_spec (μ : PH) (v : Value) (l : List UInt8) (hr : Row μ v 1 l.length (bcs l)) (hl : l.length ≤ 1048576) : Spec Tryz.prog 116 [v, .func (.func 117) #[] #[]] [ro μ] (fun r L => r = .bool (l.any badB) ∧ L = [ro μ]) := by
  refine Spec.of 9 Tryz.func116 rfl rfl rfl ?_
  refine swp_sr ?_
  refine s_as rfl ?_
  refine swl_sub _ (sc0 0 rfl (sc0 1 rfl .nil)) ?_
  refine swl_nn ?_
  refine swp_sr ?_
  refine s_mv rfl ?_
  refine s_mv rfl ?_
  refine s_ef (ef_fn (idx_spec μ v l hr hl) rfl rfl sp0) ?_
  rintro v7 L1 ⟨i, rfl, hi, rfl⟩
  refine swl_app ?_
  refine s_pu (pu_geq rfl rfl) ?_
  refine s_as rfl ?_
  refine swl_sub _ (sc0 4 rfl .nil) ?_
  refine swl_nn ?_
  refine swp_ret ?_
  refine done_ret [ro μ] (.tmp rfl .nil) ⟨?_, rfl⟩ sp0
  show Value.bool (decide (0 ≤ i)) = _
  congr 1
  by_cases h : l.any badB = true
  · rw [h]; exact decide_eq_true (hi.2 h)
  · rw [Bool.not_eq_true] at h; rw [h]; exact decide_eq_false (fun k => by rw [hi.1 k] at h; cases h)
theorem goodN_eq (s : ByteArray) : goodN s = (decide (s.size ≠ 0) && (decide (s.size ≤ 32) && !s.data.toList.any badB)) := by
  unfold goodN
  congr 1
  · congr 1; exact propext ⟨fun h => by omega, fun h => by omega⟩
  · congr 1
    rw [List.not_any_eq_all_not]
    congr 1
    funext b
    unfold badB
    by_cases h1 : b.toNat < 33
    · rw [decide_eq_true h1, decide_eq_false (show ¬ 33 ≤ b.toNat by omega)]; rfl
    · rw [decide_eq_false h1, decide_eq_true (show 33 ≤ b.toNat by omega)]
      by_cases h2 : 126 < b.toNat
      · rw [decide_eq_true h2, decide_eq_false (show ¬ b.toNat ≤ 126 by omega)]; rfl
      · rw [decide_eq_false h2, decide_eq_true (show b.toNat ≤ 126 by omega)]; rfl
theorem strEq_nos (s : ByteArray) : strEq s nos = decide (s.size = 0) := by
  by_cases h : s.size = 0
  · rw [decide_eq_true h]
    refine strEq_iff.2 ?_
    cases s with
    | mk d => congr 1; exact Array.eq_empty_of_size_eq_zero h
  · rw [decide_eq_false h, strEq_false]; rintro rfl; exact h rfl
theorem named_spec (s : ByteArray) : Spec Tryz.prog 75 [.string s] [] (fun r L => r = .bool (goodN s) ∧ L = []) := by
  have hg := goodN_eq s
  have hn := strEq_nos s
  have hll : s.data.toList.length = s.size := by rw [Array.length_toList]; rfl
  refine Spec.of 16 Tryz.func75 rfl rfl rfl ?_
  refine swp_sr ?_
  refine s_as rfl ?_
  refine swl_sub _ (sc0 0 rfl .nil) ?_
  refine swl_nn ?_
  refine swp_sr ?_
  refine s_mv rfl ?_
  refine s_pu (pu_str_neq rfl rfl) ?_
  refine s_mv rfl ?_
  refine s_split 5 rfl (fun h5 => ?_) (fun h5 => ?_)
  · skip   -- 5 T
    refine s_on rfl rfl ?_
    refine s_mv rfl ?_
    refine s_on rfl rfl ?_
    refine s_pu (pu_strlen rfl) ?_
    refine s_on rfl rfl ?_
    refine s_pu (pu_leq rfl rfl) ?_
    first | refine s_pu (pu_pick_t rfl rfl) ?_ | refine s_pu (pu_pick_f rfl rfl) ?_
    refine s_mv rfl ?_
    refine s_split 10 rfl (fun h10 => ?_) (fun h10 => ?_)
    · skip   -- 10 T
      refine s_on rfl rfl ?_
      refine s_mv rfl ?_
      refine s_on rfl rfl ?_
      refine s_ef (ef_bytes rfl (by first | (simp only [maxLen]; have := of_decide_eq_true h10; omega) | cases h10)) ?_
      rintro g cap cs fr hc1 hc2 hc3
      refine swl_ent ent_ro0 ?_
      refine swl_share1 sp0 fun μ1 _ gg => ?_
      have hrow := row_bytes hc1 hc2 hc3 gg
      refine s_on rfl rfl ?_
      refine s_ef (ef_fn (contains_spec μ1 _ _ hrow (by first | (have := of_decide_eq_true h10; omega) | cases h10)) rfl rfl sp0) ?_
      rintro v13 L1 ⟨rfl, rfl⟩
      refine swl_app ?_
      refine s_on rfl rfl ?_
      refine s_pu (pu_not rfl) ?_
      first | refine s_pu (pu_pick_t rfl rfl) ?_ | refine s_pu (pu_pick_f rfl rfl) ?_
      refine s_as rfl ?_
      refine swl_sub _ (sc0 2 rfl .nil) ?_
      refine swl_nn ?_
      refine swp_ret ?_
      refine done_ret [] (.tmp rfl .nil) ⟨?_, rfl⟩ sp0
      rw [hg]
      rw [hn] at h5
      first
        | (cases h10; done)
        | (have h1 : s.size ≠ 0 := by simpa using h5
           have h2 := of_decide_eq_true h10
           rw [decide_eq_true h1, decide_eq_true om0]; rfl)
        | (have h1 : s.size ≠ 0 := by simpa using h5
           have h2 := of_decide_eq_false h10
           rw [decide_eq_true h1, decide_eq_false (p := s.size ≤ 32) om0]; rfl)
        | (have h1 : s.size = 0 := by simpa using h5
           rw [decide_eq_false (p := s.size ≠ 0) om0]; rfl)
    · skip   -- 10 F
      refine s_off rfl rfl rfl ?_
      refine s_off rfl rfl rfl ?_
      refine s_off rfl rfl rfl ?_
      refine s_off rfl rfl rfl ?_
      first | refine s_pu (pu_pick_t rfl rfl) ?_ | refine s_pu (pu_pick_f rfl rfl) ?_
      refine s_as rfl ?_
      refine swl_sub _ (sc0 2 rfl .nil) ?_
      refine swl_nn ?_
      refine swp_ret ?_
      refine done_ret [] (.tmp rfl .nil) ⟨?_, rfl⟩ sp0
      rw [hg]
      rw [hn] at h5
      first
        | (cases h10; done)
        | (have h1 : s.size ≠ 0 := by simpa using h5
           have h2 := of_decide_eq_true h10
           rw [decide_eq_true h1, decide_eq_true om0]; rfl)
        | (have h1 : s.size ≠ 0 := by simpa using h5
           have h2 := of_decide_eq_false h10
           rw [decide_eq_true h1, decide_eq_false (p := s.size ≤ 32) om0]; rfl)
        | (have h1 : s.size = 0 := by simpa using h5
           rw [decide_eq_false (p := s.size ≠ 0) om0]; rfl)
  · skip   -- 5 F
    refine s_off rfl rfl rfl ?_
    refine s_off rfl rfl rfl ?_
    refine s_off rfl rfl rfl ?_
    first | refine s_pu (pu_pick_t rfl rfl) ?_ | refine s_pu (pu_pick_f rfl rfl) ?_
    refine s_mv rfl ?_
    refine s_split 10 rfl (fun h10 => ?_) (fun h10 => ?_)
    · skip   -- 10 T
      refine s_on rfl rfl ?_
      refine s_mv rfl ?_
      refine s_on rfl rfl ?_
      refine s_ef (ef_bytes rfl (by first | (simp only [maxLen]; have := of_decide_eq_true h10; omega) | cases h10)) ?_
      rintro g cap cs fr hc1 hc2 hc3
      refine swl_ent ent_ro0 ?_
      refine swl_share1 sp0 fun μ1 _ gg => ?_
      have hrow := row_bytes hc1 hc2 hc3 gg
      refine s_on rfl rfl ?_
      refine s_ef (ef_fn (contains_spec μ1 _ _ hrow (by first | (have := of_decide_eq_true h10; omega) | cases h10)) rfl rfl sp0) ?_
      rintro v13 L1 ⟨rfl, rfl⟩
      refine swl_app ?_
      refine s_on rfl rfl ?_
      refine s_pu (pu_not rfl) ?_
      first | refine s_pu (pu_pick_t rfl rfl) ?_ | refine s_pu (pu_pick_f rfl rfl) ?_
      refine s_as rfl ?_
      refine swl_sub _ (sc0 2 rfl .nil) ?_
      refine swl_nn ?_
      refine swp_ret ?_
      refine done_ret [] (.tmp rfl .nil) ⟨?_, rfl⟩ sp0
      rw [hg]
      rw [hn] at h5
      first
        | (cases h10; done)
        | (have h1 : s.size ≠ 0 := by simpa using h5
           have h2 := of_decide_eq_true h10
           rw [decide_eq_true h1, decide_eq_true om0]; rfl)
        | (have h1 : s.size ≠ 0 := by simpa using h5
           have h2 := of_decide_eq_false h10
           rw [decide_eq_true h1, decide_eq_false (p := s.size ≤ 32) om0]; rfl)
        | (have h1 : s.size = 0 := by simpa using h5
           rw [decide_eq_false (p := s.size ≠ 0) om0]; rfl)
    · skip   -- 10 F
      refine s_off rfl rfl rfl ?_
      refine s_off rfl rfl rfl ?_
      refine s_off rfl rfl rfl ?_
      refine s_off rfl rfl rfl ?_
      first | refine s_pu (pu_pick_t rfl rfl) ?_ | refine s_pu (pu_pick_f rfl rfl) ?_
      refine s_as rfl ?_
      refine swl_sub _ (sc0 2 rfl .nil) ?_
      refine swl_nn ?_
      refine swp_ret ?_
      refine done_ret [] (.tmp rfl .nil) ⟨?_, rfl⟩ sp0
      rw [hg]
      rw [hn] at h5
      first
        | (cases h10; done)
        | (have h1 : s.size ≠ 0 := by simpa using h5
           have h2 := of_decide_eq_true h10
           rw [decide_eq_true h1, decide_eq_true om0]; rfl)
        | (have h1 : s.size ≠ 0 := by simpa using h5
           have h2 := of_decide_eq_false h10
           rw [decide_eq_true h1, decide_eq_false (p := s.size ≤ 32) om0]; rfl)
        | (have h1 : s.size = 0 := by simpa using h5
           rw [decide_eq_false (p := s.size ≠ 0) om0]; rfl)
end SX
namespace SX
open Go Go.Proofs
theorem do_spec (b cl : Nat) (es : Ents ByteArray) (g c : ByteArray) (o : Option Addr) : Spec Tryz.prog 109 [.agg (encP (g, c, .pointer o)).toArray, .map (some b)] [mpe b skv es cl] (fun _ L => L = [mpe b skv (doE es cl (g, c, .pointer o)) (doC es cl (g, c, .pointer o))]) := by
  refine Spec.of 15 Tryz.func109 rfl rfl rfl ?_
  refine swp_sr ?_
  refine s_ef (ef_box rfl rfl) ?_
  intro b2
  refine swl_sub _ (sc0 1 rfl (sc0 2 rfl .nil)) ?_
  refine swl_nn ?_
  refine swp_sr ?_
  refine s_mv rfl ?_
  first | refine s_pu (pu_fieldAddr0 rfl) ?_ | refine s_pu (pu_fieldAddr rfl) ?_
  refine s_rd (rd_load rfl rfl) ?_
  refine s_ef0 (ef_delete (kv := skv) g rfl rfl sp0) ?_
  refine swl_sub _ (sc0 1 rfl (sc0 2 rfl .nil)) ?_
  refine swl_nn ?_
  refine swp_sr ?_
  first | refine s_pu (pu_fieldAddr0 rfl) ?_ | refine s_pu (pu_fieldAddr rfl) ?_
  refine s_rd (rd_load rfl rfl) ?_
  refine s_pu (pu_ptr_ne_nil rfl rfl) ?_
  refine swl_sub _ (sc0 1 rfl (sc0 2 rfl (sc0 9 rfl .nil))) ?_
  refine swl_nn ?_
  refine swp_cond (b := _) rfl (fun h9 => ?_) (fun h9 => ?_)
  · skip   -- 9 T
    obtain ⟨a, rfl⟩ : ∃ a, o = some a := by cases o with | none => cases h9 | some a => exact ⟨a, rfl⟩
    refine swp_region ?_
    refine s_mv rfl ?_
    first | refine s_pu (pu_fieldAddr0 rfl) ?_ | refine s_pu (pu_fieldAddr rfl) ?_
    refine s_rd (rd_load rfl rfl) ?_
    first | refine s_pu (pu_fieldAddr0 rfl) ?_ | refine s_pu (pu_fieldAddr rfl) ?_
    refine s_rd (rd_load rfl rfl) ?_
    refine s_ef0 (ef_upd (kv := skv) c rfl rfl rfl sp0) ?_
    refine swl_sub _ .nil ?_
    refine swl_nil ?_
    exact done_endE [mpe b skv (doE es cl (g, c, .pointer (some a))) (doC es cl (g, c, .pointer (some a)))] .nil rfl Ent.one
  · skip   -- 9 F
    obtain rfl : o = none := by cases o with | none => rfl | some a => cases h9
    refine swp_skip ?_
    exact done_endE [mpe b skv (doE es cl (g, c, .pointer none)) (doC es cl (g, c, .pointer none))] .nil rfl Ent.one
theorem step_spec {f : FuncId} [Body Tryz.prog f] {ca : List Value} {pre : List Assn} {K : Int → List Assn → Prop} (p : Nat) (q : Int) (n sb fb : Nat) (v : Value) (fa : Int) (off : Bool) (h0 : 0 ≤ fa ∧ fa ≤ 9223372036854775807)
    (h : ∀ fa' : Int, Spec Tryz.prog f ca (blk p 81 (fsC q n sb fb v fa' off) :: pre) (fun _ L => K fa' L)) :
    Spec Tryz.prog 76 [pv p, .func (.func f) #[] ca.toArray] (blk p 81 (fsC q n sb fb v fa off) :: pre) (fun r L => (fa = 1 ∧ r = .int .i64 8 ∧ L = blk p 81 (fsC q n sb fb v 0 true) :: pre) ∨ (fa ≠ 1 ∧ r = .int .i64 0 ∧ K (if 0 < fa then fa - 1 else fa) L)) := by
  refine Spec.of 27 Tryz.func76 rfl rfl rfl ?_
  refine swp_sr ?_
  refine s_as rfl ?_
  refine swl_sub _ (sc0 0 rfl (sc0 1 rfl .nil)) ?_
  refine swl_nn ?_
  refine swp_seq ?_
  refine swp_sr ?_
  refine s_mv rfl ?_
  first | refine s_pu (pu_nilCheck rfl) ?_ | refine s_pu (pu_nilCheck_fn rfl) ?_ | refine s_pu (pu_nilCheck_if rfl) ?_
  first | refine s_pu (pu_fieldAddr0 rfl) ?_ | refine s_pu (pu_fieldAddr rfl) ?_
  refine s_rd (rd_load rfl rfl) ?_
  refine s_pu (pu_gtr rfl rfl) ?_
  refine swl_sub _ (sc0 0 rfl (sc0 1 rfl (sc0 9 rfl .nil))) ?_
  refine swl_nn ?_
  refine swp_cond (b := _) rfl (fun h9 => ?_) (fun h9 => ?_)
  · skip   -- 9 T
    have h9' : 0 < fa := by have := of_decide_eq_true h9; omega
    refine swp_sr ?_
    refine s_mv rfl ?_
    first | refine s_pu (pu_nilCheck rfl) ?_ | refine s_pu (pu_nilCheck_fn rfl) ?_ | refine s_pu (pu_nilCheck_if rfl) ?_
    first | refine s_pu (pu_fieldAddr0 rfl) ?_ | refine s_pu (pu_fieldAddr rfl) ?_
    refine s_rd (rd_load rfl rfl) ?_
    first | refine s_pu (pu_sub_in rfl rfl om0 om0) ?_ | refine s_pu (pu_sub rfl rfl) ?_
    first | refine s_pu (pu_nilCheck rfl) ?_ | refine s_pu (pu_nilCheck_fn rfl) ?_ | refine s_pu (pu_nilCheck_if rfl) ?_
    first | refine s_pu (pu_fieldAddr0 rfl) ?_ | refine s_pu (pu_fieldAddr rfl) ?_
    refine s_ef0 (ef_store rfl rfl rfl) ?_
    refine swl_sub _ (sc0 0 rfl (sc0 1 rfl .nil)) ?_
    refine swl_nn ?_
    refine swp_sr ?_
    refine s_mv rfl ?_
    first | refine s_pu (pu_nilCheck rfl) ?_ | refine s_pu (pu_nilCheck_fn rfl) ?_ | refine s_pu (pu_nilCheck_if rfl) ?_
    first | refine s_pu (pu_fieldAddr0 rfl) ?_ | refine s_pu (pu_fieldAddr rfl) ?_
    refine s_rd (rd_load rfl rfl) ?_
    refine s_pu (pu_eql rfl rfl) ?_
    refine swl_sub _ (sc0 0 rfl (sc0 1 rfl (sc0 21 rfl .nil))) ?_
    refine swl_nn ?_
    refine swp_cond (b := _) rfl (fun h21 => ?_) (fun h21 => ?_)
    · skip   -- 21 T
      have h21' : fa = 1 := by have := of_decide_eq_true h21; omega
      refine swp_sr ?_
      refine s_mv rfl ?_
      first | refine s_pu (pu_nilCheck rfl) ?_ | refine s_pu (pu_nilCheck_fn rfl) ?_ | refine s_pu (pu_nilCheck_if rfl) ?_
      first | refine s_pu (pu_fieldAddr0 rfl) ?_ | refine s_pu (pu_fieldAddr rfl) ?_
      refine s_ef0 (ef_store rfl rfl rfl) ?_
      refine swl_sub _ .nil ?_
      refine swl_nn ?_
      refine swp_sr ?_
      refine s_as rfl ?_
      refine swl_sub _ (sc0 4 rfl .nil) ?_
      refine swl_nn ?_
      refine swp_ret ?_
      refine then_r ?_
      refine done_retE (blk p 81 (fsC q n sb fb v 0 true) :: pre) (.tmp rfl .nil) (.inl ⟨h21', rfl, rfl⟩) ?_
      rw [show fa - 1 = 0 by omega]; exact Ent.refl _
    · skip   -- 21 F
      have h21' : fa ≠ 1 := by have := of_decide_eq_false h21; omega
      refine swp_skip ?_
      refine then_n ?_
      refine swp_sr ?_
      refine s_mv rfl ?_
      refine s_ef (ef_clo (fi := []) (args := []) (ca := ca) (R := []) (h (fa - 1)) rfl rfl Split.all) ?_
      rintro v26 L1 hk
      rw [List.append_nil]
      refine swl_sub _ .nil ?_
      refine swl_nn ?_
      refine swp_sr ?_
      refine s_as rfl ?_
      refine swl_sub _ (sc0 4 rfl .nil) ?_
      refine swl_nn ?_
      refine swp_ret ?_
      refine done_ret L1 (.tmp rfl .nil) (.inr ⟨h21', rfl, ?_⟩) (R := []) Split.all
      rw [if_pos h9']; exact hk
  · skip   -- 9 F
    have h9' : ¬ 0 < fa := by have := of_decide_eq_false h9; omega
    refine swp_skip ?_
    refine then_n ?_
    refine swp_sr ?_
    refine s_mv rfl ?_
    refine s_ef (ef_clo (fi := []) (args := []) (ca := ca) (R := []) (h fa) rfl rfl Split.all) ?_
    rintro v26 L1 hk
    rw [List.append_nil]
    refine swl_sub _ .nil ?_
    refine swl_nn ?_
    refine swp_sr ?_
    refine s_as rfl ?_
    refine swl_sub _ (sc0 4 rfl .nil) ?_
    refine swl_nn ?_
    refine swp_ret ?_
    refine done_ret L1 (.tmp rfl .nil) (.inr ⟨by omega, rfl, ?_⟩) (R := []) Split.all
    rw [if_neg h9']; exact hk
/-- a change of names, done and kept -/
theorem change_spec (p : Nat) (q : Int) (n sb fb : Nat) (w : Value) (fa : Int) (off : Bool) (es : Ents ByteArray) (cl : Nat) (ps : List Pc) (hl : ps.length ≤ 1048576) (g c : ByteArray) (o : Option Addr) :
    Spec Tryz.prog 78 [pv p, .agg (encP (g, c, .pointer o)).toArray] [blk p 81 (fsC q n sb fb w fa off), mpe sb skv es cl, own 127 3 w ps.length (ps.flatMap encP)]
      (fun _ L => ∃ w' ps', ps' = ps ++ [((g, c, Value.pointer o) : Pc)] ∧ L = [blk p 81 (fsC q n sb fb w' fa off), mpe sb skv (doE es cl (g, c, .pointer o)) (doC es cl (g, c, .pointer o)), own 127 3 w' ps'.length (ps'.flatMap encP)]) := by
  have hps : (ps ++ [((g, c, Value.pointer o) : Pc)]).flatMap encP = ps.flatMap encP ++ [.string g, .string c, .pointer o] := by rw [List.flatMap_append]; rfl
  have hpl : (ps ++ [((g, c, Value.pointer o) : Pc)]).length = ps.length + 1 := by rw [List.length_append]; rfl
  generalize ps ++ [((g, c, Value.pointer o) : Pc)] = ps' at hps hpl
  refine Spec.of 20 Tryz.func78 rfl rfl rfl ?_
  refine swp_sr ?_
  refine s_ef (ef_box rfl rfl) ?_
  intro b3
  refine swl_sub _ (sc0 0 rfl (sc0 3 rfl .nil)) ?_
  refine swl_nn ?_
  refine swp_seq ?_
  refine swp_draw [0, 4] _ [] (by simp only [List.append_nil]; exact Ent.refl _) kr0 ?_
  first | refine d_rd 0 rfl (rd_loadW rfl rfl) rfl kr0 kr0 kr0 ?_ | refine d_rd 0 rfl (rd_loadX rfl rfl rfl) rfl kr0 kr0 kr0 ?_
  refine d_pu 1 rfl (pu_move rfl) kr0 kr0 kr0 ?_
  first | refine d_pu 2 rfl (pu_nilCheck rfl) kr0 kr0 kr0 ?_ | refine d_pu 2 rfl (pu_nilCheck_fn rfl) kr0 kr0 kr0 ?_ | refine d_pu 2 rfl (pu_nilCheck_if rfl) kr0 kr0 kr0 ?_
  first | refine d_pu 3 rfl (pu_fieldAddr0 rfl) kr0 kr0 kr0 ?_ | refine d_pu 3 rfl (pu_fieldAddr rfl) kr0 kr0 kr0 ?_
  refine d_rd 4 rfl (rd_load rfl rfl) rfl kr0 kr0 kr0 ?_
  first | refine d_fint 5 rfl kr0 kr0 (ef_fn (do_spec sb cl es g c o) rfl rfl sp0) ?_ | refine d_finf 5 rfl kr0 kr0 (ef_fn (do_spec sb cl es g c o) rfl rfl sp0) ?_
  rintro v9 L1 rfl
  refine swd_app ?_
  refine d_sub _ (sc0 0 rfl (sc0 3 rfl .nil)) ?_
  first | refine d_nilt kr0 ?_ | refine d_nilf kr0 ?_
  refine then_n ?_
  refine swp_draw [4, 5] _ [] (by simp only [List.append_nil]; exact Ent.refl _) kr0 ?_
  refine d_pu 0 rfl (pu_move rfl) kr0 kr0 kr0 ?_
  refine d_pu 1 rfl (pu_move rfl) kr0 kr0 kr0 ?_
  first | refine d_pu 2 rfl (pu_nilCheck rfl) kr0 kr0 kr0 ?_ | refine d_pu 2 rfl (pu_nilCheck_fn rfl) kr0 kr0 kr0 ?_ | refine d_pu 2 rfl (pu_nilCheck_if rfl) kr0 kr0 kr0 ?_
  first | refine d_pu 3 rfl (pu_fieldAddr0 rfl) kr0 kr0 kr0 ?_ | refine d_pu 3 rfl (pu_fieldAddr rfl) kr0 kr0 kr0 ?_
  refine d_rd 4 rfl (rd_load rfl rfl) rfl kr0 kr0 kr0 ?_
  first | refine d_rd 5 rfl (rd_loadW rfl rfl) rfl kr0 kr0 kr0 ?_ | refine d_rd 5 rfl (rd_loadX rfl rfl rfl) rfl kr0 kr0 kr0 ?_
  refine d_eft 6 rfl kr0 (ef_bldS (qs := [(0, _)]) rfl rfl rfl) ?_
  intro b16
  refine ⟨_, Split.ent sp0, ?_⟩
  first | refine d_fint 7 rfl kr0 kr0 (ef_append_lit (l := ps.length) (m := 1) (news := [.string g, .string c, .pointer o]) rfl rfl sp0 (by simp only [maxLen]; omega) om0) ?_ | refine d_finf 7 rfl kr0 kr0 (ef_append_lit (l := ps.length) (m := 1) (news := [.string g, .string c, .pointer o]) rfl rfl sp0 (by simp only [maxLen]; omega) om0) ?_
  rintro w' hw'
  obtain ⟨g7, c7, rfl⟩ := hw' (by decide)
  first | refine d_pu 8 rfl (pu_nilCheck rfl) kr0 kr0 kr0 ?_ | refine d_pu 8 rfl (pu_nilCheck_fn rfl) kr0 kr0 kr0 ?_ | refine d_pu 8 rfl (pu_nilCheck_if rfl) kr0 kr0 kr0 ?_
  first | refine d_pu 9 rfl (pu_fieldAddr0 rfl) kr0 kr0 kr0 ?_ | refine d_pu 9 rfl (pu_fieldAddr rfl) kr0 kr0 kr0 ?_
  first | refine d_fin0t 10 rfl kr0 kr0 (ef_store rfl rfl rfl) ?_ | refine d_fin0f 10 rfl kr0 kr0 (ef_store rfl rfl rfl) ?_
  refine d_sub _ .nil ?_
  first | refine d_nilt kr0 ?_ | refine d_nilf kr0 ?_
  refine done_end [blk p 81 (fsC q n sb fb (.slice (some ⟨g7, 0, none⟩) (ps.length + 1) c7) fa off), mpe sb skv (doE es cl (g, c, .pointer o)) (doC es cl (g, c, .pointer o)), own 127 3 (.slice (some ⟨g7, 0, none⟩) (ps.length + 1) c7) ps'.length (ps'.flatMap encP)] .nil ⟨_, ps', rfl, rfl⟩ (by rw [hps, hpl]; exact sp0)
end SX
namespace SX
open Go Go.Proofs
abbrev fa1 (d : Dk) : Dk := { d with falls := if 0 < d.falls then d.falls - 1 else d.falls }
abbrev fa0 (d : Dk) : Dk := { d with falls := 0, off := true }
theorem stepD_1 {d : Dk} (h : d.falls = 1) : stepD d = (fa0 d, 8) := by unfold stepD; rw [if_pos om0, if_pos h]
theorem stepD_n {d : Dk} (h : d.falls ≠ 1) : stepD d = (fa1 d, 0) := by
  unfold stepD
  show _ = (({ d with falls := if 0 < d.falls then d.falls - 1 else d.falls } : Dk), (0 : Int))
  by_cases h0 : 0 < d.falls
  · rw [if_pos h0, if_neg h, if_pos h0]
  · rw [if_neg h0, if_neg h0]
theorem atStep_1 {d : Dk} (h : d.falls = 1) (f : Dk → Dk) : atStep d f = (fa0 d, 8) := by unfold atStep; rw [stepD_1 h]; rfl
theorem atStep_n {d : Dk} (h : d.falls ≠ 1) (f : Dk → Dk) : atStep d f = (f (fa1 d), 0) := by unfold atStep; rw [stepD_n h]; rfl
theorem Rep.fa {d : Dk} {x : FX} (h : Rep d x) (fl : Int) (off : Bool) : Rep { d with falls := fl, off := off } x := ⟨h.seen, h.safe, h.bs, h.bf, h.len, h.fl, h.ps⟩
theorem chg_mem {l : List Nm} {c : Cg} {y : Nm} (h : y ∈ chgN l c) : y ∈ l ∨ (strEq c.come nos = false ∧ y.2 = c.file) := by
  unfold chgN at h
  rcases List.mem_append.1 h with h | h
  · exact .inl (List.mem_filter.1 h).1
  · split at h
    · cases h
    · next k => rw [List.mem_singleton.1 h]; exact .inr ⟨by simpa using k, rfl⟩
theorem Rep.chg {d : Dk} {x : FX} (h : Rep d x) (hs : ∀ y ∈ d.seen, strEq y.1 nos = false) {p : Pc} {c : Cg} (hp : PcRel x.rs p c) (hc : strEq c.come nos = false → ∃ r, x.rs[c.file]? = some r ∧ r.f = d.fl c.file) :
    Rep (d.chg c) { x with es := doE x.es x.cs p, cs := doC x.es x.cs p, ps := x.ps ++ [p] } := by
  refine ⟨doE_rel h.seen hs hp fun k => ?_, h.safe, doE_born h.bs p, h.bf, h.len, fun k hk => ?_, ?_, fun i q e hq he => ?_⟩
  · obtain ⟨r, hr, _⟩ := hc k; exact (List.getElem?_eq_some_iff.1 hr).1
  · have key : live d k ∨ (strEq c.come nos = false ∧ c.file = k) := by
      rcases hk with ⟨y, hy, e⟩ | hk | ⟨e, he, k1, k2⟩
      · rcases chg_mem hy with hy | ⟨k1, k2⟩
        · exact .inl (.inl ⟨y, hy, e⟩)
        · exact .inr ⟨k1, by rw [← k2, e]⟩
      · exact .inl (.inr (.inl hk))
      · rcases List.mem_append.1 he with he | he
        · exact .inl (.inr (.inr ⟨e, he, k1, k2⟩))
        · rw [List.mem_singleton.1 he] at k1 k2; exact .inr ⟨k1, k2⟩
    rcases key with key | ⟨k1, k2⟩
    · exact h.fl k key
    · rw [← k2]; exact hc k1
  · show (x.ps ++ [p]).length = (d.pend ++ [c]).length
    rw [List.length_append, List.length_append, h.ps.1]; rfl
  · have hq' : (x.ps ++ [p])[i]? = some q := hq
    have he' : (d.pend ++ [c])[i]? = some e := he
    by_cases hi : i < x.ps.length
    · rw [List.getElem?_append_left hi] at hq'
      rw [List.getElem?_append_left (by rw [← h.ps.1]; exact hi)] at he'
      exact h.ps.2 i q e hq' he'
    · have hi2 : i = x.ps.length := by
        have := (List.getElem?_eq_some_iff.1 hq').1
        rw [List.length_append] at this; simp at this; omega
      subst hi2
      rw [List.getElem?_append_right (Nat.le_refl _), Nat.sub_self] at hq'
      rw [h.ps.1, List.getElem?_append_right (Nat.le_refl _), Nat.sub_self] at he'
      simp at hq' he'
      rw [← hq', ← he']; exact hp
theorem fl_setF {d : Dk} {k : Nat} (f : Fl) (hk : k < d.files.length) (j : Nat) : (d.setF k f).fl j = if j = k then f else d.fl j := by
  unfold Dk.fl Dk.setF
  by_cases e : j = k
  · subst e; rw [if_pos rfl]; simp [hk]
  · rw [if_neg e]; simp [Ne.symm e]
theorem Rep.set {d : Dk} {x : FX} (h : Rep d x) {k : Nat} {r r' : Rc} (hr : x.rs[k]? = some r) (ha : r'.a = r.a) : Rep (d.setF k r'.f) { x with rs := x.rs.set k r' } := by
  have hk : k < d.files.length := by rw [← h.len]; exact (List.getElem?_eq_some_iff.1 hr).1
  refine ⟨h.seen.to fun y _ => adr_set hr ha _, h.safe.to fun y _ => adr_set hr ha _, h.bs, h.bf, ?_, fun j hj => ?_, h.ps.1, fun i p c hp hc => ?_⟩
  · show (x.rs.set k r').length = (d.files.set k r'.f).length
    rw [List.length_set, List.length_set, h.len]
  · rw [fl_setF _ hk]
    by_cases e : j = k
    · subst e; exact ⟨r', List.getElem?_set_self (List.getElem?_eq_some_iff.1 hr).1, by rw [if_pos rfl]⟩
    · obtain ⟨r2, h1, h2⟩ := h.fl j hj
      exact ⟨r2, by show (x.rs.set k r')[j]? = _; rw [List.getElem?_set_ne (Ne.symm e)]; exact h1, by rw [if_neg e]; exact h2⟩
  · obtain ⟨k1, k2, k3⟩ := h.ps.2 i p c hp hc
    refine ⟨k1, k2, ?_⟩
    rw [k3]
    split
    · rfl
    · exact (adr_set hr ha _).symm
/-- a new file -/
abbrev newF (d : Dk) : Dk := { d with files := d.files ++ [⟨[], 0⟩] }
theorem Rep.new {d : Dk} {x : FX} (h : Rep d x) (hd : d.Ok) (r : Rc) : Rep (newF d) { x with rs := x.rs ++ [r] } := by
  have hp : ∀ c ∈ d.pend, strEq c.come nos = false → c.file < x.rs.length := fun c hc he => by rw [h.len]; exact (hd.pend c hc he).2
  refine ⟨h.seen.to fun y hy => adr_app (by rw [h.len]; exact (hd.seenOk.good y hy).2) r, h.safe.to fun y hy => adr_app (by rw [h.len]; exact (hd.safe.good y hy).2) r, h.bs, h.bf, ?_, fun j hj => ?_, h.ps.1, fun i p c hp' hc => ?_⟩
  · show (x.rs ++ [r]).length = (d.files ++ ([⟨[], 0⟩] : List Fl)).length
    rw [List.length_append, List.length_append, h.len]; rfl
  · obtain ⟨r2, h1, h2⟩ := h.fl j hj
    have hlt := (List.getElem?_eq_some_iff.1 h1).1
    refine ⟨r2, by show (x.rs ++ [r])[j]? = _; rw [List.getElem?_append_left hlt]; exact h1, ?_⟩
    rw [h2]
    unfold Dk.fl newF
    rw [List.getElem?_append_left (by rw [← h.len]; exact hlt)]
  · obtain ⟨k1, k2, k3⟩ := h.ps.2 i p c hp' hc
    refine ⟨k1, k2, ?_⟩
    rw [k3]
    split
    · rfl
    · next k => exact (adr_app (hp c (List.mem_of_getElem? hc) (by simpa using k)) r).symm
theorem Rep.find {d : Dk} {x : FX} (h : Rep d x) {s : ByteArray} {k : Nat} (hf : findN d.seen s = some k) : ∃ r, x.rs[k]? = some r ∧ r.f = d.fl k ∧ adr x.rs k = pv r.a := by
  obtain ⟨r, h1, h2⟩ := h.fl k (.inl ⟨_, findN_mem hf, rfl⟩)
  exact ⟨r, h1, h2, adr_at h1⟩
theorem Dk.Ok.fa {d : Dk} (h : d.Ok) {fl : Int} (hf : 0 ≤ fl ∧ fl ≤ 9223372036854775807) (off : Bool) : Dk.Ok { d with falls := fl, off := off } := ⟨h.q, h.fl, h.safe, h.pend, h.seen, h.hist, hf⟩
theorem Dk.Ok.fa1 {d : Dk} (h : d.Ok) : (fa1 d).Ok := h.fa (by have := h.falls; split <;> omega) d.off
theorem recs_new0 {rs : List Rc} {a n : Nat} (hn : n = rs.length) {L : List Assn} : Ent (blk a 118 [.int .i64 (n : Nat), .slice none 0 0, .int .i64 0] :: recsA rs :: L) (recsA (rs ++ [⟨a, .slice none 0 0, ⟨[], 0⟩⟩]) :: L) := by
  subst hn
  exact (own_nil_ent (e := 5) (n := 1)).trans (Ent.swap.trans (recs_new (r := ⟨a, .slice none 0 0, ⟨[], 0⟩⟩) (Nat.le_refl _)))
theorem Dk.Ok.names {d : Dk} (h : d.Ok) : ∀ y ∈ d.seen, strEq y.1 nos = false := fun y hy => goodN_ne (h.seenOk.good y hy).1
end SX
namespace SX
open Go Go.Proofs
/-- Create's step -/
theorem create1_spec (p d0 s0 : Nat) (q : Int) (n sb fb : Nat) (w : Value) (fa : Int) (off : Bool) (es : Ents ByteArray) (cl : Nat) (ps : List Pc) (hl : ps.length ≤ 1048576) (hn : n ≤ 1048576) (s : ByteArray) :
    Spec Tryz.prog 77 [pv d0, pv s0] [blk p 81 (fsC q n sb fb w fa off), blk d0 27 [pv p], blk s0 9 [.string s], mpe sb skv es cl, own 127 3 w ps.length (ps.flatMap encP)]
      (fun _ L => ∃ a w' ps', ps' = ps ++ [((s, s, pv a) : Pc)] ∧ L = [blk p 81 (fsC q (n + 1) sb fb w' fa off), mpe sb skv (doE es cl (s, s, pv a)) (doC es cl (s, s, pv a)), own 127 3 w' ps'.length (ps'.flatMap encP), blk a 118 [.int .i64 (n : Nat), .slice none 0 0, .int .i64 0]]) := by
  refine Spec.of 20 Tryz.func77 rfl rfl rfl ?_
  refine swp_seq ?_
  refine swp_draw [0, 1, 2, 3, 6] _ [] (by simp only [List.append_nil]; exact Ent.refl _) kr0 ?_
  refine d_rd 0 rfl (rd_load rfl rfl) rfl kr0 kr0 kr0 ?_
  refine d_rd 1 rfl (rd_load rfl rfl) rfl kr0 kr0 kr0 ?_
  refine d_rd 2 rfl (rd_load rfl rfl) rfl kr0 kr0 kr0 ?_
  refine d_rd 3 rfl (rd_load rfl rfl) rfl kr0 kr0 kr0 ?_
  first | refine d_pu 4 rfl (pu_nilCheck rfl) kr0 kr0 kr0 ?_ | refine d_pu 4 rfl (pu_nilCheck_fn rfl) kr0 kr0 kr0 ?_ | refine d_pu 4 rfl (pu_nilCheck_if rfl) kr0 kr0 kr0 ?_
  first | refine d_pu 5 rfl (pu_fieldAddr0 rfl) kr0 kr0 kr0 ?_ | refine d_pu 5 rfl (pu_fieldAddr rfl) kr0 kr0 kr0 ?_
  refine d_rd 6 rfl (rd_load rfl rfl) rfl kr0 kr0 kr0 ?_
  refine d_pu 7 rfl (pu_bld (qs := [(0, _)]) rfl) kr0 kr0 kr0 ?_
  refine d_eft 8 rfl kr0 (ef_box rfl rfl) ?_
  intro b10
  refine ⟨_, Split.ent sp0, ?_⟩
  refine d_pu 9 rfl (pu_bld (qs := [(0, _), (1, _), (2, _)]) rfl) kr0 kr0 kr0 ?_
  first | refine d_fint 10 rfl kr0 kr0 (ef_fn (change_spec p q n sb fb w fa off es cl ps hl s s (some ⟨b10, 0, none⟩)) rfl rfl sp0) ?_ | refine d_finf 10 rfl kr0 kr0 (ef_fn (change_spec p q n sb fb w fa off es cl ps hl s s (some ⟨b10, 0, none⟩)) rfl rfl sp0) ?_
  rintro v12 L1 ⟨w', ps', hps', rfl⟩
  refine swd_app ?_
  refine d_sub _ (sc0 0 rfl .nil) ?_
  first | refine d_nilt kr0 ?_ | refine d_nilf kr0 ?_
  refine then_n ?_
  refine swp_region ?_
  refine s_rd (rd_load rfl rfl) ?_
  first | refine s_pu (pu_nilCheck rfl) ?_ | refine s_pu (pu_nilCheck_fn rfl) ?_ | refine s_pu (pu_nilCheck_if rfl) ?_
  first | refine s_pu (pu_fieldAddr0 rfl) ?_ | refine s_pu (pu_fieldAddr rfl) ?_
  refine s_rd (rd_load rfl rfl) ?_
  refine s_pu (pu_add_as ((n + 1 : Nat) : Int) rfl rfl om0 om0 om0) ?_
  first | refine s_pu (pu_nilCheck rfl) ?_ | refine s_pu (pu_nilCheck_fn rfl) ?_ | refine s_pu (pu_nilCheck_if rfl) ?_
  first | refine s_pu (pu_fieldAddr0 rfl) ?_ | refine s_pu (pu_fieldAddr rfl) ?_
  refine s_ef0 (ef_store rfl rfl rfl) ?_
  refine swl_sub _ .nil ?_
  refine swl_nil ?_
  exact done_end [blk p 81 (fsC q (n + 1) sb fb w' fa off), mpe sb skv (doE es cl (s, s, pv b10)) (doC es cl (s, s, pv b10)), own 127 3 w' ps'.length (ps'.flatMap encP), blk b10 118 [.int .i64 (n : Nat), .slice none 0 0, .int .i64 0]] .nil ⟨b10, w', ps', hps', rfl⟩ sp0
theorem find_cases {rs : List Rc} {d : Dk} {s : ByteArray} {v : Value} {e : Int} (h : findV rs d s = (v, e)) :
    (e = 8 ∧ d.off = true) ∨ (e = 6 ∧ d.off = false ∧ findN d.seen s = none) ∨ (e = 0 ∧ d.off = false ∧ ∃ k, findN d.seen s = some k ∧ v = adr rs k) := by
  unfold findV at h
  by_cases ho : d.off = true
  · rw [if_pos ho] at h; exact .inl ⟨(Prod.mk.inj h).2.symm, ho⟩
  · rw [if_neg ho] at h
    have ho' : d.off = false := by simpa using ho
    cases hf : findN d.seen s with
    | none => rw [hf] at h; exact .inr (.inl ⟨(Prod.mk.inj h).2.symm, ho', rfl⟩)
    | some k => rw [hf] at h; exact .inr (.inr ⟨(Prod.mk.inj h).2.symm, ho', k, rfl, (Prod.mk.inj h).1.symm⟩)
theorem find_spec' {p : Nat} {d : Dk} {x : FX} (hx : Rep d x) {s : ByteArray} {v : Value} {e : Int} (hve : findV x.rs d s = (v, e)) : Spec Tryz.prog 69 [pv p, .string s] [fsH p d x, mpe x.sb skv x.es x.cs] (fun r L => r = .tuple #[v, .int .i64 e] ∧ L = [fsH p d x, mpe x.sb skv x.es x.cs]) := by
  have := find_spec p d x hx s
  rw [hve] at this; exact this
/-- few calls -/
def Few (d : Dk) : Prop := d.files.length ≤ 1000000 ∧ d.pend.length ≤ 1000000
set_option maxHeartbeats 8000000 in
theorem create_spec (p : Nat) (d : Dk) (hd : d.Ok) (hw : Few d) (s : ByteArray) : Spec Tryz.prog 37 [pv p, .string s] [FSA p d] (fun r L => r = .int .i64 (createD d s).2 ∧ L = [FSA p (createD d s).1]) := by
  refine FSA.open' fun x hx => ?_
  obtain ⟨v, e, hve⟩ : ∃ v e, findV x.rs d s = (v, e) := ⟨_, _, rfl⟩
  have hfs := find_spec' (p := p) hx hve
  have hcs := find_cases hve
  have hsl := hx.seen.len hd.seenOk.nodup
  refine Spec.of 39 Tryz.func37 rfl rfl rfl ?_
  refine swp_sr ?_
  refine s_ef (ef_box rfl rfl) ?_
  intro b2
  refine s_ef (ef_box rfl rfl) ?_
  intro b3
  refine s_as rfl ?_
  refine swl_sub _ (sc0 2 rfl (sc0 3 rfl .nil)) ?_
  refine swl_nn ?_
  refine swp_sr ?_
  refine s_rd (rd_load rfl rfl) ?_
  refine s_rd (rd_load rfl rfl) ?_
  refine s_ef (ef_fn hfs rfl rfl sp0) ?_
  rintro v10 L1 ⟨rfl, rfl⟩
  refine swl_app ?_
  refine s_mv rfl ?_
  first | refine s_pu (pu_extractL rfl) ?_ | refine s_pu (pu_extract rfl rfl) ?_
  first | refine s_pu (pu_extractL rfl) ?_ | refine s_pu (pu_extract rfl rfl) ?_
  refine s_as rfl ?_
  refine s_as rfl ?_
  refine swl_sub _ (sc0 2 rfl (sc0 3 rfl (sc0 6 rfl .nil))) ?_
  refine swl_nn ?_
  refine swp_cut (fun env L => Sub env [(2, pv b2), (3, pv b3)] ∧ Ent L [blk b2 27 [pv p], blk b3 9 [.string s], fsH p d x, mpe x.sb skv x.es x.cs, mpe x.fb skv x.ef x.cf, own 127 3 x.pv x.ps.length (x.ps.flatMap encP), recsA x.rs] ∧ d.off = false ∧ goodN s = true ∧ ¬ ((findN d.seen s).isNone = true ∧ 64 ≤ d.seen.length)) ?_ ?_
  · skip
    refine swp_block ?_
    refine swp_sr ?_
    refine s_mv rfl ?_
    refine s_pu (pu_eql rfl rfl) ?_
    refine s_mv rfl ?_
    refine s_split 16 rfl (fun h16 => by simp only [decide_eq_true_eq] at h16; omega) (fun h16 => ?_)
    refine s_on rfl rfl ?_
    refine s_mv rfl ?_
    refine s_on rfl rfl ?_
    refine s_pu (pu_eql rfl rfl) ?_
    first | refine s_pu (pu_pick_t rfl rfl) ?_ | refine s_pu (pu_pick_f rfl rfl) ?_
    refine s_as rfl ?_
    refine swl_sub _ (sc0 2 rfl (sc0 3 rfl (sc0 6 rfl (sc0 13 rfl .nil)))) ?_
    refine swl_nn ?_
    refine swp_cond (b := _) rfl (fun h13 => ?_) (fun h13 => ?_)
    · skip   -- 13 T
      refine swp_sr ?_
      refine s_mv rfl ?_
      refine s_as rfl ?_
      refine swl_sub _ (sc0 4 rfl .nil) ?_
      refine swl_nn ?_
      refine swp_ret ?_
      refine block_r ?_
      refine then_r ?_
      have h13' := of_decide_eq_true h13
      have hoff : d.off = true := by rcases hcs with ⟨_, h⟩ | ⟨h, _⟩ | ⟨h, _⟩ <;> first | exact h | omega
      have key : createD d s = (d, 8) := by unfold createD; rw [if_pos hoff]
      rw [key, h13']
      exact done_retE [FSA p d] (.tmp rfl .nil) ⟨rfl, rfl⟩ ((Split.ent' (K := [fsH p d x, mpe x.sb skv x.es x.cs, mpe x.fb skv x.ef x.cf, own 127 3 x.pv x.ps.length (x.ps.flatMap encP), recsA x.rs]) sp0).trans (fs_close hx))
    · skip   -- 13 F
      have h13' := of_decide_eq_false h13
      have hoff : d.off = false := by rcases hcs with ⟨h, _⟩ | ⟨_, h, _⟩ | ⟨_, h, _⟩ <;> first | exact h | omega
      refine swp_sr ?_
      refine s_rd (rd_load rfl rfl) ?_
      refine s_ef (ef_fn (named_spec s) rfl rfl sp0) ?_
      rintro v23 L1 ⟨rfl, rfl⟩
      refine swl_app ?_
      refine s_pu (pu_not rfl) ?_
      refine s_as rfl ?_
      refine swl_sub _ (sc0 2 rfl (sc0 3 rfl (sc0 6 rfl (sc0 21 rfl .nil)))) ?_
      refine swl_nn ?_
      refine swp_cond (b := _) rfl (fun h21 => ?_) (fun h21 => ?_)
      · skip   -- 21 T
        refine swp_sr ?_
        refine s_as rfl ?_
        refine swl_sub _ (sc0 4 rfl .nil) ?_
        refine swl_nn ?_
        refine swp_ret ?_
        refine block_r ?_
        refine then_r ?_
        have key : createD d s = (d, 1) := by unfold createD; rw [if_neg (by rw [hoff]; decide), if_pos (by simpa using h21)]
        rw [key]
        exact done_retE [FSA p d] (.tmp rfl .nil) ⟨rfl, rfl⟩ ((Split.ent' (K := [fsH p d x, mpe x.sb skv x.es x.cs, mpe x.fb skv x.ef x.cf, own 127 3 x.pv x.ps.length (x.ps.flatMap encP), recsA x.rs]) sp0).trans (fs_close hx))
      · skip   -- 21 F
        refine swp_sr ?_
        refine s_mv rfl ?_
        refine s_pu (pu_eql rfl rfl) ?_
        refine s_mv rfl ?_
        refine s_split 28 rfl (fun h28 => ?_) (fun h28 => ?_)
        · skip   -- 28 T
          refine s_on rfl rfl ?_
          refine s_rd (rd_load rfl rfl) ?_
          refine s_on rfl rfl ?_
          first | refine s_pu (pu_nilCheck rfl) ?_ | refine s_pu (pu_nilCheck_fn rfl) ?_ | refine s_pu (pu_nilCheck_if rfl) ?_
          refine s_on rfl rfl ?_
          first | refine s_pu (pu_fieldAddr0 rfl) ?_ | refine s_pu (pu_fieldAddr rfl) ?_
          refine s_on rfl rfl ?_
          refine s_rd (rd_load rfl rfl) ?_
          refine s_on rfl rfl ?_
          refine s_rd (rd_maplen (κ := ByteArray) rfl) ?_
          refine s_on rfl rfl ?_
          refine s_pu (pu_geq rfl rfl) ?_
          first | refine s_pu (pu_pick_t rfl rfl) ?_ | refine s_pu (pu_pick_f rfl rfl) ?_
          refine s_as rfl ?_
          refine swl_sub _ (sc0 2 rfl (sc0 3 rfl (sc0 25 rfl .nil))) ?_
          refine swl_nn ?_
          refine swp_cond (b := _) rfl (fun h25 => ?_) (fun h25 => ?_)
          · skip   -- 25 T
            refine swp_sr ?_
            refine s_as rfl ?_
            refine swl_sub _ (sc0 4 rfl .nil) ?_
            refine swl_nn ?_
            refine swp_ret ?_
            refine block_r ?_
            refine then_r ?_
            have h28' := of_decide_eq_true h28
            have h25' := of_decide_eq_true h25
            have hno : findN d.seen s = none := by rcases hcs with ⟨h, _⟩ | ⟨_, _, h⟩ | ⟨h, _⟩ <;> first | exact h | omega
            have key : createD d s = (d, 7) := by unfold createD; rw [if_neg (by rw [hoff]; decide), if_neg (by simpa using h21), if_pos ⟨by rw [hno]; rfl, by omega⟩]
            rw [key]
            exact done_retE [FSA p d] (.tmp rfl .nil) ⟨rfl, rfl⟩ ((Split.ent' (K := [fsH p d x, mpe x.sb skv x.es x.cs, mpe x.fb skv x.ef x.cf, own 127 3 x.pv x.ps.length (x.ps.flatMap encP), recsA x.rs]) sp0).trans (fs_close hx))
          · skip   -- 25 F
            refine swp_skip ?_
            refine block_n ?_
            refine then_n ⟨⟨rfl, rfl, trivial⟩, Split.ent' sp0, hoff, by simpa using h21, ?_⟩
            first
              | (rintro ⟨h1, h2⟩; have h3 := of_decide_eq_false h25; omega)
              | (rintro ⟨h1, h2⟩
                 have h28' := of_decide_eq_false h28
                 rcases hcs with ⟨k1, k2⟩ | ⟨k1, k2, k3⟩ | ⟨k1, k2, k, k3, k4⟩
                 · rw [hoff] at k2; cases k2
                 · omega
                 · rw [k3] at h1; cases h1)
        · skip   -- 28 F
          refine s_off rfl rfl rfl ?_
          refine s_off rfl rfl rfl ?_
          refine s_off rfl rfl rfl ?_
          refine s_off rfl rfl rfl ?_
          refine s_off rfl rfl rfl ?_
          refine s_off rfl rfl rfl ?_
          first | refine s_pu (pu_pick_t rfl rfl) ?_ | refine s_pu (pu_pick_f rfl rfl) ?_
          refine s_as rfl ?_
          refine swl_sub _ (sc0 2 rfl (sc0 3 rfl (sc0 25 rfl .nil))) ?_
          refine swl_nn ?_
          refine swp_cond (b := _) rfl (fun h25 => by cases h25) (fun h25 => ?_)
          refine swp_skip ?_
          refine block_n ?_
          refine then_n ⟨⟨rfl, rfl, trivial⟩, Split.ent' sp0, hoff, by simpa using h21, ?_⟩
          first
            | (rintro ⟨h1, h2⟩; have h3 := of_decide_eq_false h25; omega)
            | (rintro ⟨h1, h2⟩
               have h28' := of_decide_eq_false h28
               rcases hcs with ⟨k1, k2⟩ | ⟨k1, k2, k3⟩ | ⟨k1, k2, k, k3, k4⟩
               · rw [hoff] at k2; cases k2
               · omega
               · rw [k3] at h1; cases h1)
  rintro env L ⟨hsub, hE, h1, h2, h3⟩
  refine swp_sub _ hsub ?_
  refine swp_ent hE ?_
  clear hsub hE env L
  refine swp_sr ?_
  refine s_rd (rd_load rfl rfl) ?_
  refine s_pu (pu_func (vs := []) (us := [_, _]) rfl rfl) ?_
  refine s_ef (ef_fn (step_spec (f := 77) (ca := [pv b2, pv b3]) (pre := [blk b2 27 [pv p], blk b3 9 [.string s], mpe x.sb skv x.es x.cs, own 127 3 x.pv x.ps.length (x.ps.flatMap encP)]) p d.quota x.rs.length x.sb x.fb x.pv d.falls d.off hd.falls (fun fa' => create1_spec p b2 b3 d.quota x.rs.length x.sb x.fb x.pv fa' d.off x.es x.cs x.ps (by rw [hx.ps.1]; have := hw.2; omega) (by rw [hx.len]; have := hw.1; omega) s)) rfl rfl sp0) ?_
  rintro v38 L1 hk
  skip
  refine s_as rfl ?_
  refine swl_sub _ (sc0 4 rfl .nil) ?_
  refine swl_nn ?_
  refine swp_ret ?_
  rcases hk with ⟨hf1, rfl, rfl⟩ | ⟨hfn, rfl, a, w', ps', hps, rfl⟩
  · have key : createD d s = (fa0 d, 8) := by unfold createD; rw [if_neg (by rw [h1]; decide), if_neg (by rw [h2]; decide), if_neg h3]; exact atStep_1 hf1 _
    rw [key]
    refine done_retE [FSA p (fa0 d)] (.tmp rfl .nil) ⟨rfl, rfl⟩ ?_
    simp only [List.cons_append, List.nil_append]
    exact ((Split.ent' (K := [fsH p (fa0 d) x, mpe x.sb skv x.es x.cs, mpe x.fb skv x.ef x.cf, own 127 3 x.pv x.ps.length (x.ps.flatMap encP), recsA x.rs]) sp0).trans (fs_close (d := fa0 d) (hx.fa _ _)))
  · have key : createD d s = ((newF (fa1 d)).chg ⟨nos, s, d.files.length⟩, 0) := by unfold createD; rw [if_neg (by rw [h1]; decide), if_neg (by rw [h2]; decide), if_neg h3]; exact atStep_n hfn _
    have hl := hx.len
    have hr := (hx.fa (fa1 d).falls d.off).new hd.fa1 ⟨a, .slice none 0 0, ⟨[], 0⟩⟩
    have hr2 := hr.chg (d := newF (fa1 d)) hd.names (p := (s, s, pv a)) (c := ⟨nos, s, d.files.length⟩) ⟨rfl, .inr ⟨rfl, rfl⟩, by show _ = if strEq s nos = true then _ else adr (x.rs ++ [_]) d.files.length; rw [if_neg (by rw [goodN_ne h2]; decide), ← hl, adr_new]⟩
      (fun _ => ⟨⟨a, .slice none 0 0, ⟨[], 0⟩⟩, by show (x.rs ++ [_])[d.files.length]? = _; rw [← hl]; simp, by unfold Dk.fl; simp⟩)
    rw [key]
    refine done_retE [FSA p ((newF (fa1 d)).chg ⟨nos, s, d.files.length⟩)] (.tmp rfl .nil) ⟨rfl, rfl⟩ ?_
    simp only [List.cons_append, List.nil_append]
    refine Ent.trans (Split.ent' (K := [blk a 118 [.int .i64 (x.rs.length : Nat), .slice none 0 0, .int .i64 0], recsA x.rs, blk p 81 (fsC d.quota (x.rs.length + 1) x.sb x.fb w' (if 0 < d.falls then d.falls - 1 else d.falls) d.off), mpe x.sb skv (doE x.es x.cs (s, s, pv a)) (doC x.es x.cs (s, s, pv a)), mpe x.fb skv x.ef x.cf, own 127 3 w' ps'.length (ps'.flatMap encP)]) sp0) ?_
    refine (recs_new0 rfl).trans ?_
    rw [show x.rs.length + 1 = (x.rs ++ [(⟨a, .slice none 0 0, ⟨[], 0⟩⟩ : Rc)]).length by simp, hps]
    refine Ent.trans (Split.ent' (K := [blk p 81 (fsC d.quota (x.rs ++ [(⟨a, .slice none 0 0, ⟨[], 0⟩⟩ : Rc)]).length x.sb x.fb w' (if 0 < d.falls then d.falls - 1 else d.falls) d.off), mpe x.sb skv (doE x.es x.cs (s, s, pv a)) (doC x.es x.cs (s, s, pv a)), mpe x.fb skv x.ef x.cf, own 127 3 w' (x.ps ++ [(s, s, pv a)]).length ((x.ps ++ [(s, s, pv a)]).flatMap encP), recsA (x.rs ++ [(⟨a, .slice none 0 0, ⟨[], 0⟩⟩ : Rc)])]) sp0) ?_
    exact fs_close (d := (newF (fa1 d)).chg ⟨nos, s, d.files.length⟩) (x := { sb := x.sb, fb := x.fb, es := doE x.es x.cs (s, s, pv a), cs := doC x.es x.cs (s, s, pv a), ef := x.ef, cf := x.cf, rs := x.rs ++ [⟨a, .slice none 0 0, ⟨[], 0⟩⟩], ps := x.ps ++ [(s, s, pv a)], pv := w' }) ⟨hr2.seen, hr2.safe, hr2.bs, hr2.bf, hr2.len, hr2.fl, hr2.ps⟩
end SX
namespace SX
open Go Go.Proofs
theorem recs_back {rs : List Rc} {i : Nat} {r : Rc} (h : rs[i]? = some r) (hg : r.f.safe ≤ r.f.bytes.length) {L : List Assn} : Ent (recG i r ++ holeA rs i :: L) (recsA rs :: L) := by
  have e : rs.set i r = rs := by
    have := (List.getElem?_eq_some_iff.1 h)
    rw [← this.2]; exact List.set_getElem_self this.1
  have := recs_close (rs := rs) (i := i) (r := r) (L := L) (List.getElem?_eq_some_iff.1 h).1 hg
  rwa [e] at this
theorem recs_open' {rs : List Rc} {i : Nat} {r : Rc} (h : rs[i]? = some r) (hg : r.f.safe ≤ r.f.bytes.length) {L : List Assn} : Ent (recsA rs :: L) (own 5 1 r.v r.f.bytes.length (bcs r.f.bytes) :: blk r.a 118 [.int .i64 (i : Nat), r.v, .int .i64 (r.f.safe : Nat)] :: holeA rs i :: L) :=
  (recs_open h hg).trans Ent.swap
theorem recs_close' {rs : List Rc} {i : Nat} (r : Rc) (h : i < rs.length) (hg : r.f.safe ≤ r.f.bytes.length) {L : List Assn} : Ent (own 5 1 r.v r.f.bytes.length (bcs r.f.bytes) :: blk r.a 118 [.int .i64 (i : Nat), r.v, .int .i64 (r.f.safe : Nat)] :: holeA rs i :: L) (recsA (rs.set i r) :: L) :=
  Ent.swap.trans (recs_close (r := r) h hg)
theorem recs_back' {rs : List Rc} {i : Nat} {r : Rc} (h : rs[i]? = some r) (hg : r.f.safe ≤ r.f.bytes.length) {L : List Assn} : Ent (own 5 1 r.v r.f.bytes.length (bcs r.f.bytes) :: blk r.a 118 [.int .i64 (i : Nat), r.v, .int .i64 (r.f.safe : Nat)] :: holeA rs i :: L) (recsA rs :: L) :=
  Ent.swap.trans (recs_back h hg)
/-- how long the file of a name is -/
def lenN (d : Dk) (s : ByteArray) : Nat := ((findN d.seen s).map fun k => (d.fl k).bytes.length).getD 0
theorem names_perm {es : Ents ByteArray} {l : List Nm} {rs : List Rc} (h : NmRel es l rs) (hn : (l.map (·.1)).Nodup) : (es.map (·.1)).Perm (l.map (·.1)) := by
  have := (h.perm hn).map (·.1)
  rwa [List.map_map, List.map_map] at this
theorem used_sum {d : Dk} (hd : d.Ok) {es : Ents ByteArray} {rs : List Rc} (h : NmRel es d.seen rs) : (es.map fun x => lenN d x.1).sum = d.used := by
  have h1 : (es.map fun x => lenN d x.1) = (es.map (·.1)).map (lenN d) := by rw [List.map_map]; rfl
  have h2 : d.used = ((d.seen.map (·.1)).map (lenN d)).sum := by
    unfold Dk.used
    rw [List.map_map]
    congr 1
    refine List.map_congr_left fun x hx => ?_
    show _ = lenN d x.1
    unfold lenN
    rw [findN_of hd.seenOk.nodup hx]; rfl
  rw [h1, h2]
  exact ((names_perm h hd.seenOk.nodup).map _).sum_nat
theorem lenN_le {d : Dk} (hd : d.Ok) (s : ByteArray) : lenN d s ≤ mostF := by
  unfold lenN
  cases findN d.seen s with
  | none => exact Nat.zero_le _
  | some k => exact (Dk.fl_ok hd k).1
/-- a file that a name's entry tells -/
theorem Rep.at {d : Dk} {x : FX} (h : Rep d x) {y : ByteArray × Value × Nat} (hy : y ∈ x.es) : ∃ k r, findN d.seen y.1 = some k ∧ x.rs[k]? = some r ∧ r.f = d.fl k ∧ y.2.1 = pv r.a := by
  have h1 := mlook_of h.seen.keys hy
  rw [h.seen.look] at h1
  obtain ⟨k, hk, hv⟩ := Option.map_eq_some_iff.1 h1
  obtain ⟨r, hr, hf, ha⟩ := h.find hk
  exact ⟨k, r, hk, hr, hf, by rw [← hv, ha]⟩
set_option maxHeartbeats 2000000 in
theorem used_spec (p : Nat) (d : Dk) (hd : d.Ok) (x : FX) (hx : Rep d x) : Spec Tryz.prog 70 [pv p] [fsH p d x, mpe x.sb skv x.es x.cs, recsA x.rs] (fun r L => r = .int .i64 (d.used : Nat) ∧ L = [fsH p d x, mpe x.sb skv x.es x.cs, recsA x.rs]) := by
  have hel := hx.seen.len hd.seenOk.nodup
  have hsl := hd.seenLe
  refine Spec.of 25 Tryz.func70 rfl rfl rfl ?_
  refine swp_sr ?_
  refine s_as rfl ?_
  refine swl_sub _ (sc0 0 rfl .nil) ?_
  refine swl_nn ?_
  refine swp_sr ?_
  refine s_as rfl ?_
  refine swl_sub _ (sc0 0 rfl (sc0 3 rfl .nil)) ?_
  refine swl_nn ?_
  refine swp_seq ?_
  refine swp_sr ?_
  refine s_mv rfl ?_
  refine s_pu (pu_ptr_ne_nil rfl rfl) ?_
  refine swl_sub _ (sc0 0 rfl (sc0 3 rfl (sc0 7 rfl .nil))) ?_
  refine swl_nn ?_
  refine swp_cond (b := _) rfl (fun h7 => ?_) (fun h7 => by cases h7)
  refine swp_sr ?_
  refine s_mv rfl ?_
  first | refine s_pu (pu_nilCheck rfl) ?_ | refine s_pu (pu_nilCheck_fn rfl) ?_ | refine s_pu (pu_nilCheck_if rfl) ?_
  first | refine s_pu (pu_fieldAddr0 rfl) ?_ | refine s_pu (pu_fieldAddr rfl) ?_
  refine s_rd (rd_load rfl rfl) ?_
  refine s_ef (ef_range (κ := ByteArray) rfl) ?_
  rintro it
  skip
  refine swl_sub _ (sc0 3 rfl (sc0 12 rfl .nil)) ?_
  refine swl_nn ?_
  refine swp_block ?_
  refine swp_ent (Split.ent' (K := [itA it x.sb x.cs [] x.cs, mpe x.sb skv x.es x.cs, fsH p d x, recsA x.rs]) sp0) ?_
  refine swp_loop (ι := Ents ByteArray × Ents ByteArray) (fun k env L => Sub env [(3, .int .i64 ((k.1.map fun y => lenN d y.1).sum : Nat)), (12, pv it)] ∧ Ent L [itA it x.sb x.cs (k.1.map (·.2.2)) x.cs, mpe x.sb skv x.es x.cs, fsH p d x, recsA x.rs] ∧ Going x.es k.1 k.2) (fun k => k.2.length) ([], x.es) ⟨⟨rfl, rfl, trivial⟩, Ent.refl _, Going.start _⟩ ?_
  rintro ⟨dn, td⟩ env L ⟨hsub, hE, hgo⟩
  dsimp only at hsub hE hgo
  refine swp_sub _ hsub ?_
  refine swp_ent hE ?_
  clear hsub hE env L
  refine swp_sr ?_
  refine s_ef (ef_next (κ := ByteArray) rfl sp0 hx.bs.1 (Nat.le_refl _)) ?_
  refine ⟨fun hall => ?_, fun y hy hns => ?_⟩
  · skip
    first | refine s_pu (pu_extractL rfl) ?_ | refine s_pu (pu_extract rfl rfl) ?_
    refine swl_sub _ (sc0 3 rfl (sc0 12 rfl (sc0 14 rfl .nil))) ?_
    refine swl_nn ?_
    refine swp_seq ?_
    refine swp_cond (b := _) rfl (fun h14 => by cases h14) (fun h14 => ?_)
    have htd := hgo.stop hx.bs hall
    rw [htd] at hgo
    have hsum : (dn.map fun y => lenN d y.1).sum = d.used := by
      rw [← used_sum hd hx.seen]
      refine (List.Perm.map _ ?_).sum_nat
      have := hgo; unfold Going at this; rwa [List.append_nil] at this
    refine swp_exit ?_
    refine then_x ?_
    refine then_x ?_
    refine block_hit rfl ?_
    refine then_n ?_
    refine swp_sr ?_
    refine s_mv rfl ?_
    refine s_as rfl ?_
    refine swl_sub _ (sc0 2 rfl .nil) ?_
    refine swl_nn ?_
    refine swp_ret ?_
    refine done_ret [fsH p d x, mpe x.sb skv x.es x.cs, recsA x.rs] (.tmp rfl .nil) ⟨by rw [← hsum]; rfl, rfl⟩ sp0
  · skip
    first | refine s_pu (pu_extractL rfl) ?_ | refine s_pu (pu_extract rfl rfl) ?_
    refine swl_sub _ (sc0 3 rfl (sc0 12 rfl (sc0 14 rfl .nil))) ?_
    refine swl_nn ?_
    refine swp_seq ?_
    refine swp_cond (b := _) rfl (fun h14 => ?_) (fun h14 => by cases h14)
    obtain ⟨td', hgo', hlt⟩ := hgo.step hy hns
    obtain ⟨k, r, hk, hr, hf, hv⟩ := hx.at hy
    have hle : (dn.map fun y => lenN d y.1).sum ≤ 64 * mostF := by
      have h1 := sum_le (fun y : ByteArray × Value × Nat => lenN d y.1) mostF dn fun y _ => lenN_le hd y.1
      have h2 : dn.length ≤ 64 := by have := hgo.length_eq; rw [List.length_append] at this; omega
      exact Nat.le_trans h1 (Nat.mul_le_mul_right _ h2)
    have hll : lenN d y.1 = r.f.bytes.length := by unfold lenN; rw [hk, hf]; rfl
    have hlm := lenN_le hd y.1
    simp only [mostF] at hle hlm
    refine swp_skip ?_
    refine then_n ?_
    refine swp_block ?_
    refine swp_sr ?_
    refine s_rd (rd_entry (κ := ByteArray) rfl sp0 hy hx.bs) ?_
    first | refine s_pu (pu_extractL rfl) ?_ | refine s_pu (pu_extract rfl rfl) ?_
    refine s_as rfl ?_
    refine swl_sub _ (sc0 3 rfl (sc0 5 rfl (sc0 12 rfl .nil))) ?_
    refine swl_nn ?_
    rw [hv]
    refine swp_ent (Split.ent' (K := [recsA x.rs, itA it x.sb x.cs (dn.map (·.2.2) ++ [y.2.2]) x.cs, mpe x.sb skv x.es x.cs, fsH p d x]) sp0) ?_
    refine swp_ent (recs_open' hr (real_of hd hf)) ?_
    refine swp_fact (fun m h => own_form h) fun hform => ?_
    refine swp_region ?_
    refine s_mv rfl ?_
    refine s_mv rfl ?_
    first | refine s_pu (pu_nilCheck rfl) ?_ | refine s_pu (pu_nilCheck_fn rfl) ?_ | refine s_pu (pu_nilCheck_if rfl) ?_
    first | refine s_pu (pu_fieldAddr0 rfl) ?_ | refine s_pu (pu_fieldAddr rfl) ?_
    refine s_rd (rd_load rfl rfl) ?_
    refine s_pu (pu_len_own hform rfl) ?_
    refine s_pu (pu_add_as (((dn.map fun y => lenN d y.1).sum + r.f.bytes.length : Nat) : Int) rfl rfl om0 om0 om0) ?_
    refine s_as rfl ?_
    refine swl_sub _ (sc0 3 rfl (sc0 12 rfl .nil)) ?_
    refine swl_nil ?_
    refine block_n ?_
    refine then_n ⟨(dn ++ [y], td'), ⟨⟨?_, rfl, trivial⟩, ?_, hgo'⟩, by dsimp only; omega⟩
    · show look _ 3 = some (.int .i64 (((dn ++ [y]).map fun y => lenN d y.1).sum : Nat))
      rw [List.map_append, List.sum_append]
      simp only [List.map_cons, List.map_nil, List.sum_cons, List.sum_nil, Nat.add_zero, hll]; rfl
    · refine Ent.trans (Split.ent' (K := [own 5 1 r.v r.f.bytes.length (bcs r.f.bytes), blk r.a 118 [.int .i64 (k : Nat), r.v, .int .i64 (r.f.safe : Nat)], holeA x.rs k, itA it x.sb x.cs (dn.map (·.2.2) ++ [y.2.2]) x.cs, mpe x.sb skv x.es x.cs, fsH p d x]) sp0) ?_
      refine (recs_back' hr (real_of hd hf)).trans ?_
      rw [show (dn ++ [y]).map (·.2.2) = dn.map (·.2.2) ++ [y.2.2] by rw [List.map_append]; rfl]
      exact Split.ent' sp0
end SX
namespace SX
open Go Go.Proofs
instance : TZv Tryz.prog 5 (.int .u8 0) := ⟨by kernel_rfl⟩
theorem bcs_take (l : List UInt8) (m : Nat) : bcs (l.take m) = (bcs l).take m := by rw [bcs_map, bcs_map, List.map_take]
theorem bcs_append (a b : List UInt8) : bcs (a ++ b) = bcs a ++ bcs b := by rw [bcs_map, bcs_map, bcs_map, List.map_append]
theorem bclone_nil : Spec Tryz.prog 71 [.slice none 0 0] [] (fun v L => v = .slice none 0 0 ∧ L = []) := by
  refine Spec.of 8 Tryz.func71 rfl rfl rfl ?_
  refine swp_sr ?_
  refine s_as rfl ?_
  refine swl_sub _ (sc0 0 rfl .nil) ?_
  refine swl_nn ?_
  refine swp_seq ?_
  refine swp_sr ?_
  refine s_mv rfl ?_
  refine s_pu (pu_sl_eq_nil rfl rfl) ?_
  refine swl_sub _ (sc0 0 rfl (sc0 4 rfl .nil)) ?_
  refine swl_nn ?_
  refine swp_cond (b := _) rfl (fun h4 => ?_) (fun h4 => by cases h4)
  refine swp_sr ?_
  refine s_as rfl ?_
  refine swl_sub _ (sc0 2 rfl .nil) ?_
  refine swl_nn ?_
  refine swp_ret ?_
  refine then_r ?_
  exact done_ret [] (.tmp rfl .nil) ⟨rfl, rfl⟩ sp0
theorem bclone_blk (g m c : Nat) (bs : List UInt8) (ex : List Value) (hm : m ≤ bs.length) (hb : bs.length ≤ 1099511627776) :
    Spec Tryz.prog 71 [.slice (some ⟨g, 0, none⟩) m c] [blk g 5 (bcs bs ++ ex)] (fun v L => (∃ A c, v = .slice A m c) ∧ L = [own 5 1 v m (bcs (bs.take m)), blk g 5 (bcs bs ++ ex)]) := by
  have hcl : (bcs (bs.take m)).length = m * 1 := by rw [bcs_len, List.length_take, Nat.min_eq_left hm, Nat.mul_one]
  have hcn : ∀ (j : Nat) (u : Value), (bcs (bs.take m))[j]? = some u → (bcs bs ++ ex)[0 + j]? = some u := fun j u hj => by
    rw [bcs_take, List.getElem?_take] at hj
    split at hj
    · rw [Nat.zero_add, List.getElem?_append_left (List.getElem?_eq_some_iff.1 hj).1]; exact hj
    · cases hj
  refine Spec.of 8 Tryz.func71 rfl rfl rfl ?_
  refine swp_sr ?_
  refine s_as rfl ?_
  refine swl_sub _ (sc0 0 rfl .nil) ?_
  refine swl_nn ?_
  refine swp_seq ?_
  refine swp_sr ?_
  refine s_mv rfl ?_
  refine s_pu (pu_sl_eq_nil rfl rfl) ?_
  refine swl_sub _ (sc0 0 rfl (sc0 4 rfl .nil)) ?_
  refine swl_nn ?_
  refine swp_cond (b := _) rfl (fun h4 => by cases h4) (fun h4 => ?_)
  refine swp_skip ?_
  refine then_n ?_
  refine swp_sr ?_
  refine s_ef (ef_bldS (qs := []) rfl rfl rfl) ?_
  intro b5
  refine s_mv rfl ?_
  refine swl_ent (own_close (n := 1) (l := 0) (cap := 0) (xs := []) (ex := []) rfl rfl (Nat.le_refl _) (by simp [maxLen])) ?_
  refine s_ef (ef_append_of (news := bcs (bs.take m)) rfl rfl sp0 hcl hcn (bcs_one _) (by simp only [maxLen]; omega) om0) ?_
  rintro v' -
  rw [Nat.zero_add, List.nil_append]
  refine swl_fact (fun m h => own_form h) fun hform => ?_
  refine s_as rfl ?_
  refine swl_sub _ (sc0 2 rfl .nil) ?_
  refine swl_nn ?_
  refine swp_ret ?_
  exact done_ret [own 5 1 v' m (bcs (bs.take m)), blk g 5 (bcs bs ++ ex)] (.tmp rfl .nil) ⟨hform, rfl⟩ sp0
/-- slices.Clone of the first m bytes of a slice of the call's own -/
theorem bclone_own (A : Option Addr) (m l c c' : Nat) (bs : List UInt8) (hl : bs.length = l) (hm : m ≤ l) (hb : bs.length ≤ 1099511627776) (hc : A = none → m = 0 ∧ c' = 0) :
    Spec Tryz.prog 71 [.slice A m c'] [own 5 1 (.slice A l c) l (bcs bs)] (fun v' L => (∃ A c, v' = .slice A m c) ∧ L = [own 5 1 v' m (bcs (bs.take m)), own 5 1 (.slice A l c) l (bcs bs)]) := by
  subst hl
  refine Spec.own_cases (fun hv l0 x0 => ?_) (fun g cap ex hv o1 o2 o3 o4 => ?_)
  · obtain ⟨rfl, h1, rfl⟩ := Value.slice.inj hv
    have hbs : bs = [] := List.eq_nil_of_length_eq_zero l0
    obtain ⟨rfl, rfl⟩ := hc rfl
    subst hbs
    refine Spec.ent3 bclone_nil ?_
    rintro v L ⟨rfl, rfl⟩
    exact ⟨_, own_nil_ent.trans (Ent.cons own_nil_ent), ⟨_, _, rfl⟩, rfl⟩
  · obtain ⟨rfl, _, rfl⟩ := Value.slice.inj hv
    refine Spec.ent3 (bclone_blk g m c' bs ex hm hb) ?_
    rintro v L ⟨hf, rfl⟩
    exact ⟨_, Ent.cons (own_close o3 o4 o1 o2), hf, rfl⟩
/-- Append's step -/
theorem append1_spec (f0 t0 a k sf l : Nat) (v : Value) (xs : List Value) (s : ByteArray) (hl : l + s.size ≤ 1099511627776) :
    Spec Tryz.prog 110 [pv f0, pv t0] [blk f0 114 [pv a], blk t0 9 [.string s], blk a 118 [.int .i64 (k : Nat), v, .int .i64 (sf : Nat)], own 5 1 v l xs]
      (fun _ L => ∃ v', L = [blk f0 114 [pv a], blk t0 9 [.string s], blk a 118 [.int .i64 (k : Nat), v', .int .i64 (sf : Nat)], own 5 1 v' (l + s.size) (xs ++ bcs s.data.toList)]) := by
  refine Spec.of 11 Tryz.func110 rfl rfl rfl ?_
  refine swp_draw [0, 1, 4, 5] ([blk f0 114 [pv a], blk t0 9 [.string s], blk a 118 [.int .i64 (k : Nat), v, .int .i64 (sf : Nat)]]) ([own 5 1 v l xs]) (Split.ent sp0) kr0 ?_
  refine d_rd 0 rfl (rd_load rfl rfl) rfl kr0 kr0 kr0 ?_
  refine d_rd 1 rfl (rd_load rfl rfl) rfl kr0 kr0 kr0 ?_
  first | refine d_pu 2 rfl (pu_nilCheck rfl) kr0 kr0 kr0 ?_ | refine d_pu 2 rfl (pu_nilCheck_fn rfl) kr0 kr0 kr0 ?_ | refine d_pu 2 rfl (pu_nilCheck_if rfl) kr0 kr0 kr0 ?_
  first | refine d_pu 3 rfl (pu_fieldAddr0 rfl) kr0 kr0 kr0 ?_ | refine d_pu 3 rfl (pu_fieldAddr rfl) kr0 kr0 kr0 ?_
  refine d_rd 4 rfl (rd_load rfl rfl) rfl kr0 kr0 kr0 ?_
  refine d_rd 5 rfl (rd_load rfl rfl) rfl kr0 kr0 kr0 ?_
  refine d_eft 6 rfl kr0 (ef_append_str rfl rfl sp0 om0) ?_
  rintro A' c'
  refine ⟨_, Split.ent sp0, ?_⟩
  first | refine d_pu 7 rfl (pu_nilCheck rfl) kr0 kr0 kr0 ?_ | refine d_pu 7 rfl (pu_nilCheck_fn rfl) kr0 kr0 kr0 ?_ | refine d_pu 7 rfl (pu_nilCheck_if rfl) kr0 kr0 kr0 ?_
  first | refine d_pu 8 rfl (pu_fieldAddr0 rfl) kr0 kr0 kr0 ?_ | refine d_pu 8 rfl (pu_fieldAddr rfl) kr0 kr0 kr0 ?_
  first | refine d_fin0t 9 rfl kr0 kr0 (ef_store rfl rfl rfl) ?_ | refine d_fin0f 9 rfl kr0 kr0 (ef_store rfl rfl rfl) ?_
  refine d_sub _ .nil ?_
  first | refine d_nilt kr0 ?_ | refine d_nilf kr0 ?_
  exact done_end [blk f0 114 [pv a], blk t0 9 [.string s], blk a 118 [.int .i64 (k : Nat), .slice A' (l + s.size) c', .int .i64 (sf : Nat)], own 5 1 (.slice A' (l + s.size) c') (l + s.size) (xs ++ bcs s.data.toList)] .nil ⟨_, rfl⟩ sp0
/-- Sync's step -/
theorem sync1_spec (f0 a k sf l : Nat) (v : Value) (hv : ∃ A c, v = .slice A l c) :
    Spec Tryz.prog 124 [pv f0] [blk f0 114 [pv a], blk a 118 [.int .i64 (k : Nat), v, .int .i64 (sf : Nat)]]
      (fun _ L => L = [blk f0 114 [pv a], blk a 118 [.int .i64 (k : Nat), v, .int .i64 (l : Nat)]]) := by
  refine Spec.of 9 Tryz.func124 rfl rfl rfl ?_
  refine swp_draw [0, 1, 4] _ [] (by simp only [List.append_nil]; exact Ent.refl _) kr0 ?_
  refine d_rd 0 rfl (rd_load rfl rfl) rfl kr0 kr0 kr0 ?_
  refine d_rd 1 rfl (rd_load rfl rfl) rfl kr0 kr0 kr0 ?_
  first | refine d_pu 2 rfl (pu_nilCheck rfl) kr0 kr0 kr0 ?_ | refine d_pu 2 rfl (pu_nilCheck_fn rfl) kr0 kr0 kr0 ?_ | refine d_pu 2 rfl (pu_nilCheck_if rfl) kr0 kr0 kr0 ?_
  first | refine d_pu 3 rfl (pu_fieldAddr0 rfl) kr0 kr0 kr0 ?_ | refine d_pu 3 rfl (pu_fieldAddr rfl) kr0 kr0 kr0 ?_
  refine d_rd 4 rfl (rd_load rfl rfl) rfl kr0 kr0 kr0 ?_
  refine d_pu 5 rfl (pu_len_own hv rfl) kr0 kr0 kr0 ?_
  first | refine d_pu 6 rfl (pu_nilCheck rfl) kr0 kr0 kr0 ?_ | refine d_pu 6 rfl (pu_nilCheck_fn rfl) kr0 kr0 kr0 ?_ | refine d_pu 6 rfl (pu_nilCheck_if rfl) kr0 kr0 kr0 ?_
  first | refine d_pu 7 rfl (pu_fieldAddr0 rfl) kr0 kr0 kr0 ?_ | refine d_pu 7 rfl (pu_fieldAddr rfl) kr0 kr0 kr0 ?_
  first | refine d_fin0t 8 rfl kr0 kr0 (ef_store rfl rfl rfl) ?_ | refine d_fin0f 8 rfl kr0 kr0 (ef_store rfl rfl rfl) ?_
  refine d_sub _ .nil ?_
  first | refine d_nilt kr0 ?_ | refine d_nilf kr0 ?_
  exact done_end [blk f0 114 [pv a], blk a 118 [.int .i64 (k : Nat), v, .int .i64 (l : Nat)]] .nil rfl sp0
/-- Cut's step -/
theorem cut1_spec (f0 n0 a k sf n l c : Nat) (A : Option Addr) (bs : List UInt8) (hl : bs.length = l) (hn : n ≤ l) (hlc : l ≤ c) (hb : bs.length ≤ 1099511627776) (hA : A = none → c = 0) :
    Spec Tryz.prog 123 [pv f0, pv n0] [blk f0 114 [pv a], blk n0 3 [.int .i64 (n : Nat)], blk a 118 [.int .i64 (k : Nat), .slice A l c, .int .i64 (sf : Nat)], own 5 1 (.slice A l c) l (bcs bs)]
      (fun _ L => ∃ v', L = [blk f0 114 [pv a], blk n0 3 [.int .i64 (n : Nat)], blk a 118 [.int .i64 (k : Nat), v', .int .i64 (min sf n : Nat)], own 5 1 v' n (bcs (bs.take n)), own 5 1 (.slice A l c) l (bcs bs)]) := by
  have hmin : ((min sf n : Nat) : Int) = min (sf : Int) (n : Int) := by omega
  refine Spec.of 21 Tryz.func123 rfl rfl rfl ?_
  refine swp_seq ?_
  refine swp_draw [0, 1, 4, 5] _ [] (by simp only [List.append_nil]; exact Ent.refl _) kr0 ?_
  refine d_rd 0 rfl (rd_load rfl rfl) rfl kr0 kr0 kr0 ?_
  refine d_rd 1 rfl (rd_load rfl rfl) rfl kr0 kr0 kr0 ?_
  first | refine d_pu 2 rfl (pu_nilCheck rfl) kr0 kr0 kr0 ?_ | refine d_pu 2 rfl (pu_nilCheck_fn rfl) kr0 kr0 kr0 ?_ | refine d_pu 2 rfl (pu_nilCheck_if rfl) kr0 kr0 kr0 ?_
  first | refine d_pu 3 rfl (pu_fieldAddr0 rfl) kr0 kr0 kr0 ?_ | refine d_pu 3 rfl (pu_fieldAddr rfl) kr0 kr0 kr0 ?_
  refine d_rd 4 rfl (rd_load rfl rfl) rfl kr0 kr0 kr0 ?_
  refine d_rd 5 rfl (rd_load rfl rfl) rfl kr0 kr0 kr0 ?_
  refine d_pu 6 rfl (pu_slice_hi n rfl rfl rfl om0) kr0 kr0 kr0 ?_
  refine d_eft 7 rfl kr0 (ef_fn (bclone_own A n l c c bs hl hn hb (fun h => by have := hA h; omega)) rfl rfl sp0) ?_
  rintro v9 L1 ⟨⟨A', c', rfl⟩, rfl⟩
  refine ⟨_, ent_appC (Split.ent sp0), ?_⟩
  first | refine d_pu 8 rfl (pu_nilCheck rfl) kr0 kr0 kr0 ?_ | refine d_pu 8 rfl (pu_nilCheck_fn rfl) kr0 kr0 kr0 ?_ | refine d_pu 8 rfl (pu_nilCheck_if rfl) kr0 kr0 kr0 ?_
  first | refine d_pu 9 rfl (pu_fieldAddr0 rfl) kr0 kr0 kr0 ?_ | refine d_pu 9 rfl (pu_fieldAddr rfl) kr0 kr0 kr0 ?_
  first | refine d_fin0t 10 rfl kr0 kr0 (ef_store rfl rfl rfl) ?_ | refine d_fin0f 10 rfl kr0 kr0 (ef_store rfl rfl rfl) ?_
  refine d_sub _ (sc0 0 rfl (sc0 1 rfl .nil)) ?_
  first | refine d_nilt kr0 ?_ | refine d_nilf kr0 ?_
  refine then_n ?_
  refine swp_draw [0, 1, 4, 5] _ [] (by simp only [List.append_nil]; exact Ent.refl _) kr0 ?_
  refine d_rd 0 rfl (rd_load rfl rfl) rfl kr0 kr0 kr0 ?_
  refine d_rd 1 rfl (rd_load rfl rfl) rfl kr0 kr0 kr0 ?_
  first | refine d_pu 2 rfl (pu_nilCheck rfl) kr0 kr0 kr0 ?_ | refine d_pu 2 rfl (pu_nilCheck_fn rfl) kr0 kr0 kr0 ?_ | refine d_pu 2 rfl (pu_nilCheck_if rfl) kr0 kr0 kr0 ?_
  first | refine d_pu 3 rfl (pu_fieldAddr0 rfl) kr0 kr0 kr0 ?_ | refine d_pu 3 rfl (pu_fieldAddr rfl) kr0 kr0 kr0 ?_
  refine d_rd 4 rfl (rd_load rfl rfl) rfl kr0 kr0 kr0 ?_
  refine d_rd 5 rfl (rd_load rfl rfl) rfl kr0 kr0 kr0 ?_
  refine d_pu 6 rfl (pu_min2 rfl rfl) kr0 kr0 kr0 ?_
  first | refine d_pu 7 rfl (pu_nilCheck rfl) kr0 kr0 kr0 ?_ | refine d_pu 7 rfl (pu_nilCheck_fn rfl) kr0 kr0 kr0 ?_ | refine d_pu 7 rfl (pu_nilCheck_if rfl) kr0 kr0 kr0 ?_
  first | refine d_pu 8 rfl (pu_fieldAddr0 rfl) kr0 kr0 kr0 ?_ | refine d_pu 8 rfl (pu_fieldAddr rfl) kr0 kr0 kr0 ?_
  first | refine d_fin0t 9 rfl kr0 kr0 (ef_store rfl rfl rfl) ?_ | refine d_fin0f 9 rfl kr0 kr0 (ef_store rfl rfl rfl) ?_
  refine d_sub _ .nil ?_
  first | refine d_nilt kr0 ?_ | refine d_nilf kr0 ?_
  exact done_end [blk f0 114 [pv a], blk n0 3 [.int .i64 (n : Nat)], blk a 118 [.int .i64 (k : Nat), .slice A' n c', .int .i64 (min sf n : Nat)], own 5 1 (.slice A' n c') n (bcs (bs.take n)), own 5 1 (.slice A l c) l (bcs bs)] .nil ⟨_, rfl⟩ (R := []) (by rw [hmin]; exact sp0)
end SX
namespace SX
open Go Go.Proofs
theorem find_err {rs : List Rc} {d : Dk} {s : ByteArray} {v : Value} {e : Int} (h : findV rs d s = (v, e)) (he : e ≠ 0) (f : Nat → Dk × Int) : onFile d s f = (d, e) := by
  unfold onFile
  rcases find_cases h with ⟨rfl, h1⟩ | ⟨rfl, h1, h2⟩ | ⟨h0, _⟩
  · rw [if_pos h1]
  · rw [if_neg (by rw [h1]; decide), h2]
  · exact absurd h0 he
theorem find_ok {rs : List Rc} {d : Dk} {s : ByteArray} {v : Value} (h : findV rs d s = (v, 0)) : ∃ k, findN d.seen s = some k ∧ v = adr rs k ∧ ∀ f, onFile d s f = f k := by
  rcases find_cases h with ⟨h0, _⟩ | ⟨h0, _⟩ | ⟨_, h1, k, h2, h3⟩
  · cases h0
  · cases h0
  · refine ⟨k, h2, h3, fun f => ?_⟩
    unfold onFile
    rw [if_neg (by rw [h1]; decide), h2]
theorem find_ptr (rs : List Rc) (d : Dk) (s : ByteArray) : ∃ o e, findV rs d s = (.pointer o, e) := by
  unfold findV
  split
  · exact ⟨_, _, rfl⟩
  · split
    · exact ⟨_, _, rfl⟩
    · next k _ =>
      unfold adr
      split
      · exact ⟨_, _, rfl⟩
      · exact ⟨_, _, rfl⟩
theorem fs_set {p : Nat} {d : Dk} {x : FX} (hx : Rep d x) {k : Nat} {r r' : Rc} (hr : x.rs[k]? = some r) (ha : r'.a = r.a) (hg : r'.f.safe ≤ r'.f.bytes.length) {L : List Assn} :
    Ent (own 5 1 r'.v r'.f.bytes.length (bcs r'.f.bytes) :: blk r'.a 118 [.int .i64 (k : Nat), r'.v, .int .i64 (r'.f.safe : Nat)] :: holeA x.rs k :: fsH p d x :: mpe x.sb skv x.es x.cs :: mpe x.fb skv x.ef x.cf :: own 127 3 x.pv x.ps.length (x.ps.flatMap encP) :: L) (FSA p (d.setF k r'.f) :: L) := by
  refine (recs_close' r' (List.getElem?_eq_some_iff.1 hr).1 hg).trans ?_
  refine Ent.trans (Ent.perm ?_) (fs_close (hx.set hr ha))
  show List.Perm (recsA (x.rs.set k r') :: fsH p d x :: _ :: _ :: _ :: L) (blk p 81 (fsC d.quota (x.rs.set k r').length x.sb x.fb x.pv d.falls d.off) :: _ :: _ :: _ :: recsA (x.rs.set k r') :: L)
  rw [List.length_set]
  exact (List.perm_middle (a := recsA (x.rs.set k r')) (l₁ := [fsH p d x, mpe x.sb skv x.es x.cs, mpe x.fb skv x.ef x.cf, own 127 3 x.pv x.ps.length (x.ps.flatMap encP)]) (l₂ := L)).symm
/-- a step whose doing does not touch the disk's own block -/
theorem step_spec' {f : FuncId} [Body Tryz.prog f] {ca : List Value} {pre : List Assn} {K : List Assn → Prop} (p : Nat) (q : Int) (n sb fb : Nat) (v : Value) (fa : Int) (off : Bool) (h0 : 0 ≤ fa ∧ fa ≤ 9223372036854775807)
    (h : Spec Tryz.prog f ca pre (fun _ L => K L)) :
    Spec Tryz.prog 76 [pv p, .func (.func f) #[] ca.toArray] (blk p 81 (fsC q n sb fb v fa off) :: pre) (fun r L => (fa = 1 ∧ r = .int .i64 8 ∧ L = blk p 81 (fsC q n sb fb v 0 true) :: pre) ∨ (fa ≠ 1 ∧ r = .int .i64 0 ∧ ∃ L', K L' ∧ L = blk p 81 (fsC q n sb fb v (if 0 < fa then fa - 1 else fa) off) :: L')) :=
  step_spec (K := fun fa' L => ∃ L', K L' ∧ L = blk p 81 (fsC q n sb fb v fa' off) :: L') p q n sb fb v fa off h0 fun fa' => fun _ _ hw =>
    (h.frame (R := [blk p 81 (fsC q n sb fb v fa' off)]) (hw.ent (Ent.perm (List.perm_append_comm (l₁ := [_]))))).mono fun _ _ ⟨v, L', e, hk, hh⟩ => ⟨v, _, e, ⟨L', hk, rfl⟩, hh.ent (Ent.perm (List.perm_append_comm (l₂ := [_])))⟩
set_option maxHeartbeats 4000000 in
theorem sync_spec (p : Nat) (d : Dk) (hd : d.Ok) (s : ByteArray) : Spec Tryz.prog 87 [pv p, .string s] [FSA p d] (fun r L => r = .int .i64 (syncD d s).2 ∧ L = [FSA p (syncD d s).1]) := by
  refine FSA.open' fun x hx => ?_
  obtain ⟨o, e, hve⟩ := find_ptr x.rs d s
  have hfs := find_spec' (p := p) hx hve
  refine Spec.of 19 Tryz.func87 rfl rfl rfl ?_
  refine swp_sr ?_
  refine s_as rfl ?_
  refine swl_sub _ (sc0 0 rfl (sc0 1 rfl .nil)) ?_
  refine swl_nn ?_
  refine swp_sr ?_
  refine s_mv rfl ?_
  refine s_mv rfl ?_
  refine s_ef (ef_fn hfs rfl rfl sp0) ?_
  rintro v10 L1 ⟨rfl, rfl⟩
  refine swl_app ?_
  refine s_mv rfl ?_
  first | refine s_pu (pu_extractL rfl) ?_ | refine s_pu (pu_extract rfl rfl) ?_
  first | refine s_pu (pu_extractL rfl) ?_ | refine s_pu (pu_extract rfl rfl) ?_
  refine s_ef (ef_alloc) ?_
  intro b5
  refine s_ef0 (ef_store rfl rfl rfl) ?_
  refine s_as rfl ?_
  refine swl_sub _ (sc0 0 rfl (sc0 5 rfl (sc0 6 rfl .nil))) ?_
  refine swl_nn ?_
  refine swp_seq ?_
  refine swp_sr ?_
  refine s_mv rfl ?_
  refine s_pu (pu_neq rfl rfl) ?_
  refine swl_sub _ (sc0 0 rfl (sc0 5 rfl (sc0 6 rfl (sc0 14 rfl .nil)))) ?_
  refine swl_nn ?_
  refine swp_cond (b := _) rfl (fun h14 => ?_) (fun h14 => ?_)
  · skip   -- 14 T
    refine swp_sr ?_
    refine s_mv rfl ?_
    refine s_as rfl ?_
    refine swl_sub _ (sc0 4 rfl .nil) ?_
    refine swl_nn ?_
    refine swp_ret ?_
    refine then_r ?_
    have h14' : e ≠ 0 := by simpa using h14
    unfold syncD
    rw [find_err hve h14']
    exact done_retE [FSA p d] (.tmp rfl .nil) ⟨rfl, rfl⟩ ((Split.ent' (K := [fsH p d x, mpe x.sb skv x.es x.cs, mpe x.fb skv x.ef x.cf, own 127 3 x.pv x.ps.length (x.ps.flatMap encP), recsA x.rs]) sp0).trans (fs_close hx))
  · skip   -- 14 F
    refine swp_skip ?_
    refine then_n ?_
    refine swp_seq ?_
    have h14' : e = 0 := by simpa using h14
    subst h14'
    obtain ⟨k, hk1, hk2, hk3⟩ := find_ok hve
    obtain ⟨r, hr, hf, ha⟩ := hx.find hk1
    rw [ha] at hk2
    rw [hk2]
    refine swp_ent (Split.ent' (K := [recsA x.rs, blk b5 114 [pv r.a], fsH p d x, mpe x.sb skv x.es x.cs, mpe x.fb skv x.ef x.cf, own 127 3 x.pv x.ps.length (x.ps.flatMap encP)]) sp0) ?_
    refine swp_ent (recs_open' hr (real_of hd hf)) ?_
    refine swp_fact (fun m h => own_form h) fun hform => ?_
    refine swp_region ?_
    refine s_mv rfl ?_
    refine s_pu (pu_func (vs := []) (us := [_]) rfl rfl) ?_
    refine s_ef (ef_fn (step_spec' (f := 124) (ca := [pv b5]) (pre := [blk b5 114 [pv r.a], blk r.a 118 [.int .i64 (k : Nat), r.v, .int .i64 (r.f.safe : Nat)]]) p d.quota x.rs.length x.sb x.fb x.pv d.falls d.off hd.falls (sync1_spec b5 r.a k r.f.safe r.f.bytes.length r.v hform)) rfl rfl sp0) ?_
    rintro v18 L1 hs
    skip
    refine s_as rfl ?_
    refine swl_sub _ (sc0 4 rfl .nil) ?_
    refine swl_nn ?_
    refine swp_ret ?_
    rcases hs with ⟨hf1, rfl, rfl⟩ | ⟨hfn, rfl, L', rfl, rfl⟩
    · have key : syncD d s = (fa0 d, 8) := by unfold syncD; rw [hk3]; exact atStep_1 hf1 _
      rw [key]
      refine done_retE [FSA p (fa0 d)] (.tmp rfl .nil) ⟨rfl, rfl⟩ ?_
      simp only [List.cons_append, List.nil_append]
      refine Ent.trans (Split.ent' (K := [own 5 1 r.v r.f.bytes.length (bcs r.f.bytes), blk r.a 118 [.int .i64 (k : Nat), r.v, .int .i64 (r.f.safe : Nat)], holeA x.rs k, fsH p (fa0 d) x, mpe x.sb skv x.es x.cs, mpe x.fb skv x.ef x.cf, own 127 3 x.pv x.ps.length (x.ps.flatMap encP)]) sp0) ?_
      refine (recs_back' hr (real_of hd hf)).trans ?_
      exact ((Split.ent' (K := [fsH p (fa0 d) x, mpe x.sb skv x.es x.cs, mpe x.fb skv x.ef x.cf, own 127 3 x.pv x.ps.length (x.ps.flatMap encP), recsA x.rs]) sp0).trans (fs_close (d := fa0 d) (hx.fa _ _)))
    · have key : syncD d s = ((fa1 d).setF k ⟨r.f.bytes, r.f.bytes.length⟩, 0) := by
        unfold syncD; rw [hk3, atStep_n hfn]
        show ((fa1 d).setF k ⟨(d.fl k).bytes, (d.fl k).bytes.length⟩, _) = _
        rw [← hf]
      rw [key]
      refine done_retE [FSA p ((fa1 d).setF k ⟨r.f.bytes, r.f.bytes.length⟩)] (.tmp rfl .nil) ⟨rfl, rfl⟩ ?_
      simp only [List.cons_append, List.nil_append]
      refine Ent.trans (Split.ent' (K := [own 5 1 r.v r.f.bytes.length (bcs r.f.bytes), blk r.a 118 [.int .i64 (k : Nat), r.v, .int .i64 (r.f.bytes.length : Nat)], holeA x.rs k, fsH p (fa1 d) x, mpe x.sb skv x.es x.cs, mpe x.fb skv x.ef x.cf, own 127 3 x.pv x.ps.length (x.ps.flatMap encP)]) sp0) ?_
      exact fs_set (hx.fa _ _) hr (r' := ⟨r.a, r.v, ⟨r.f.bytes, r.f.bytes.length⟩⟩) rfl (Nat.le_refl _)
end SX
namespace SX
open Go Go.Proofs
theorem own_cap {e n : Nat} {v : Value} {l : Nat} {xs : List Value} {L : List Assn} {m : PH} (h : Sat (own e n v l xs :: L) m) : ∃ A c, v = .slice A l c ∧ l ≤ c ∧ (A = none → c = 0) := by
  obtain ⟨m1, _, ⟨_, ho⟩, _⟩ := h
  rcases ho with ⟨rfl, rfl⟩ | ⟨g, cap, cur, rfl, _, h3, _⟩
  · exact ⟨_, _, rfl, Nat.le_refl _, fun _ => rfl⟩
  · exact ⟨_, _, rfl, h3, fun h => by cases h⟩
theorem bsize (s : ByteArray) : s.data.toList.length = s.size := by rw [Array.length_toList]; rfl
set_option maxHeartbeats 4000000 in
theorem append_spec (p : Nat) (d : Dk) (hd : d.Ok) (s t : ByteArray) (ht : t.size ≤ 140737488351232) : Spec Tryz.prog 63 [pv p, .string s, .string t] [FSA p d] (fun r L => r = .int .i64 (appendD d s t.data.toList).2 ∧ L = [FSA p (appendD d s t.data.toList).1]) := by
  refine FSA.open' fun x hx => ?_
  obtain ⟨o, e, hve⟩ := find_ptr x.rs d s
  have hfs := find_spec' (p := p) hx hve
  have hul := Dk.used_le hd
  have hn := strEq_nos t
  have hq := hd.q
  refine Spec.of 35 Tryz.func63 rfl rfl rfl ?_
  refine swp_sr ?_
  refine s_ef (ef_box rfl rfl) ?_
  intro b5
  refine s_as rfl ?_
  refine swl_sub _ (sc0 0 rfl (sc0 1 rfl (sc0 5 rfl .nil))) ?_
  refine swl_nn ?_
  refine swp_sr ?_
  refine s_mv rfl ?_
  refine s_mv rfl ?_
  refine s_ef (ef_fn hfs rfl rfl sp0) ?_
  rintro v12 L1 ⟨rfl, rfl⟩
  refine swl_app ?_
  refine s_mv rfl ?_
  first | refine s_pu (pu_extractL rfl) ?_ | refine s_pu (pu_extract rfl rfl) ?_
  first | refine s_pu (pu_extractL rfl) ?_ | refine s_pu (pu_extract rfl rfl) ?_
  refine s_ef (ef_alloc) ?_
  intro b7
  refine s_ef0 (ef_store rfl rfl rfl) ?_
  refine s_as rfl ?_
  refine swl_sub _ (sc0 0 rfl (sc0 5 rfl (sc0 7 rfl (sc0 8 rfl .nil)))) ?_
  refine swl_nn ?_
  refine swp_seq ?_
  refine swp_sr ?_
  refine s_mv rfl ?_
  refine s_pu (pu_neq rfl rfl) ?_
  refine swl_sub _ (sc0 0 rfl (sc0 5 rfl (sc0 7 rfl (sc0 8 rfl (sc0 16 rfl .nil))))) ?_
  refine swl_nn ?_
  refine swp_cond (b := _) rfl (fun h16 => ?_) (fun h16 => ?_)
  · skip   -- 16 T
    refine swp_sr ?_
    refine s_mv rfl ?_
    refine s_as rfl ?_
    refine swl_sub _ (sc0 6 rfl .nil) ?_
    refine swl_nn ?_
    refine swp_ret ?_
    refine then_r ?_
    have h16' : e ≠ 0 := by simpa using h16
    unfold appendD
    rw [find_err hve h16']
    exact done_retE [FSA p d] (.tmp rfl .nil) ⟨rfl, rfl⟩ ((Split.ent' (K := [fsH p d x, mpe x.sb skv x.es x.cs, mpe x.fb skv x.ef x.cf, own 127 3 x.pv x.ps.length (x.ps.flatMap encP), recsA x.rs]) sp0).trans (fs_close hx))
  · skip   -- 16 F
    have h16' : e = 0 := by simpa using h16
    subst h16'
    obtain ⟨k, hk1, hk2, hk3⟩ := find_ok hve
    obtain ⟨r, hr, hf, ha⟩ := hx.find hk1
    rw [ha] at hk2
    rw [hk2]
    have hlen := (Dk.fl_ok hd k).1
    simp only [mostF] at hlen
    rw [← hf] at hlen
    refine swp_skip ?_
    refine then_n ?_
    refine swp_cut (fun env L => Sub env [(0, pv p), (5, pv b5), (7, pv b7)] ∧ Ent L [blk b7 114 [pv r.a], blk b5 9 [.string t], fsH p d x, mpe x.sb skv x.es x.cs, mpe x.fb skv x.ef x.cf, own 127 3 x.pv x.ps.length (x.ps.flatMap encP), recsA x.rs] ∧ ¬ (0 < t.data.toList.length ∧ d.quota < (d.used : Int) + t.data.toList.length)) ?_ ?_
    · skip
      refine swp_seq ?_
      refine swp_draw [0, 5, 11] ([fsH p d x, blk b5 9 [.string t]]) ([blk b7 114 [pv r.a], mpe x.sb skv x.es x.cs, mpe x.fb skv x.ef x.cf, own 127 3 x.pv x.ps.length (x.ps.flatMap encP), recsA x.rs]) (Split.ent sp0) kr0 ?_
      refine d_rd 0 rfl (rd_load rfl rfl) rfl kr0 kr0 kr0 ?_
      refine d_pu 1 rfl (pu_str_neq rfl rfl) kr0 kr0 kr0 ?_
      refine d_pu 2 rfl (pu_move rfl) kr0 kr0 kr0 ?_
      refine d_split 20 rfl (fun h20 => ?_) (fun h20 => ?_)
      · skip   -- 20 T
        refine d_pu_on 3 rfl rfl rfl (pu_move rfl) kr0 kr0 kr0 ?_
        refine d_rd_on 5 rfl rfl rfl (rd_load rfl rfl) rfl kr0 kr0 kr0 ?_
        refine d_pu_on 6 rfl rfl rfl (pu_strlen rfl) kr0 kr0 kr0 ?_
        refine d_pu_on 8 rfl rfl rfl (pu_move rfl) kr0 kr0 kr0 ?_
        first | refine d_pu_on 9 rfl rfl rfl (pu_nilCheck rfl) kr0 kr0 kr0 ?_ | refine d_pu_on 9 rfl rfl rfl (pu_nilCheck_fn rfl) kr0 kr0 kr0 ?_ | refine d_pu_on 9 rfl rfl rfl (pu_nilCheck_if rfl) kr0 kr0 kr0 ?_
        first | refine d_pu_on 10 rfl rfl rfl (pu_fieldAddr0 rfl) kr0 kr0 kr0 ?_ | refine d_pu_on 10 rfl rfl rfl (pu_fieldAddr rfl) kr0 kr0 kr0 ?_
        refine d_rd_on 11 rfl rfl rfl (rd_load rfl rfl) rfl kr0 kr0 kr0 ?_
        refine d_amb [4] kr0 rfl ?_
        refine dA_ef 4 rfl (GOn.some rfl rfl) (ef_fn (used_spec p d hd x hx) rfl rfl sp0) ?_
        rintro v22 L1 ⟨rfl, rfl⟩
        refine ⟨_, ent_appC (Split.ent sp0), ?_⟩
        refine d_pu_on 7 rfl rfl rfl (pu_add_as ((d.used + t.size : Nat) : Int) rfl rfl om0 om0 om0) kr0 kr0 kr0 ?_
        refine d_pu_on 12 rfl rfl rfl (pu_gtr rfl rfl) kr0 kr0 kr0 ?_
        first | refine d_pu 13 rfl (pu_pick_t rfl rfl) kr0 kr0 kr0 ?_ | refine d_pu 13 rfl (pu_pick_f rfl rfl) kr0 kr0 kr0 ?_
        refine d_sub _ (sc0 0 rfl (sc0 5 rfl (sc0 7 rfl (sc0 31 rfl .nil)))) ?_
        first | refine d_nilt kr0 ?_ | refine d_nilf kr0 ?_
        refine then_n ?_
        refine swp_cond (b := _) rfl (fun h31 => ?_) (fun h31 => ?_)
        · skip   -- 31 T
          refine swp_sr ?_
          refine s_as rfl ?_
          refine swl_sub _ (sc0 6 rfl .nil) ?_
          refine swl_nn ?_
          refine swp_ret ?_
          refine then_r ?_
          have h31' := of_decide_eq_true h31
          have key : appendD d s t.data.toList = (d, 7) := by
            unfold appendD
            rw [hk3, if_pos]
            rw [bsize]
            rw [hn] at h20
            have h20' : t.size ≠ 0 := by simpa using h20
            exact ⟨by omega, by omega⟩
          rw [key]
          exact done_retE [FSA p d] (.tmp rfl .nil) ⟨rfl, rfl⟩ ((Split.ent' (K := [fsH p d x, mpe x.sb skv x.es x.cs, mpe x.fb skv x.ef x.cf, own 127 3 x.pv x.ps.length (x.ps.flatMap encP), recsA x.rs]) sp0).trans (fs_close hx))
        · skip   -- 31 F
          refine swp_skip ?_
          refine then_n ⟨⟨rfl, rfl, rfl, trivial⟩, Split.ent' sp0, ?_⟩
          rw [bsize]
          first
            | (have h31' := of_decide_eq_false h31; rintro ⟨_, h2⟩; omega)
            | (rw [hn] at h20
               have h20' : t.size = 0 := by simpa using h20
               rintro ⟨h1, _⟩; omega)
      · skip   -- 20 F
        refine d_off 3 rfl rfl rfl rfl kr0 kr0 kr0 ?_
        refine d_off 4 rfl rfl rfl rfl kr0 kr0 kr0 ?_
        refine d_off 5 rfl rfl rfl rfl kr0 kr0 kr0 ?_
        refine d_off 6 rfl rfl rfl rfl kr0 kr0 kr0 ?_
        refine d_off 7 rfl rfl rfl rfl kr0 kr0 kr0 ?_
        refine d_off 8 rfl rfl rfl rfl kr0 kr0 kr0 ?_
        refine d_off 9 rfl rfl rfl rfl kr0 kr0 kr0 ?_
        refine d_off 10 rfl rfl rfl rfl kr0 kr0 kr0 ?_
        refine d_off 11 rfl rfl rfl rfl kr0 kr0 kr0 ?_
        refine d_off 12 rfl rfl rfl rfl kr0 kr0 kr0 ?_
        first | refine d_pu 13 rfl (pu_pick_t rfl rfl) kr0 kr0 kr0 ?_ | refine d_pu 13 rfl (pu_pick_f rfl rfl) kr0 kr0 kr0 ?_
        refine d_sub _ (sc0 0 rfl (sc0 5 rfl (sc0 7 rfl (sc0 31 rfl .nil)))) ?_
        first | refine d_nilt kr0 ?_ | refine d_nilf kr0 ?_
        refine then_n ?_
        refine swp_cond (b := _) rfl (fun h31 => by cases h31) (fun h31 => ?_)
        refine swp_skip ?_
        refine then_n ⟨⟨rfl, rfl, rfl, trivial⟩, Split.ent' sp0, ?_⟩
        rw [bsize]
        first
          | (have h31' := of_decide_eq_false h31; rintro ⟨_, h2⟩; omega)
          | (rw [hn] at h20
             have h20' : t.size = 0 := by simpa using h20
             rintro ⟨h1, _⟩; omega)
    rintro env L ⟨hsub, hE, h1⟩
    refine swp_sub _ hsub ?_
    refine swp_ent hE ?_
    clear hsub hE env L
    have h1' := h1
    rw [bsize] at h1'
    refine swp_seq ?_
    refine swp_ent (Split.ent' (K := [recsA x.rs, blk b7 114 [pv r.a], blk b5 9 [.string t], fsH p d x, mpe x.sb skv x.es x.cs, mpe x.fb skv x.ef x.cf, own 127 3 x.pv x.ps.length (x.ps.flatMap encP)]) sp0) ?_
    refine swp_ent (recs_open' hr (real_of hd hf)) ?_
    refine swp_region ?_
    refine s_mv rfl ?_
    refine s_pu (pu_func (vs := []) (us := [_, _]) rfl rfl) ?_
    refine s_ef (ef_fn (step_spec' (f := 110) (ca := [pv b7, pv b5]) (pre := [blk b7 114 [pv r.a], blk b5 9 [.string t], blk r.a 118 [.int .i64 (k : Nat), r.v, .int .i64 (r.f.safe : Nat)], own 5 1 r.v r.f.bytes.length (bcs r.f.bytes)]) p d.quota x.rs.length x.sb x.fb x.pv d.falls d.off hd.falls (append1_spec b7 b5 r.a k r.f.safe r.f.bytes.length r.v (bcs r.f.bytes) t om0)) rfl rfl sp0) ?_
    rintro v34 L1 hs
    skip
    refine s_as rfl ?_
    refine swl_sub _ (sc0 6 rfl .nil) ?_
    refine swl_nn ?_
    refine swp_ret ?_
    rcases hs with ⟨hf1, rfl, rfl⟩ | ⟨hfn, rfl, L', ⟨v', rfl⟩, rfl⟩
    · have key : appendD d s t.data.toList = (fa0 d, 8) := by unfold appendD; rw [hk3, if_neg h1]; exact atStep_1 hf1 _
      rw [key]
      refine done_retE [FSA p (fa0 d)] (.tmp rfl .nil) ⟨rfl, rfl⟩ ?_
      simp only [List.cons_append, List.nil_append]
      refine Ent.trans (Split.ent' (K := [own 5 1 r.v r.f.bytes.length (bcs r.f.bytes), blk r.a 118 [.int .i64 (k : Nat), r.v, .int .i64 (r.f.safe : Nat)], holeA x.rs k, fsH p (fa0 d) x, mpe x.sb skv x.es x.cs, mpe x.fb skv x.ef x.cf, own 127 3 x.pv x.ps.length (x.ps.flatMap encP)]) sp0) ?_
      refine (recs_back' hr (real_of hd hf)).trans ?_
      exact ((Split.ent' (K := [fsH p (fa0 d) x, mpe x.sb skv x.es x.cs, mpe x.fb skv x.ef x.cf, own 127 3 x.pv x.ps.length (x.ps.flatMap encP), recsA x.rs]) sp0).trans (fs_close (d := fa0 d) (hx.fa _ _)))
    · have key : appendD d s t.data.toList = ((fa1 d).setF k ⟨r.f.bytes ++ t.data.toList, r.f.safe⟩, 0) := by
        unfold appendD; rw [hk3, if_neg h1, atStep_n hfn]
        show ((fa1 d).setF k ⟨(d.fl k).bytes ++ _, (d.fl k).safe⟩, _) = _
        rw [← hf]
      rw [key]
      refine done_retE [FSA p ((fa1 d).setF k ⟨r.f.bytes ++ t.data.toList, r.f.safe⟩)] (.tmp rfl .nil) ⟨rfl, rfl⟩ ?_
      simp only [List.cons_append, List.nil_append]
      have hl2 : r.f.bytes.length + t.size = (r.f.bytes ++ t.data.toList).length := by rw [List.length_append, bsize]
      rw [hl2, ← bcs_append]
      refine Ent.trans (Split.ent' (K := [own 5 1 v' (r.f.bytes ++ t.data.toList).length (bcs (r.f.bytes ++ t.data.toList)), blk r.a 118 [.int .i64 (k : Nat), v', .int .i64 (r.f.safe : Nat)], holeA x.rs k, fsH p (fa1 d) x, mpe x.sb skv x.es x.cs, mpe x.fb skv x.ef x.cf, own 127 3 x.pv x.ps.length (x.ps.flatMap encP)]) sp0) ?_
      exact fs_set (hx.fa _ _) hr (r' := ⟨r.a, v', ⟨r.f.bytes ++ t.data.toList, r.f.safe⟩⟩) rfl (by have := real_of hd hf; show r.f.safe ≤ (r.f.bytes ++ t.data.toList).length; rw [List.length_append]; omega)
set_option maxHeartbeats 4000000 in
theorem cut_spec (p : Nat) (d : Dk) (hd : d.Ok) (s : ByteArray) (n : Int) : Spec Tryz.prog 85 [pv p, .string s, .int .i64 n] [FSA p d] (fun r L => r = .int .i64 (cutD d s n).2 ∧ L = [FSA p (cutD d s n).1]) := by
  refine FSA.open' fun x hx => ?_
  obtain ⟨o, e, hve⟩ := find_ptr x.rs d s
  have hfs := find_spec' (p := p) hx hve
  refine Spec.of 32 Tryz.func85 rfl rfl rfl ?_
  refine swp_sr ?_
  refine s_ef (ef_box rfl rfl) ?_
  intro b5
  refine s_as rfl ?_
  refine swl_sub _ (sc0 0 rfl (sc0 1 rfl (sc0 5 rfl .nil))) ?_
  refine swl_nn ?_
  refine swp_sr ?_
  refine s_mv rfl ?_
  refine s_mv rfl ?_
  refine s_ef (ef_fn hfs rfl rfl sp0) ?_
  rintro v12 L1 ⟨rfl, rfl⟩
  refine swl_app ?_
  refine s_mv rfl ?_
  first | refine s_pu (pu_extractL rfl) ?_ | refine s_pu (pu_extract rfl rfl) ?_
  first | refine s_pu (pu_extractL rfl) ?_ | refine s_pu (pu_extract rfl rfl) ?_
  refine s_ef (ef_alloc) ?_
  intro b7
  refine s_ef0 (ef_store rfl rfl rfl) ?_
  refine s_as rfl ?_
  refine swl_sub _ (sc0 0 rfl (sc0 5 rfl (sc0 7 rfl (sc0 8 rfl .nil)))) ?_
  refine swl_nn ?_
  refine swp_seq ?_
  refine swp_sr ?_
  refine s_mv rfl ?_
  refine s_pu (pu_neq rfl rfl) ?_
  refine swl_sub _ (sc0 0 rfl (sc0 5 rfl (sc0 7 rfl (sc0 8 rfl (sc0 16 rfl .nil))))) ?_
  refine swl_nn ?_
  refine swp_cond (b := _) rfl (fun h16 => ?_) (fun h16 => ?_)
  · skip   -- 16 T
    refine swp_sr ?_
    refine s_mv rfl ?_
    refine s_as rfl ?_
    refine swl_sub _ (sc0 6 rfl .nil) ?_
    refine swl_nn ?_
    refine swp_ret ?_
    refine then_r ?_
    have h16' : e ≠ 0 := by simpa using h16
    unfold cutD
    rw [find_err hve h16']
    exact done_retE [FSA p d] (.tmp rfl .nil) ⟨rfl, rfl⟩ ((Split.ent' (K := [fsH p d x, mpe x.sb skv x.es x.cs, mpe x.fb skv x.ef x.cf, own 127 3 x.pv x.ps.length (x.ps.flatMap encP), recsA x.rs]) sp0).trans (fs_close hx))
  · skip   -- 16 F
    have h16' : e = 0 := by simpa using h16
    subst h16'
    obtain ⟨k, hk1, hk2, hk3⟩ := find_ok hve
    obtain ⟨r, hr, hf, ha⟩ := hx.find hk1
    rw [ha] at hk2
    rw [hk2]
    have hlen := (Dk.fl_ok hd k).1
    simp only [mostF] at hlen
    rw [← hf] at hlen
    refine swp_ent (Split.ent' (K := [recsA x.rs, blk b7 114 [pv r.a], blk b5 3 [.int .i64 n], fsH p d x, mpe x.sb skv x.es x.cs, mpe x.fb skv x.ef x.cf, own 127 3 x.pv x.ps.length (x.ps.flatMap encP)]) sp0) ?_
    refine swp_ent (recs_open' hr (real_of hd hf)) ?_
    refine swp_fact (fun m h => own_cap h) fun ⟨A, c, hv, hlc, hA⟩ => ?_
    refine swp_skip ?_
    refine then_n ?_
    refine swp_cut (fun env L => Sub env [(0, pv p), (5, pv b5), (7, pv b7)] ∧ Ent L [own 5 1 r.v r.f.bytes.length (bcs r.f.bytes), blk r.a 118 [.int .i64 (k : Nat), r.v, .int .i64 (r.f.safe : Nat)], holeA x.rs k, blk b7 114 [pv r.a], blk b5 3 [.int .i64 n], fsH p d x, mpe x.sb skv x.es x.cs, mpe x.fb skv x.ef x.cf, own 127 3 x.pv x.ps.length (x.ps.flatMap encP)] ∧ 0 ≤ n ∧ n ≤ r.f.bytes.length) ?_ ?_
    · skip
      refine swp_seq ?_
      refine swp_draw [0, 3, 4, 7] _ [] (by simp only [List.append_nil]; exact Ent.refl _) kr0 ?_
      refine d_rd 0 rfl (rd_load rfl rfl) rfl kr0 kr0 kr0 ?_
      refine d_pu 1 rfl (pu_lss rfl rfl) kr0 kr0 kr0 ?_
      refine d_pu 2 rfl (pu_move rfl) kr0 kr0 kr0 ?_
      refine d_split 20 rfl (fun h20 => ?_) (fun h20 => ?_)
      · skip   -- 20 T
        refine d_off 3 rfl rfl rfl rfl kr0 kr0 kr0 ?_
        refine d_off 4 rfl rfl rfl rfl kr0 kr0 kr0 ?_
        refine d_off 5 rfl rfl rfl rfl kr0 kr0 kr0 ?_
        refine d_off 6 rfl rfl rfl rfl kr0 kr0 kr0 ?_
        refine d_off 7 rfl rfl rfl rfl kr0 kr0 kr0 ?_
        refine d_off 8 rfl rfl rfl rfl kr0 kr0 kr0 ?_
        refine d_off 9 rfl rfl rfl rfl kr0 kr0 kr0 ?_
        first | refine d_pu 10 rfl (pu_pick_t rfl rfl) kr0 kr0 kr0 ?_ | refine d_pu 10 rfl (pu_pick_f rfl rfl) kr0 kr0 kr0 ?_
        refine d_sub _ (sc0 0 rfl (sc0 5 rfl (sc0 7 rfl (sc0 28 rfl .nil)))) ?_
        first | refine d_nilt kr0 ?_ | refine d_nilf kr0 ?_
        refine then_n ?_
        refine swp_cond (b := _) rfl (fun h28 => ?_) (fun h28 => by cases h28)
        refine swp_sr ?_
        refine s_as rfl ?_
        refine swl_sub _ (sc0 6 rfl .nil) ?_
        refine swl_nn ?_
        refine swp_ret ?_
        refine then_r ?_
        have h20' := of_decide_eq_true h20
        have key : cutD d s n = (d, 1) := by unfold cutD; rw [hk3, if_pos (.inl h20')]
        rw [key]
        refine done_retE [FSA p d] (.tmp rfl .nil) ⟨rfl, rfl⟩ ?_
        refine Ent.trans (Split.ent' (K := [own 5 1 r.v r.f.bytes.length (bcs r.f.bytes), blk r.a 118 [.int .i64 (k : Nat), r.v, .int .i64 (r.f.safe : Nat)], holeA x.rs k, fsH p d x, mpe x.sb skv x.es x.cs, mpe x.fb skv x.ef x.cf, own 127 3 x.pv x.ps.length (x.ps.flatMap encP)]) sp0) ?_
        exact (recs_back' hr (real_of hd hf)).trans ((Split.ent' (K := [fsH p d x, mpe x.sb skv x.es x.cs, mpe x.fb skv x.ef x.cf, own 127 3 x.pv x.ps.length (x.ps.flatMap encP), recsA x.rs]) sp0).trans (fs_close hx))
      · skip   -- 20 F
        refine d_rd_on 3 rfl rfl rfl (rd_load rfl rfl) rfl kr0 kr0 kr0 ?_
        refine d_rd_on 4 rfl rfl rfl (rd_load rfl rfl) rfl kr0 kr0 kr0 ?_
        first | refine d_pu_on 5 rfl rfl rfl (pu_nilCheck rfl) kr0 kr0 kr0 ?_ | refine d_pu_on 5 rfl rfl rfl (pu_nilCheck_fn rfl) kr0 kr0 kr0 ?_ | refine d_pu_on 5 rfl rfl rfl (pu_nilCheck_if rfl) kr0 kr0 kr0 ?_
        first | refine d_pu_on 6 rfl rfl rfl (pu_fieldAddr0 rfl) kr0 kr0 kr0 ?_ | refine d_pu_on 6 rfl rfl rfl (pu_fieldAddr rfl) kr0 kr0 kr0 ?_
        refine d_rd_on 7 rfl rfl rfl (rd_load rfl rfl) rfl kr0 kr0 kr0 ?_
        refine d_pu_on 8 rfl rfl rfl (pu_len_own ⟨A, c, hv⟩ rfl) kr0 kr0 kr0 ?_
        refine d_pu_on 9 rfl rfl rfl (pu_gtr rfl rfl) kr0 kr0 kr0 ?_
        first | refine d_pu 10 rfl (pu_pick_t rfl rfl) kr0 kr0 kr0 ?_ | refine d_pu 10 rfl (pu_pick_f rfl rfl) kr0 kr0 kr0 ?_
        refine d_sub _ (sc0 0 rfl (sc0 5 rfl (sc0 7 rfl (sc0 28 rfl .nil)))) ?_
        first | refine d_nilt kr0 ?_ | refine d_nilf kr0 ?_
        refine then_n ?_
        refine swp_cond (b := _) rfl (fun h28 => ?_) (fun h28 => ?_)
        · skip   -- 28 T
          refine swp_sr ?_
          refine s_as rfl ?_
          refine swl_sub _ (sc0 6 rfl .nil) ?_
          refine swl_nn ?_
          refine swp_ret ?_
          refine then_r ?_
          have h28' := of_decide_eq_true h28
          have key : cutD d s n = (d, 1) := by unfold cutD; rw [hk3, if_pos (.inr (by rw [← hf]; exact h28'))]
          rw [key]
          refine done_retE [FSA p d] (.tmp rfl .nil) ⟨rfl, rfl⟩ ?_
          refine Ent.trans (Split.ent' (K := [own 5 1 r.v r.f.bytes.length (bcs r.f.bytes), blk r.a 118 [.int .i64 (k : Nat), r.v, .int .i64 (r.f.safe : Nat)], holeA x.rs k, fsH p d x, mpe x.sb skv x.es x.cs, mpe x.fb skv x.ef x.cf, own 127 3 x.pv x.ps.length (x.ps.flatMap encP)]) sp0) ?_
          exact (recs_back' hr (real_of hd hf)).trans ((Split.ent' (K := [fsH p d x, mpe x.sb skv x.es x.cs, mpe x.fb skv x.ef x.cf, own 127 3 x.pv x.ps.length (x.ps.flatMap encP), recsA x.rs]) sp0).trans (fs_close hx))
        · skip   -- 28 F
          refine swp_skip ?_
          exact then_n ⟨⟨rfl, rfl, rfl, trivial⟩, Split.ent' sp0, by have := of_decide_eq_false h20; omega, by have := of_decide_eq_false h28; omega⟩
    rintro env L ⟨hsub, hE, h1, h2⟩
    refine swp_sub _ hsub ?_
    refine swp_ent hE ?_
    clear hsub hE env L
    obtain ⟨m, rfl⟩ : ∃ m : Nat, n = (m : Int) := ⟨n.toNat, by omega⟩
    have h2' : m ≤ r.f.bytes.length := by omega
    have hv2 : r.v = .slice A r.f.bytes.length c := hv
    refine swp_sr ?_
    refine s_mv rfl ?_
    refine s_pu (pu_func (vs := []) (us := [_, _]) rfl rfl) ?_
    refine s_ef (ef_fn (step_spec' (f := 123) (ca := [pv b7, pv b5]) (pre := [blk b7 114 [pv r.a], blk b5 3 [.int .i64 (m : Nat)], blk r.a 118 [.int .i64 (k : Nat), r.v, .int .i64 (r.f.safe : Nat)], own 5 1 r.v r.f.bytes.length (bcs r.f.bytes)]) p d.quota x.rs.length x.sb x.fb x.pv d.falls d.off hd.falls (by rw [hv2]; exact cut1_spec b7 b5 r.a k r.f.safe m r.f.bytes.length c A r.f.bytes rfl h2' hlc om0 hA)) rfl rfl sp0) ?_
    rintro v31 L1 hs
    skip
    refine s_as rfl ?_
    refine swl_sub _ (sc0 6 rfl .nil) ?_
    refine swl_nn ?_
    refine swp_ret ?_
    rcases hs with ⟨hf1, rfl, rfl⟩ | ⟨hfn, rfl, L', ⟨v', rfl⟩, rfl⟩
    · have key : cutD d s (m : Int) = (fa0 d, 8) := by unfold cutD; rw [hk3, if_neg (by rw [← hf]; omega)]; exact atStep_1 hf1 _
      rw [key]
      refine done_retE [FSA p (fa0 d)] (.tmp rfl .nil) ⟨rfl, rfl⟩ ?_
      simp only [List.cons_append, List.nil_append]
      refine Ent.trans (Split.ent' (K := [own 5 1 r.v r.f.bytes.length (bcs r.f.bytes), blk r.a 118 [.int .i64 (k : Nat), r.v, .int .i64 (r.f.safe : Nat)], holeA x.rs k, fsH p (fa0 d) x, mpe x.sb skv x.es x.cs, mpe x.fb skv x.ef x.cf, own 127 3 x.pv x.ps.length (x.ps.flatMap encP)]) sp0) ?_
      refine (recs_back' hr (real_of hd hf)).trans ?_
      exact ((Split.ent' (K := [fsH p (fa0 d) x, mpe x.sb skv x.es x.cs, mpe x.fb skv x.ef x.cf, own 127 3 x.pv x.ps.length (x.ps.flatMap encP), recsA x.rs]) sp0).trans (fs_close (d := fa0 d) (hx.fa _ _)))
    · have key : cutD d s (m : Int) = ((fa1 d).setF k ⟨r.f.bytes.take m, min r.f.safe m⟩, 0) := by
        unfold cutD; rw [hk3, if_neg (by rw [← hf]; omega), atStep_n hfn]
        show ((fa1 d).setF k ⟨(d.fl k).bytes.take (m : Int).toNat, min (d.fl k).safe (m : Int).toNat⟩, _) = _
        rw [← hf, Int.toNat_natCast]
      rw [key]
      refine done_retE [FSA p ((fa1 d).setF k ⟨r.f.bytes.take m, min r.f.safe m⟩)] (.tmp rfl .nil) ⟨rfl, rfl⟩ ?_
      simp only [List.cons_append, List.nil_append]
      have hl2 : m = (r.f.bytes.take m).length := by rw [List.length_take, Nat.min_eq_left h2']
      refine Ent.trans (Split.ent' (K := [own 5 1 v' m (bcs (r.f.bytes.take m)), blk r.a 118 [.int .i64 (k : Nat), v', .int .i64 (min r.f.safe m : Nat)], holeA x.rs k, fsH p (fa1 d) x, mpe x.sb skv x.es x.cs, mpe x.fb skv x.ef x.cf, own 127 3 x.pv x.ps.length (x.ps.flatMap encP)]) sp0) ?_
      have := fs_set (p := p) (L := []) (hx.fa (fa1 d).falls d.off) hr (r' := ⟨r.a, v', ⟨r.f.bytes.take m, min r.f.safe m⟩⟩) rfl (by have := real_of hd hf; show min r.f.safe m ≤ (r.f.bytes.take m).length; rw [List.length_take]; omega)
      simp only [← hl2] at this
      exact this
end SX
namespace SX
open Go Go.Proofs
instance : MClone Tryz.prog 118 := ⟨_, Tryz.func118, by kernel_rfl, by kernel_rfl, by kernel_rfl, by kernel_rfl⟩
/-- maps.Clone -/
theorem mclone_spec (b : Nat) (es : Ents ByteArray) (cl : Nat) : Spec Tryz.prog 80 [.map (some b)] [mpe b skv es cl] (fun r L => ∃ b', r = .map (some b') ∧ L = [mpe b' skv es cl, mpe b skv es cl]) := by
  refine Spec.of 9 Tryz.func80 rfl rfl rfl ?_
  refine swp_sr ?_
  refine s_as rfl ?_
  refine swl_sub _ (sc0 0 rfl .nil) ?_
  refine swl_nn ?_
  refine swp_seq ?_
  refine swp_sr ?_
  refine s_mv rfl ?_
  refine s_pu (pu_map_eq_nil rfl rfl) ?_
  refine swl_sub _ (sc0 0 rfl (sc0 4 rfl .nil)) ?_
  refine swl_nn ?_
  refine swp_cond (b := _) rfl (fun h4 => by cases h4) (fun h4 => ?_)
  refine swp_skip ?_
  refine then_n ?_
  refine swp_sr ?_
  refine s_mv rfl ?_
  refine s_pu (pu_iface rfl) ?_
  refine s_ef (ef_mclone (κ := ByteArray) rfl rfl) ?_
  rintro b7
  skip
  refine s_pu (pu_typeAssert_map rfl) ?_
  refine s_as rfl ?_
  refine swl_sub _ (sc0 2 rfl .nil) ?_
  refine swl_nn ?_
  refine swp_ret ?_
  exact done_ret [mpe b7 skv es cl, mpe b skv es cl] (.tmp rfl .nil) ⟨b7, rfl, rfl⟩ sp0
/-- SyncNames' step -/
theorem syncn1_spec (p d0 : Nat) (q : Int) (n sb fb : Nat) (w : Value) (fa : Int) (off : Bool) (es : Ents ByteArray) (cl : Nat) :
    Spec Tryz.prog 79 [pv d0] [blk p 81 (fsC q n sb fb w fa off), blk d0 27 [pv p], mpe sb skv es cl]
      (fun _ L => ∃ fb', L = [blk p 81 (fsC q n sb fb' (.slice none 0 0) fa off), mpe sb skv es cl, mpe fb' skv es cl]) := by
  refine Spec.of 12 Tryz.func79 rfl rfl rfl ?_
  refine swp_seq ?_
  refine swp_draw [0, 1, 4] ([blk p 81 (fsC q n sb fb w fa off), blk d0 27 [pv p]]) ([mpe sb skv es cl]) (Split.ent sp0) kr0 ?_
  refine d_rd 0 rfl (rd_load rfl rfl) rfl kr0 kr0 kr0 ?_
  refine d_rd 1 rfl (rd_load rfl rfl) rfl kr0 kr0 kr0 ?_
  first | refine d_pu 2 rfl (pu_nilCheck rfl) kr0 kr0 kr0 ?_ | refine d_pu 2 rfl (pu_nilCheck_fn rfl) kr0 kr0 kr0 ?_ | refine d_pu 2 rfl (pu_nilCheck_if rfl) kr0 kr0 kr0 ?_
  first | refine d_pu 3 rfl (pu_fieldAddr0 rfl) kr0 kr0 kr0 ?_ | refine d_pu 3 rfl (pu_fieldAddr rfl) kr0 kr0 kr0 ?_
  refine d_rd 4 rfl (rd_load rfl rfl) rfl kr0 kr0 kr0 ?_
  refine d_eft 5 rfl kr0 (ef_fn (mclone_spec sb es cl) rfl rfl sp0) ?_
  rintro v6 L1 ⟨b', rfl, rfl⟩
  refine ⟨_, ent_appC (Split.ent sp0), ?_⟩
  first | refine d_pu 6 rfl (pu_nilCheck rfl) kr0 kr0 kr0 ?_ | refine d_pu 6 rfl (pu_nilCheck_fn rfl) kr0 kr0 kr0 ?_ | refine d_pu 6 rfl (pu_nilCheck_if rfl) kr0 kr0 kr0 ?_
  first | refine d_pu 7 rfl (pu_fieldAddr0 rfl) kr0 kr0 kr0 ?_ | refine d_pu 7 rfl (pu_fieldAddr rfl) kr0 kr0 kr0 ?_
  first | refine d_fin0t 8 rfl kr0 kr0 (ef_store rfl rfl rfl) ?_ | refine d_fin0f 8 rfl kr0 kr0 (ef_store rfl rfl rfl) ?_
  refine d_sub _ (sc0 0 rfl .nil) ?_
  first | refine d_nilt kr0 ?_ | refine d_nilf kr0 ?_
  refine then_n ?_
  refine swp_region ?_
  refine s_rd (rd_load rfl rfl) ?_
  first | refine s_pu (pu_nilCheck rfl) ?_ | refine s_pu (pu_nilCheck_fn rfl) ?_ | refine s_pu (pu_nilCheck_if rfl) ?_
  first | refine s_pu (pu_fieldAddr0 rfl) ?_ | refine s_pu (pu_fieldAddr rfl) ?_
  refine s_ef0 (ef_store rfl rfl rfl) ?_
  refine swl_sub _ .nil ?_
  refine swl_nil ?_
  exact done_end [blk p 81 (fsC q n sb b' (.slice none 0 0) fa off), mpe sb skv es cl, mpe b' skv es cl] .nil ⟨b', rfl⟩ sp0
theorem Rep.sync {d : Dk} {x : FX} (h : Rep d x) (fb' : Nat) : Rep { d with safe := d.seen, pend := [] } { x with fb := fb', ef := x.es, cf := x.cs, ps := [], pv := .slice none 0 0 } :=
  ⟨h.seen, h.seen, h.bs, h.bs, h.len, fun k hk => h.fl k (by
    rcases hk with hk | hk | ⟨c, hc, _⟩
    · exact .inl hk
    · exact .inl hk
    · cases hc), rfl, fun i p c hp => by cases hp⟩
set_option maxHeartbeats 4000000 in
theorem syncn_spec (p : Nat) (d : Dk) (hd : d.Ok) : Spec Tryz.prog 38 [pv p] [FSA p d] (fun r L => r = .int .i64 (syncNamesD d).2 ∧ L = [FSA p (syncNamesD d).1]) := by
  refine FSA.open' fun x hx => ?_
  obtain ⟨o, e, hve⟩ := find_ptr x.rs d nos
  have hfs := find_spec' (p := p) hx hve
  have hcs := find_cases hve
  have hno : findN d.seen nos = none := findN_none.2 fun x hx e => by have := hd.names x hx; rw [e, strEq_refl] at this; cases this
  refine Spec.of 16 Tryz.func38 rfl rfl rfl ?_
  refine swp_sr ?_
  refine s_ef (ef_box rfl rfl) ?_
  intro b1
  refine s_as rfl ?_
  refine swl_sub _ (sc0 1 rfl .nil) ?_
  refine swl_nn ?_
  refine swp_seq ?_
  refine swp_sr ?_
  refine s_rd (rd_load rfl rfl) ?_
  refine s_ef (ef_fn hfs rfl rfl sp0) ?_
  rintro v7 L1 ⟨rfl, rfl⟩
  refine swl_app ?_
  refine s_mv rfl ?_
  first | refine s_pu (pu_extractL rfl) ?_ | refine s_pu (pu_extract rfl rfl) ?_
  first | refine s_pu (pu_extractL rfl) ?_ | refine s_pu (pu_extract rfl rfl) ?_
  refine s_as rfl ?_
  refine s_as rfl ?_
  refine swl_sub _ (sc0 1 rfl (sc0 4 rfl .nil)) ?_
  refine swl_nn ?_
  refine swp_sr ?_
  refine s_mv rfl ?_
  refine s_pu (pu_neq rfl rfl) ?_
  refine swl_sub _ (sc0 1 rfl (sc0 4 rfl (sc0 11 rfl .nil))) ?_
  refine swl_nn ?_
  refine swp_cond (b := _) rfl (fun h11 => ?_) (fun h11 => ?_)
  · skip   -- 11 T
    refine swp_sr ?_
    refine s_mv rfl ?_
    refine s_as rfl ?_
    refine swl_sub _ (sc0 2 rfl .nil) ?_
    refine swl_nn ?_
    refine swp_ret ?_
    refine then_r ?_
    have h11' : e ≠ 6 := by simpa using h11
    have h8 : e = 8 ∧ d.off = true := by
      rcases hcs with h | ⟨h, _⟩ | ⟨_, _, k, h, _⟩
      · exact h
      · exact absurd h h11'
      · rw [hno] at h; cases h
    have key : syncNamesD d = (d, 8) := by unfold syncNamesD; rw [if_pos h8.2]
    rw [key, h8.1]
    exact done_retE [FSA p d] (.tmp rfl .nil) ⟨rfl, rfl⟩ ((Split.ent' (K := [fsH p d x, mpe x.sb skv x.es x.cs, mpe x.fb skv x.ef x.cf, own 127 3 x.pv x.ps.length (x.ps.flatMap encP), recsA x.rs]) sp0).trans (fs_close hx))
  · skip   -- 11 F
    have h11' : e = 6 := by simpa using h11
    have hoff : d.off = false := by
      rcases hcs with ⟨h, _⟩ | ⟨_, h, _⟩ | ⟨h, _⟩
      · rw [h11'] at h; cases h
      · exact h
      · rw [h11'] at h; cases h
    refine swp_skip ?_
    refine then_n ?_
    refine swp_sr ?_
    refine s_rd (rd_load rfl rfl) ?_
    refine s_pu (pu_func (vs := []) (us := [_]) rfl rfl) ?_
    refine s_ef (ef_fn (step_spec (f := 79) (ca := [pv b1]) (pre := [blk b1 27 [pv p], mpe x.sb skv x.es x.cs]) p d.quota x.rs.length x.sb x.fb x.pv d.falls d.off hd.falls (fun fa' => syncn1_spec p b1 d.quota x.rs.length x.sb x.fb x.pv fa' d.off x.es x.cs)) rfl rfl sp0) ?_
    rintro v15 L1 hs
    skip
    refine s_as rfl ?_
    refine swl_sub _ (sc0 2 rfl .nil) ?_
    refine swl_nn ?_
    refine swp_ret ?_
    rcases hs with ⟨hf1, rfl, rfl⟩ | ⟨hfn, rfl, fb', rfl⟩
    · have key : syncNamesD d = (fa0 d, 8) := by unfold syncNamesD; rw [if_neg (by rw [hoff]; decide)]; exact atStep_1 hf1 _
      rw [key]
      refine done_retE [FSA p (fa0 d)] (.tmp rfl .nil) ⟨rfl, rfl⟩ ?_
      simp only [List.cons_append, List.nil_append]
      exact ((Split.ent' (K := [fsH p (fa0 d) x, mpe x.sb skv x.es x.cs, mpe x.fb skv x.ef x.cf, own 127 3 x.pv x.ps.length (x.ps.flatMap encP), recsA x.rs]) sp0).trans (fs_close (d := fa0 d) (hx.fa _ _)))
    · have key : syncNamesD d = (({ (fa1 d) with safe := d.seen, pend := [] } : Dk), 0) := by unfold syncNamesD; rw [if_neg (by rw [hoff]; decide)]; exact atStep_n hfn _
      rw [key]
      refine done_retE [FSA p ({ (fa1 d) with safe := d.seen, pend := [] } : Dk)] (.tmp rfl .nil) ⟨rfl, rfl⟩ ?_
      simp only [List.cons_append, List.nil_append]
      refine Ent.trans (own_nil_ent (e := 127) (n := 3)) ?_
      refine Ent.trans (Split.ent' (K := [blk p 81 (fsC d.quota x.rs.length x.sb fb' (.slice none 0 0) (if 0 < d.falls then d.falls - 1 else d.falls) d.off), mpe x.sb skv x.es x.cs, mpe fb' skv x.es x.cs, own 127 3 (.slice none 0 0) 0 [], recsA x.rs]) sp0) ?_
      exact fs_close (d := { (fa1 d) with safe := d.seen, pend := [] }) (x := { x with fb := fb', ef := x.es, cf := x.cs, ps := [], pv := .slice none 0 0 }) ((hx.fa (fa1 d).falls d.off).sync fb')
end SX
namespace SX
open Go Go.Proofs
theorem read_err {rs : List Rc} {d : Dk} {s : ByteArray} {v : Value} {e : Int} (h : findV rs d s = (v, e)) (he : e ≠ 0) : readD d s = ([], e) := by
  unfold readD
  rcases find_cases h with ⟨rfl, h1⟩ | ⟨rfl, h1, h2⟩ | ⟨h0, _⟩
  · rw [if_pos h1]
  · rw [if_neg (by rw [h1]; decide), h2]
  · exact absurd h0 he
set_option maxHeartbeats 4000000 in
theorem read_spec (p : Nat) (d : Dk) (hd : d.Ok) (s : ByteArray) : Spec Tryz.prog 34 [pv p, .string s] [FSA p d] (fun r L => r = .tuple #[.string ⟨(readD d s).1.toArray⟩, .int .i64 (readD d s).2] ∧ L = [FSA p d]) := by
  refine FSA.open' fun x hx => ?_
  obtain ⟨o, e, hve⟩ := find_ptr x.rs d s
  have hfs := find_spec' (p := p) hx hve
  refine Spec.of 22 Tryz.func34 rfl rfl rfl ?_
  refine swp_sr ?_
  refine s_as rfl ?_
  refine s_as rfl ?_
  refine swl_sub _ (sc0 0 rfl (sc0 1 rfl .nil)) ?_
  refine swl_nn ?_
  refine swp_sr ?_
  refine s_mv rfl ?_
  refine s_mv rfl ?_
  refine s_ef (ef_fn hfs rfl rfl sp0) ?_
  rintro v11 L1 ⟨rfl, rfl⟩
  refine swl_app ?_
  refine s_mv rfl ?_
  first | refine s_pu (pu_extractL rfl) ?_ | refine s_pu (pu_extract rfl rfl) ?_
  first | refine s_pu (pu_extractL rfl) ?_ | refine s_pu (pu_extract rfl rfl) ?_
  refine s_as rfl ?_
  refine s_as rfl ?_
  refine swl_sub _ (sc0 6 rfl (sc0 7 rfl .nil)) ?_
  refine swl_nn ?_
  refine swp_seq ?_
  refine swp_sr ?_
  refine s_mv rfl ?_
  refine s_pu (pu_neq rfl rfl) ?_
  refine swl_sub _ (sc0 6 rfl (sc0 7 rfl (sc0 15 rfl .nil))) ?_
  refine swl_nn ?_
  refine swp_cond (b := _) rfl (fun h15 => ?_) (fun h15 => ?_)
  · skip   -- 15 T
    refine swp_sr ?_
    refine s_mv rfl ?_
    refine s_as rfl ?_
    refine s_as rfl ?_
    refine swl_sub _ (sc0 4 rfl (sc0 5 rfl .nil)) ?_
    refine swl_nn ?_
    refine swp_ret ?_
    refine then_r ?_
    have h15' : e ≠ 0 := by simpa using h15
    rw [read_err hve h15']
    exact done_retE [FSA p d] (.tmp rfl (.tmp rfl .nil)) ⟨rfl, rfl⟩ ((Split.ent' (K := [fsH p d x, mpe x.sb skv x.es x.cs, mpe x.fb skv x.ef x.cf, own 127 3 x.pv x.ps.length (x.ps.flatMap encP), recsA x.rs]) sp0).trans (fs_close hx))
  · skip   -- 15 F
    have h15' : e = 0 := by simpa using h15
    subst h15'
    have hk3 : ∃ k, findN d.seen s = some k ∧ .pointer o = adr x.rs k ∧ readD d s = ((d.fl k).bytes, 0) := by
      rcases find_cases hve with ⟨h0, _⟩ | ⟨h0, _⟩ | ⟨_, h1, k, h2, h3⟩
      · cases h0
      · cases h0
      · refine ⟨k, h2, h3, ?_⟩
        unfold readD
        rw [if_neg (by rw [h1]; decide), h2]
    obtain ⟨k, hk1, hk2, hk3⟩ := hk3
    obtain ⟨r, hr, hf, ha⟩ := hx.find hk1
    rw [ha] at hk2
    rw [hk2]
    refine swp_ent (Split.ent' (K := [recsA x.rs, fsH p d x, mpe x.sb skv x.es x.cs, mpe x.fb skv x.ef x.cf, own 127 3 x.pv x.ps.length (x.ps.flatMap encP)]) sp0) ?_
    refine swp_ent (recs_open' hr (real_of hd hf)) ?_
    refine swp_skip ?_
    refine then_n ?_
    refine swp_sr ?_
    refine s_mv rfl ?_
    first | refine s_pu (pu_nilCheck rfl) ?_ | refine s_pu (pu_nilCheck_fn rfl) ?_ | refine s_pu (pu_nilCheck_if rfl) ?_
    first | refine s_pu (pu_fieldAddr0 rfl) ?_ | refine s_pu (pu_fieldAddr rfl) ?_
    refine s_rd (rd_load rfl rfl) ?_
    refine s_rd (rd_bytes_own r.f.bytes rfl tk0) ?_
    refine s_as rfl ?_
    refine s_as rfl ?_
    refine swl_sub _ (sc0 4 rfl (sc0 5 rfl .nil)) ?_
    refine swl_nn ?_
    refine swp_ret ?_
    rw [hk3, ← hf]
    refine done_retE [FSA p d] (.tmp rfl (.tmp rfl .nil)) ⟨rfl, rfl⟩ ?_
    refine Ent.trans (Split.ent' (K := [own 5 1 r.v r.f.bytes.length (bcs r.f.bytes), blk r.a 118 [.int .i64 (k : Nat), r.v, .int .i64 (r.f.safe : Nat)], holeA x.rs k, fsH p d x, mpe x.sb skv x.es x.cs, mpe x.fb skv x.ef x.cf, own 127 3 x.pv x.ps.length (x.ps.flatMap encP)]) sp0) ?_
    exact (recs_back' hr (real_of hd hf)).trans ((Split.ent' (K := [fsH p d x, mpe x.sb skv x.es x.cs, mpe x.fb skv x.ef x.cf, own 127 3 x.pv x.ps.length (x.ps.flatMap encP), recsA x.rs]) sp0).trans (fs_close hx))
theorem newD_rep (q : Int) (sb fb : Nat) : Rep (newD q) ⟨sb, fb, [], 0, [], 0, [], [], .slice none 0 0⟩ :=
  ⟨.nil _, .nil _, .nil _, .nil _, rfl, (fun k hk => by
    rcases hk with ⟨⟨y, hy, _⟩⟩ | ⟨⟨y, hy, _⟩⟩ | ⟨c, hc, _⟩
    · cases hy
    · cases hy
    · cases hc), rfl, fun i p c hp => by cases hp⟩
def newOk (q : Int) : Prop := 0 ≤ q ∧ q ≤ 16777216
theorem new_spec (q : Int) : Spec Tryz.prog 8 [.int .i64 q] [] (fun r L => (¬ newOk q ∧ r = .tuple #[.pointer none, .int .i64 1] ∧ L = []) ∨ (newOk q ∧ ∃ p, r = .tuple #[pv p, .int .i64 0] ∧ L = [FSA p (newD q)])) := by
  refine Spec.of 15 Tryz.func8 rfl rfl rfl ?_
  refine swp_sr ?_
  refine s_as rfl ?_
  refine s_as rfl ?_
  refine swl_sub _ (sc0 0 rfl .nil) ?_
  refine swl_nn ?_
  refine swp_seq ?_
  refine swp_sr ?_
  refine s_mv rfl ?_
  refine s_pu (pu_lss rfl rfl) ?_
  refine s_mv rfl ?_
  refine s_split 6 rfl (fun h6 => ?_) (fun h6 => ?_)
  · skip   -- 6 T
    refine s_off rfl rfl rfl ?_
    refine s_off rfl rfl rfl ?_
    first | refine s_pu (pu_pick_t rfl rfl) ?_ | refine s_pu (pu_pick_f rfl rfl) ?_
    refine swl_sub _ (sc0 0 rfl (sc0 9 rfl .nil)) ?_
    refine swl_nn ?_
    refine swp_cond (b := _) rfl (fun h9 => ?_) (fun h9 => by cases h9)
    refine swp_sr ?_
    refine s_as rfl ?_
    refine s_as rfl ?_
    refine swl_sub _ (sc0 2 rfl (sc0 3 rfl .nil)) ?_
    refine swl_nn ?_
    refine swp_ret ?_
    refine then_r ?_
    exact done_ret [] (.tmp rfl (.tmp rfl .nil)) (.inl ⟨fun h => by have := of_decide_eq_true h6; have := h.1; omega, rfl, rfl⟩) sp0
  · skip   -- 6 F
    refine s_on rfl rfl ?_
    refine s_mv rfl ?_
    refine s_on rfl rfl ?_
    refine s_pu (pu_gtr rfl rfl) ?_
    first | refine s_pu (pu_pick_t rfl rfl) ?_ | refine s_pu (pu_pick_f rfl rfl) ?_
    refine swl_sub _ (sc0 0 rfl (sc0 9 rfl .nil)) ?_
    refine swl_nn ?_
    refine swp_cond (b := _) rfl (fun h9 => ?_) (fun h9 => ?_)
    · skip   -- 9 T
      refine swp_sr ?_
      refine s_as rfl ?_
      refine s_as rfl ?_
      refine swl_sub _ (sc0 2 rfl (sc0 3 rfl .nil)) ?_
      refine swl_nn ?_
      refine swp_ret ?_
      refine then_r ?_
      exact done_ret [] (.tmp rfl (.tmp rfl .nil)) (.inl ⟨fun h => by have := of_decide_eq_true h9; have := h.2; omega, rfl, rfl⟩) sp0
    · skip   -- 9 F
      refine swp_skip ?_
      refine then_n ?_
      refine swp_sr ?_
      refine s_mv rfl ?_
      refine s_ef (ef_makeMap (kv := skv)) ?_
      intro b11
      refine s_ef (ef_makeMap (kv := skv)) ?_
      intro b12
      refine s_pu (pu_bld (qs := [(0, _), (2, _), (3, _)]) rfl) ?_
      refine s_ef (ef_box rfl rfl) ?_
      intro b14
      refine s_as rfl ?_
      refine s_as rfl ?_
      refine swl_sub _ (sc0 2 rfl (sc0 3 rfl .nil)) ?_
      refine swl_nn ?_
      refine swp_ret ?_
      refine done_retE [FSA b14 (newD q)] (.tmp rfl (.tmp rfl .nil)) (.inr ⟨⟨by have := of_decide_eq_false h6; omega, by have := of_decide_eq_false h9; omega⟩, b14, rfl, rfl⟩) ?_
      refine Ent.trans (own_nil_ent (e := 127) (n := 3)) ?_
      have e1 : Ent [] [recsA []] := star_close (K := []) (L := [])
      exact Ent.trans (Split.ent' (K := [blk b14 81 [.int .i64 q, .int .i64 0, .map (some b11), .map (some b12), .slice none 0 0, .int .i64 0, .bool false], mpe b11 skv [] 0, mpe b12 skv [] 0, own 127 3 (.slice none 0 0) 0 []]) sp0) ((Ent.under (X := [blk b14 81 [.int .i64 q, .int .i64 0, .map (some b11), .map (some b12), .slice none 0 0, .int .i64 0, .bool false], mpe b11 skv [] 0, mpe b12 skv [] 0, own 127 3 (.slice none 0 0) 0 []]) e1).trans (fs_close (newD_rep q b11 b12)))
end SX
namespace SX
open Go Go.Proofs
def brk (k : Nat) (W : Assn) : Nat → Assn := fun i => if i = k then W else (fun _ => False : Assn)
theorem brk_hit (k : Nat) (W : Assn) : brk k W k = W := if_pos rfl
theorem brk_miss {k i : Nat} (W : Assn) (h : ¬ i = k) {m : PH} (hm : brk k W i m) : False := by
  have e : brk k W i = (fun _ => False : Assn) := if_neg h
  rw [e] at hm; exact hm
abbrev logN : ByteArray := ⟨#[108, 111, 103]⟩
/-- the rest of the log is cut off -/
def cutRest (d : Dk) (n len : Nat) : Dk × Int := if n = len then (d, 0) else cutD d logN (n : Nat)
def settleD (d : Dk) (n len : Nat) : Dk × Int :=
  if (cutRest d n len).2 ≠ 0 then cutRest d n len else
  if (syncD (cutRest d n len).1 logN).2 ≠ 0 then syncD (cutRest d n len).1 logN else syncNamesD (syncD (cutRest d n len).1 logN).1
abbrev recL (q b5 b3 b2 p : Nat) (W : SW) (d : Dk) (n : Nat) (s : List UInt8) : List Assn := [FSA q d, blk b5 3 [.int .i64 (n : Nat)], blk b3 9 [.string (str s)], blk b2 31 [pv p], stH p W]
theorem rec1_spec (b5 b3 b2 p : Nat) (W : SW) (d : Dk) (hd : d.Ok) (n : Nat) (s : List UInt8) : Spec Tryz.prog 84 [pv b5, pv b3, pv b2] (recL W.q b5 b3 b2 p W d n s) (fun r L => r = .int .i64 (cutRest d n s.length).2 ∧ L = recL W.q b5 b3 b2 p W (cutRest d n s.length).1 n s) := by
  refine Spec.of 14 Tryz.func84 rfl rfl rfl ?_
  refine swp_sr ?_
  refine s_as rfl ?_
  refine swl_sub _ (sc0 0 rfl (sc0 1 rfl (sc0 2 rfl .nil))) ?_
  refine swl_nn ?_
  refine swp_seq ?_
  refine swp_sr ?_
  refine s_rd (rd_load rfl rfl) ?_
  refine s_rd (rd_load rfl rfl) ?_
  refine s_pu (pu_strln rfl) ?_
  refine s_pu (pu_eql rfl rfl) ?_
  refine swl_sub _ (sc0 0 rfl (sc0 2 rfl (sc0 7 rfl .nil))) ?_
  refine swl_nn ?_
  refine swp_cond (b := _) rfl (fun h7 => ?_) (fun h7 => ?_)
  · skip   -- 7 T
    refine swp_sr ?_
    refine s_as rfl ?_
    refine swl_sub _ (sc0 3 rfl .nil) ?_
    refine swl_nn ?_
    refine swp_ret ?_
    refine then_r ?_
    have h7' : n = s.length := by have := of_decide_eq_true h7; omega
    have e : cutRest d n s.length = (d, 0) := by unfold cutRest; rw [if_pos h7']
    rw [e]
    exact done_ret (recL W.q b5 b3 b2 p W d n s) (.tmp rfl .nil) ⟨rfl, rfl⟩ sp0
  · skip   -- 7 F
    have h7' : ¬ n = s.length := fun e => (of_decide_eq_false h7) om0
    have e : cutRest d n s.length = cutD d logN (n : Nat) := by unfold cutRest; rw [if_neg h7']
    rw [e]
    refine swp_skip ?_
    refine then_n ?_
    refine swp_seq ?_
    refine swp_draw [0, 3, 4] _ [] (by simp only [List.append_nil]; exact Ent.refl _) kr0 ?_
    refine d_rd 0 rfl (rd_load rfl rfl) rfl kr0 kr0 kr0 ?_
    first | refine d_pu 1 rfl (pu_nilCheck rfl) kr0 kr0 kr0 ?_ | refine d_pu 1 rfl (pu_nilCheck_fn rfl) kr0 kr0 kr0 ?_ | refine d_pu 1 rfl (pu_nilCheck_if rfl) kr0 kr0 kr0 ?_
    first | refine d_pu 2 rfl (pu_fieldAddr0 rfl) kr0 kr0 kr0 ?_ | refine d_pu 2 rfl (pu_fieldAddr rfl) kr0 kr0 kr0 ?_
    refine d_rd 3 rfl (rd_load rfl rfl) rfl kr0 kr0 kr0 ?_
    refine d_rd 4 rfl (rd_load rfl rfl) rfl kr0 kr0 kr0 ?_
    first | refine d_fint 5 rfl kr0 kr0 (ef_fn (cut_spec W.q d hd logN (n : Nat)) rfl rfl sp0) ?_ | refine d_finf 5 rfl kr0 kr0 (ef_fn (cut_spec W.q d hd logN (n : Nat)) rfl rfl sp0) ?_
    rintro v13 L1 ⟨rfl, rfl⟩
    refine swd_app ?_
    refine d_pu 6 rfl (pu_assign rfl) kr0 kr0 kr0 ?_
    refine d_sub _ (sc0 3 rfl .nil) ?_
    first | refine d_nilt kr0 ?_ | refine d_nilf kr0 ?_
    refine then_n ?_
    refine swp_ret ?_
    exact done_ret (recL W.q b5 b3 b2 p W (cutD d logN (n : Nat)).1 n s) (.tmp rfl .nil) ⟨rfl, rfl⟩ sp0
theorem rec2_spec (b5 b3 b2 p : Nat) (W : SW) (d : Dk) (hd : d.Ok) (n : Nat) (s : List UInt8) : Spec Tryz.prog 86 [pv b2] (recL W.q b5 b3 b2 p W d n s) (fun r L => r = .int .i64 (syncD d logN).2 ∧ L = recL W.q b5 b3 b2 p W (syncD d logN).1 n s) := by
  refine Spec.of 7 Tryz.func86 rfl rfl rfl ?_
  refine swp_sr ?_
  refine s_as rfl ?_
  refine swl_sub _ (sc0 0 rfl .nil) ?_
  refine swl_nn ?_
  refine swp_sr ?_
  refine s_rd (rd_load rfl rfl) ?_
  first | refine s_pu (pu_nilCheck rfl) ?_ | refine s_pu (pu_nilCheck_fn rfl) ?_ | refine s_pu (pu_nilCheck_if rfl) ?_
  first | refine s_pu (pu_fieldAddr0 rfl) ?_ | refine s_pu (pu_fieldAddr rfl) ?_
  refine s_rd (rd_load rfl rfl) ?_
  refine s_ef (ef_fn (sync_spec W.q d hd logN) rfl rfl sp0) ?_
  rintro v6 L1 ⟨rfl, rfl⟩
  refine swl_app ?_
  refine s_as rfl ?_
  refine swl_sub _ (sc0 1 rfl .nil) ?_
  refine swl_nn ?_
  refine swp_ret ?_
  exact done_ret (recL W.q b5 b3 b2 p W (syncD d logN).1 n s) (.tmp rfl .nil) ⟨rfl, rfl⟩ sp0
theorem rec3_spec (b5 b3 b2 p : Nat) (W : SW) (d : Dk) (hd : d.Ok) (n : Nat) (s : List UInt8) : Spec Tryz.prog 38 [pv W.q] (recL W.q b5 b3 b2 p W d n s) (fun r L => r = .int .i64 (syncNamesD d).2 ∧ L = recL W.q b5 b3 b2 p W (syncNamesD d).1 n s) :=
  Spec.mono (Spec.fr (syncn_spec W.q d hd) [blk b5 3 [.int .i64 (n : Nat)], blk b3 9 [.string (str s)], blk b2 31 [pv p], stH p W]) (by rintro r L ⟨L', ⟨rfl, rfl⟩, rfl⟩; exact ⟨rfl, rfl⟩)
theorem settle_steps (b5 b3 b2 p : Nat) (W : SW) (d : Dk) (hd : d.Ok) (n : Nat) (s : List UInt8) :
    StepsF [.func (.func 84) #[] #[pv b5, pv b3, pv b2], .func (.func 86) #[] #[pv b2], .func (.func 38) #[pv W.q] #[]] (recL W.q b5 b3 b2 p W d n s) (fun e L => e = (settleD d n s.length).2 ∧ L = recL W.q b5 b3 b2 p W (settleD d n s.length).1 n s) := by
  have hd1 : (cutRest d n s.length).1.Ok := by unfold cutRest; split; exact hd; exact cutD_ok hd _ _
  refine ⟨84, inferInstance, [], [pv b5, pv b3, pv b2], rfl, Spec.mono (rec1_spec b5 b3 b2 p W d hd n s) ?_⟩
  rintro r L ⟨rfl, rfl⟩
  refine ⟨_, rfl, ?_⟩
  by_cases h1 : (cutRest d n s.length).2 = 0
  · refine .inl ⟨h1, 86, inferInstance, [], [pv b2], rfl, Spec.mono (rec2_spec b5 b3 b2 p W _ hd1 n s) ?_⟩
    rintro r L ⟨rfl, rfl⟩
    refine ⟨_, rfl, ?_⟩
    by_cases h2 : (syncD (cutRest d n s.length).1 logN).2 = 0
    · refine .inl ⟨h2, 38, inferInstance, [pv W.q], [], rfl, Spec.mono (rec3_spec b5 b3 b2 p W _ (syncD_ok hd1 _) n s) ?_⟩
      rintro r L ⟨rfl, rfl⟩
      have e : settleD d n s.length = syncNamesD (syncD (cutRest d n s.length).1 logN).1 := by unfold settleD; rw [if_neg (not_not_intro h1), if_neg (not_not_intro h2)]
      refine ⟨_, rfl, ?_⟩
      by_cases h3 : (syncNamesD (syncD (cutRest d n s.length).1 logN).1).2 = 0
      · exact .inl ⟨h3, by rw [e]; exact ⟨h3.symm, rfl⟩⟩
      · exact .inr ⟨h3, by rw [e]; exact ⟨rfl, rfl⟩⟩
    · have e : settleD d n s.length = syncD (cutRest d n s.length).1 logN := by unfold settleD; rw [if_neg (not_not_intro h1), if_pos h2]
      exact .inr ⟨h2, by rw [e]; exact ⟨rfl, rfl⟩⟩
  · have e : settleD d n s.length = cutRest d n s.length := by unfold settleD; rw [if_pos h1]
    exact .inr ⟨h1, by rw [e]; exact ⟨rfl, rfl⟩⟩
/-- the store while its log is read -/
abbrev RecX (μ : PH) (W : SW) (l : List Fm) : Type := {x : SW × PH // Le μ x.2 ∧ x.1.Ok x.2 ∧ x.1.q = W.q ∧ x.1.dead = W.dead ∧ stands W.pl l = some x.1.pl}
abbrev recK (q b5 b3 b2 p : Nat) (d : Dk) (s : List UInt8) (n : Nat) (x : SW × PH) : List Assn := recL q b5 b3 b2 p x.1 d n s ++ [ttA x.1, ccA x.1, ro x.2]
def recC (μ : PH) (W : SW) (b5 b3 b2 p : Nat) (d : Dk) (s : List UInt8) (l : List Fm) : Assn := exA fun x : RecX μ W l => recK W.q b5 b3 b2 p d s (sizeF l) x.1
abbrev FinX (μ : PH) (W : SW) (l : List Fm) : Type := {x : SW × PH // Le μ x.2 ∧ x.1.Ok x.2 ∧ x.1.q = W.q ∧ x.1.dead = W.dead ∧ x.1.pl = (runS W.pl l).1}
def recF (μ : PH) (W : SW) (b5 b3 b2 p : Nat) (d : Dk) (s : List UInt8) : Assn := exA fun x : FinX μ W (scan s) => recK W.q b5 b3 b2 p d s (runS W.pl (scan s)).2 x.1
theorem StandQ.two {μ μ' : PH} {W W' : SW} {f : Fm} {r : Value} (h : StandQ μ W f r W' μ') : ∃ b : Bool, r = .bool b ∧ (b = false → stand1 W.pl f = none ∧ W'.pl = W.pl) ∧ (b = true → stand1 W.pl f = some W'.pl) := by
  obtain ⟨_, _, _, _, h⟩ := h
  rcases h with ⟨h1, h2, h3⟩ | ⟨s, h1, h2, h3⟩
  · exact ⟨false, h2, fun _ => ⟨h1, h3⟩, fun k => (by cases k)⟩
  · exact ⟨true, h2, fun k => (by cases k), fun _ => by rw [h3]; exact h1⟩
set_option maxHeartbeats 4000000 in
theorem recover_spec (μ : PH) (p : Nat) (W : SW) (hW : W.Ok μ) (d : Dk) (hd : d.Ok) (s : List UInt8) (hs : s.length ≤ 1073741824) : Spec Tryz.prog 39 [pv p, .string (str s)] [FSA W.q d, stH p W, ttA W, ccA W, ro μ]
    (fun r L => ∃ W' μ', Le μ μ' ∧ W'.Ok μ' ∧ W'.q = W.q ∧ W'.dead = W.dead ∧ W'.pl = (runS W.pl (scan s)).1 ∧ r = .int .i64 (settleD d (runS W.pl (scan s)).2 s.length).2 ∧ L = [FSA W.q (settleD d (runS W.pl (scan s)).2 s.length).1, stH p W', ttA W', ccA W', ro μ']) := by
  refine Spec.of 29 Tryz.func39 rfl rfl rfl ?_
  refine swp_sr ?_
  refine s_ef (ef_box rfl rfl) ?_
  intro b2
  refine s_ef (ef_box rfl rfl) ?_
  intro b3
  refine s_as rfl ?_
  refine swl_sub _ (sc0 2 rfl (sc0 3 rfl .nil)) ?_
  refine swl_nn ?_
  refine swp_sr ?_
  refine s_ef (ef_alloc) ?_
  intro b5
  refine s_ef0 (ef_store rfl rfl rfl) ?_
  refine swl_sub _ (sc0 2 rfl (sc0 3 rfl (sc0 5 rfl .nil))) ?_
  refine swl_nn ?_
  refine swp_cut (fun env L => Sub env [(2, pv b2), (3, pv b3), (5, pv b5)] ∧ Ent L [recF μ W b5 b3 b2 p d s]) ?_ ?_
  · skip
    refine swp_sr ?_
    refine s_rd (rd_load rfl rfl) ?_
    refine s_ef (ef_fn (each_spec s) rfl rfl sp0) ?_
    rintro v9 L1 ⟨be, rfl, rfl⟩
    refine swl_app ?_
    refine swl_sub _ (sc0 2 rfl (sc0 3 rfl (sc0 5 rfl (sc0 9 rfl .nil)))) ?_
    refine swl_nn ?_
    refine swp_block ?_
    refine swp_rangeK (each_iter be s hs) (B := recK W.q b5 b3 b2 p d s 0 (W, μ)) (fun pre => recC μ W b5 b3 b2 p d s (pre.map (·.2))) (fun _ => False) (brk 0 (recF μ W b5 b3 b2 p d s)) rfl rfl (fun _ => rfl) ((Split.ent (K := [blk be 9 [.string (str s)], FSA W.q d, blk b5 3 [.int .i64 0], blk b3 9 [.string (str s)], blk b2 31 [pv p], stH p W, ttA W, ccA W, ro μ]) sp0).trans (by rw [List.append_nil]; exact Ent.refl _)) (ent_ex1 (F := fun x : RecX μ W [] => recK W.q b5 b3 b2 p d s 0 x.1) ⟨(W, μ), Le.refl _, hW, rfl, rfl, rfl⟩) ?_ ?_ ?_ ?_
    · skip
      rintro ln pre x ⟨⟨post, hpost⟩, hx1, hx2, hx3⟩
      refine swp_ex fun ⟨⟨W1, μ1⟩, h1, h2, h3, h4, h5⟩ => ?_
      refine swp_app ?_
      dsimp only at h1 h2 h3 h4 h5 ⊢
      simp only [recK, recL, List.cons_append, List.nil_append]
      refine swp_sr ?_
      refine s_as rfl ?_
      refine swl_sub _ (sc0 2 rfl (sc0 5 rfl (sc0 6 rfl (sc0 11 rfl .nil)))) ?_
      refine swl_nn ?_
      refine swp_region ?_
      refine s_ef (ef_alloc) ?_
      intro b7
      refine s_ef0 (ef_storeA rfl rfl rfl rfl) ?_
      refine swl_sub _ (sc0 2 rfl (sc0 5 rfl (sc0 6 rfl (sc0 7 rfl .nil)))) ?_
      refine swl_nn ?_
      refine swp_block ?_
      refine swp_seq ?_
      refine swp_sr ?_
      refine s_rd (rd_load rfl rfl) ?_
      first | refine s_rd (rd_loadW rfl rfl) ?_ | refine s_rd (rd_loadX rfl rfl rfl) ?_
      refine s_ef (ef_fn (stand_spec μ1 p W1 h2 x.2 om0) rfl rfl sp0) ?_
      rintro v14 L1 ⟨W2, μ2, hst, rfl⟩
      obtain ⟨bv, rfl, hb1, hb2⟩ := hst.two
      obtain ⟨g1, g2, g3, g4, _⟩ := hst
      refine swl_app ?_
      refine s_pu (pu_not rfl) ?_
      refine swl_sub _ (sc0 5 rfl (sc0 6 rfl (sc0 7 rfl (sc0 15 rfl .nil)))) ?_
      refine swl_nn ?_
      refine swp_cond (b := _) rfl (fun h15 => ?_) (fun h15 => ?_)
      · skip   -- 15 T
        refine swp_exit ?_
        refine then_x ?_
        refine block_miss rfl ?_
        refine rnd_x ?_
        have hbv : bv = false := by simpa using h15
        obtain ⟨k1, k2⟩ := hb1 hbv
        have hrun : runS W.pl (scan s) = (W1.pl, sizeF (pre.map (·.2))) := by rw [hpost]; exact runS_stop h5 k1
        rw [brk_hit]
        refine (Split.ent' (K := [FSA W.q d, blk b5 3 [.int .i64 (sizeF (pre.map (·.2)) : Nat)], blk b3 9 [.string (str s)], blk b2 31 [pv p], stH p W2, ttA W2, ccA W2, ro μ2]) sp0).trans ?_
        have e2 : sizeF (pre.map (·.2)) = (runS W.pl (scan s)).2 := by rw [hrun]
        rw [e2]
        exact ent_ex1 (F := fun x : FinX μ W (scan s) => recK W.q b5 b3 b2 p d s (runS W.pl (scan s)).2 x.1) ⟨(W2, μ2), h1.trans g1, g2, g3.trans h3, g4.trans h4, by rw [hrun]; exact k2⟩
      · skip   -- 15 F
        refine swp_skip ?_
        refine then_n ?_
        refine swp_region ?_
        refine s_mv rfl ?_
        first | refine s_rd (rd_loadW rfl rfl) ?_ | refine s_rd (rd_loadX rfl rfl rfl) ?_
        have hsz : x.1 + (x.2.2.length + 9) = sizeF ((pre ++ [x]).map (·.2)) := by
          rw [List.map_append, sizeF_app, ← hx1]
          show _ = x.1 + (x.2.2.length + 9 + 0)
          omega
        refine s_ef (ef_fn (fsize_spec x.2 hx2) rfl rfl sp0) ?_
        rintro v18 L2 ⟨rfl, rfl⟩
        refine swl_app ?_
        refine s_pu (pu_add_as ((sizeF ((pre ++ [x]).map (·.2)) : Nat) : Int) rfl rfl om0 om0 om0) ?_
        refine s_ef0 (ef_store rfl rfl rfl) ?_
        refine swl_sub _ .nil ?_
        refine swl_nil ?_
        refine block_n ?_
        refine rnd_n ?_
        have hbv : bv = true := by simpa using h15
        have k1 := hb2 hbv
        refine (Split.ent' (K := [FSA W.q d, blk b5 3 [.int .i64 (sizeF ((pre ++ [x]).map (·.2)) : Nat)], blk b3 9 [.string (str s)], blk b2 31 [pv p], stH p W2, ttA W2, ccA W2, ro μ2]) sp0).trans ?_
        exact ent_ex1 (F := fun y : RecX μ W ((pre ++ [x]).map (·.2)) => recK W.q b5 b3 b2 p d s (sizeF ((pre ++ [x]).map (·.2))) y.1) ⟨(W2, μ2), h1.trans g1, g2, g3.trans h3, g4.trans h4, by rw [List.map_append]; exact stands_snoc h5 k1⟩
    · skip
      rintro ys hys
      refine block_n ?_
      refine then_n ⟨⟨rfl, rfl, rfl, trivial⟩, ?_⟩
      rw [hys]
      refine ent_open fun ⟨⟨W1, μ1⟩, h1, h2, h3, h4, h5⟩ => ?_
      have hrun := runS_all h5
      have e2 : sizeF (scan s) = (runS W.pl (scan s)).2 := by rw [hrun]
      rw [e2]
      simp only [recK, recL, List.cons_append, List.nil_append]
      refine (Split.ent' (K := [FSA W.q d, blk b5 3 [.int .i64 ((runS W.pl (scan s)).2 : Nat)], blk b3 9 [.string (str s)], blk b2 31 [pv p], stH p W1, ttA W1, ccA W1, ro μ1]) sp0).trans ?_
      exact ent_ex1 (F := fun x : FinX μ W (scan s) => recK W.q b5 b3 b2 p d s (runS W.pl (scan s)).2 x.1) ⟨(W1, μ1), h1, h2, h3, h4, by rw [hrun]⟩
    · exact swp_fact (p := False) (fun m h => by obtain ⟨_, _, h, _⟩ := h; exact h) False.elim
    · intro j
      by_cases hj : j = 0
      · subst hj
        refine swp_exit ?_
        refine block_hit rfl ?_
        exact then_n ⟨⟨rfl, rfl, rfl, trivial⟩, by rw [brk_hit]; exact Split.ent' sp0⟩
      · exact swp_fact (p := False) (fun m h => by obtain ⟨_, _, h, _⟩ := h; exact brk_miss _ hj h) False.elim
  rintro env L ⟨hsub, hE⟩
  refine swp_sub _ hsub ?_
  refine swp_ent hE ?_
  clear hsub hE env L
  refine swp_ex fun ⟨⟨W1, μ1⟩, h1, h2, h3, h4, h5⟩ => ?_
  refine swp_app ?_
  dsimp only at h1 h2 h3 h4 h5 ⊢
  simp only [recK, recL, List.cons_append, List.nil_append]
  generalize (runS W.pl (scan s)).2 = n at *
  rw [← h3]
  refine swp_sr ?_
  refine s_pu (pu_func (vs := []) (us := [_, _, _]) rfl rfl) ?_
  refine s_pu (pu_func (vs := []) (us := [_]) rfl rfl) ?_
  refine s_rd (rd_load rfl rfl) ?_
  first | refine s_pu (pu_nilCheck rfl) ?_ | refine s_pu (pu_nilCheck_fn rfl) ?_ | refine s_pu (pu_nilCheck_if rfl) ?_
  first | refine s_pu (pu_fieldAddr0 rfl) ?_ | refine s_pu (pu_fieldAddr rfl) ?_
  refine s_rd (rd_load rfl rfl) ?_
  refine s_pu (pu_func (vs := [_]) (us := []) rfl rfl) ?_
  refine s_ef (ef_bldS (qs := [(0, _), (1, _), (2, _)]) rfl rfl rfl) ?_
  intro b27
  refine s_ef (ef_fn (first_spec b27 3 [.func (.func 84) #[] #[pv b5, pv b3, pv b2], .func (.func 86) #[] #[pv b2], .func (.func 38) #[pv W1.q] #[]] (recL W1.q b5 b3 b2 p W1 d n s) _ (by show 3 ≤ 1000; decide) (settle_steps b5 b3 b2 p W1 d hd n s)) rfl rfl sp0) ?_
  rintro v28 L1 ⟨e, L2, rfl, ⟨rfl, rfl⟩, rfl⟩
  refine swl_app ?_
  refine s_as rfl ?_
  refine swl_sub _ (sc0 4 rfl .nil) ?_
  refine swl_nn ?_
  refine swp_ret ?_
  exact done_ret [FSA W1.q (settleD d n s.length).1, stH p W1, ttA W1, ccA W1, ro μ1] (.tmp rfl .nil) ⟨W1, μ1, h1, h2, rfl, h4, h5, rfl, rfl⟩ sp0
end SX
namespace SX
open Go Go.Proofs
theorem readD_len {d : Dk} (h : d.Ok) (s : ByteArray) : (readD d s).1.length ≤ 1073741824 := by
  unfold readD
  split
  · exact Nat.zero_le _
  · split
    · exact Nat.zero_le _
    · rename_i k hk
      have := (Dk.fl_ok h k).1
      unfold mostF at this
      show (d.fl k).bytes.length ≤ _
      omega
theorem readD_err {d : Dk} {s : ByteArray} (h : (readD d s).2 ≠ 0) : (readD d s).1 = [] := by
  unfold readD at h ⊢
  split
  · rfl
  · split
    · rfl
    · rename_i h1 _ _ hk
      rw [if_neg h1, hk] at h
      exact absurd rfl h
/-- a new log -/
def freshD (d : Dk) : Dk × Int := if (createD d logN).2 ≠ 0 then createD d logN else syncNamesD (createD d logN).1
/-- the trees and commits of a log -/
def openS (d : Dk) : St2 := (runS ([], []) (scan (readD d logN).1)).1
def openD (d : Dk) : Dk × Int := if (readD d logN).2 = 6 then freshD d else if (readD d logN).2 ≠ 0 then (d, (readD d logN).2) else
  settleD d (runS ([], []) (scan (readD d logN).1)).2 (readD d logN).1.length
theorem open1_spec (b1 q : Nat) (d : Dk) (hd : d.Ok) (hw : Few d) : Spec Tryz.prog 36 [pv b1] [FSA q d, blk b1 27 [pv q]] (fun r L => r = .int .i64 (createD d logN).2 ∧ L = [FSA q (createD d logN).1, blk b1 27 [pv q]]) := by
  refine Spec.of 4 Tryz.func36 rfl rfl rfl ?_
  refine swp_sr ?_
  refine s_as rfl ?_
  refine swl_sub _ (sc0 0 rfl .nil) ?_
  refine swl_nn ?_
  refine swp_sr ?_
  refine s_rd (rd_load rfl rfl) ?_
  refine s_ef (ef_fn (create_spec q d hd hw logN) rfl rfl sp0) ?_
  rintro v3 L1 ⟨rfl, rfl⟩
  refine swl_app ?_
  refine s_as rfl ?_
  refine swl_sub _ (sc0 1 rfl .nil) ?_
  refine swl_nn ?_
  refine swp_ret ?_
  exact done_ret [FSA q (createD d logN).1, blk b1 27 [pv q]] (.tmp rfl .nil) ⟨rfl, rfl⟩ sp0
theorem fresh_steps (b1 q : Nat) (d : Dk) (hd : d.Ok) (hw : Few d) :
    StepsF [.func (.func 36) #[] #[pv b1], .func (.func 38) #[pv q] #[]] [FSA q d, blk b1 27 [pv q]] (fun e L => e = (freshD d).2 ∧ L = [FSA q (freshD d).1, blk b1 27 [pv q]]) := by
  have hd1 := createD_ok hd logN
  refine ⟨36, inferInstance, [], [pv b1], rfl, Spec.mono (open1_spec b1 q d hd hw) ?_⟩
  rintro r L ⟨rfl, rfl⟩
  refine ⟨_, rfl, ?_⟩
  by_cases h1 : (createD d logN).2 = 0
  · refine .inl ⟨h1, 38, inferInstance, [pv q], [], rfl, Spec.mono (Spec.fr (syncn_spec q _ hd1) [blk b1 27 [pv q]]) ?_⟩
    rintro r L ⟨L', ⟨rfl, rfl⟩, rfl⟩
    have e : freshD d = syncNamesD (createD d logN).1 := by unfold freshD; rw [if_neg (not_not_intro h1)]
    refine ⟨_, rfl, ?_⟩
    by_cases h3 : (syncNamesD (createD d logN).1).2 = 0
    · exact .inl ⟨h3, by rw [e]; exact ⟨h3.symm, rfl⟩⟩
    · exact .inr ⟨h3, by rw [e]; exact ⟨rfl, rfl⟩⟩
  · have e : freshD d = createD d logN := by unfold freshD; rw [if_pos h1]
    exact .inr ⟨h1, by rw [e]; exact ⟨rfl, rfl⟩⟩
/-- what opening answers -/
def OpenQ (μ : PH) (q : Nat) (d : Dk) (e : Int) (W : SW) (μ' : PH) : Prop := Le μ μ' ∧ W.Ok μ' ∧ W.q = q ∧ W.dead = false ∧ e = (openD d).2 ∧ (e = 0 → W.pl = openS d)
abbrev newSW (q : Nat) : SW := ⟨q, .slice none 0 0, .slice none 0 0, [], [], false⟩
theorem newSW_ok (μ : PH) (q : Nat) : (newSW q).Ok μ := ⟨⟨none, 0, rfl⟩, ⟨none, 0, rfl⟩, fun x hx => (by cases hx), fun x hx => (by cases hx), Nat.zero_le _, Nat.zero_le _⟩
set_option maxHeartbeats 4000000 in
theorem open_spec (μ : PH) (q : Nat) (d : Dk) (hd : d.Ok) (hw : Few d) : Spec Tryz.prog 9 [pv q] [FSA q d, ro μ] (fun r L => ∃ p W μ' e, OpenQ μ q d e W μ' ∧ r = .tuple #[if e = 0 then pv p else .pointer none, .int .i64 e] ∧ L = [FSA q (openD d).1, stH p W, ttA W, ccA W, ro μ']) := by
  refine Spec.of 34 Tryz.func9 rfl rfl rfl ?_
  refine swp_sr ?_
  refine s_ef (ef_box rfl rfl) ?_
  intro b1
  refine s_as rfl ?_
  refine s_as rfl ?_
  refine swl_sub _ (sc0 1 rfl .nil) ?_
  refine swl_nn ?_
  refine swp_seq ?_
  refine swp_sr ?_
  refine s_rd (rd_load rfl rfl) ?_
  refine s_pu (pu_ptr_eq_nil rfl rfl) ?_
  refine swl_sub _ (sc0 1 rfl (sc0 8 rfl .nil)) ?_
  refine swl_nn ?_
  refine swp_cond (b := _) rfl (fun h8 => by cases h8) (fun h8 => ?_)
  refine swp_skip ?_
  refine then_n ?_
  refine swp_sr ?_
  refine s_rd (rd_load rfl rfl) ?_
  refine s_pu (pu_bld (qs := [(0, _)]) rfl) ?_
  refine s_ef (ef_box rfl rfl) ?_
  intro b11
  refine s_as rfl ?_
  refine swl_sub _ (sc0 1 rfl (sc0 4 rfl .nil)) ?_
  refine swl_ent (own_nil_ent (e := 22) (n := 1)) ?_
  refine swl_ent (own_nil_ent (e := 25) (n := 2)) ?_
  refine swl_ent (L' := [FSA q d, stH b11 (newSW q), ttA (newSW q), ccA (newSW q), blk b1 27 [pv q], ro μ]) ?_ ?_
  · show Ent [own 25 2 (.slice none 0 0) 0 [], own 22 1 (.slice none 0 0) 0 [], blk b11 83 [pv q, .slice none 0 0, .slice none 0 0, .bool false], blk b1 27 [pv q], FSA q d, ro μ] [FSA q d, blk b11 83 [pv q, .slice none 0 0, .slice none 0 0, .bool false], own 22 1 (.slice none 0 0) 0 [], own 25 2 (.slice none 0 0) 0 [], blk b1 27 [pv q], ro μ]
    exact Split.ent' sp0
  refine swl_nn ?_
  refine swp_sr ?_
  refine s_rd (rd_load rfl rfl) ?_
  refine s_ef (ef_fn (read_spec q d hd logN) rfl rfl sp0) ?_
  rintro v14 L1 ⟨rfl, rfl⟩
  rw [show (⟨(readD d logN).1.toArray⟩ : ByteArray) = str (readD d logN).1 from rfl]
  refine swl_app ?_
  refine s_mv rfl ?_
  first | refine s_pu (pu_extractL rfl) ?_ | refine s_pu (pu_extract rfl rfl) ?_
  first | refine s_pu (pu_extractL rfl) ?_ | refine s_pu (pu_extract rfl rfl) ?_
  refine s_as rfl ?_
  refine s_as rfl ?_
  refine swl_sub _ (sc0 1 rfl (sc0 4 rfl (sc0 5 rfl (sc0 6 rfl .nil)))) ?_
  refine swl_nn ?_
  refine swp_cut (fun env L => ∃ W μ' e, OpenQ μ q d e W μ' ∧ Sub env [(4, pv b11), (6, .int .i64 e)] ∧ Ent L [FSA q (openD d).1, stH b11 W, ttA W, ccA W, ro μ']) ?_ ?_
  · skip
    refine swp_sr ?_
    refine s_mv rfl ?_
    refine swl_sub _ (sc0 1 rfl (sc0 4 rfl (sc0 5 rfl (sc0 6 rfl (sc0 17 rfl .nil))))) ?_
    refine swl_nn ?_
    refine swp_block ?_
    refine swp_sr ?_
    refine s_pu (pu_eql rfl rfl) ?_
    refine s_as rfl ?_
    refine swl_sub _ (sc0 1 rfl (sc0 4 rfl (sc0 5 rfl (sc0 6 rfl (sc0 17 rfl (sc0 18 rfl .nil)))))) ?_
    refine swl_nn ?_
    refine swp_cond (b := _) rfl (fun h18 => ?_) (fun h18 => ?_)
    · skip   -- 18 T
      refine swp_region ?_
      refine s_pu (pu_func (vs := []) (us := [_]) rfl rfl) ?_
      refine s_rd (rd_load rfl rfl) ?_
      refine s_pu (pu_func (vs := [_]) (us := []) rfl rfl) ?_
      refine s_ef (ef_bldS (qs := [(0, _), (1, _)]) rfl rfl rfl) ?_
      intro b23
      refine s_ef (ef_fn (first_spec b23 2 [.func (.func 36) #[] #[pv b1], .func (.func 38) #[pv q] #[]] [FSA q d, blk b1 27 [pv q]] _ (by show 2 ≤ 1000; decide) (fresh_steps b1 q d hd hw)) rfl rfl sp0) ?_
      rintro v24 L1 ⟨e, L2, rfl, ⟨rfl, rfl⟩, rfl⟩
      refine swl_app ?_
      refine s_as rfl ?_
      refine swl_sub _ (sc0 4 rfl (sc0 6 rfl .nil)) ?_
      refine swl_nil ?_
      refine block_n ?_
      have h18' : (readD d logN).2 = 6 := by simpa using h18
      have he : openD d = freshD d := by unfold openD; rw [if_pos h18']
      have hs : openS d = ([], []) := by unfold openS; rw [readD_err (by rw [h18']; decide)]; rfl
      refine then_n ⟨newSW q, μ, _, ⟨Le.refl _, newSW_ok μ q, rfl, rfl, by rw [he], fun _ => by rw [hs]; rfl⟩, ⟨rfl, rfl, trivial⟩, ?_⟩
      rw [he]
      exact Split.ent' sp0
    · skip   -- 18 F
      refine swp_sr ?_
      refine s_pu (pu_eql rfl rfl) ?_
      refine s_as rfl ?_
      refine swl_sub _ (sc0 4 rfl (sc0 5 rfl (sc0 6 rfl (sc0 25 rfl .nil)))) ?_
      refine swl_nn ?_
      refine swp_cond (b := _) rfl (fun h25 => ?_) (fun h25 => ?_)
      · skip   -- 25 T
        refine swp_region ?_
        refine s_mv rfl ?_
        refine s_mv rfl ?_
        refine s_ef (ef_fn (recover_spec μ b11 (newSW q) (newSW_ok μ q) d hd (readD d logN).1 (readD_len hd logN)) rfl rfl sp0) ?_
        rintro v29 L1 ⟨W', μ', g1, g2, g3, g4, g5, rfl, rfl⟩
        refine swl_app ?_
        refine s_as rfl ?_
        refine swl_sub _ (sc0 4 rfl (sc0 6 rfl .nil)) ?_
        refine swl_nil ?_
        refine block_n ?_
        have h18' : (readD d logN).2 ≠ 6 := by simpa using h18
        have h25' : (readD d logN).2 = 0 := by simpa using h25
        have he : openD d = settleD d (runS ([], []) (scan (readD d logN).1)).2 (readD d logN).1.length := by unfold openD; rw [if_neg h18', if_neg (not_not_intro h25')]
        refine then_n ⟨W', μ', _, ⟨g1, g2, g3, g4, by rw [he]; rfl, fun _ => g5⟩, ⟨rfl, rfl, trivial⟩, ?_⟩
        rw [he]
        show Ent [FSA q (settleD d (runS ([], []) (scan (readD d logN).1)).2 (readD d logN).1.length).1, stH b11 W', ttA W', ccA W', ro μ', blk b1 27 [pv q]] _
        exact Split.ent' sp0
      · skip   -- 25 F
        refine swp_skip ?_
        refine block_n ?_
        have h18' : (readD d logN).2 ≠ 6 := by simpa using h18
        have h25' : (readD d logN).2 ≠ 0 := by simpa using h25
        have he : openD d = (d, (readD d logN).2) := by unfold openD; rw [if_neg h18', if_pos h25']
        refine then_n ⟨newSW q, μ, _, ⟨Le.refl _, newSW_ok μ q, rfl, rfl, by rw [he], fun k => absurd k h25'⟩, ⟨rfl, rfl, trivial⟩, ?_⟩
        rw [he]
        exact Split.ent' sp0
  rintro env L ⟨W, μ', e, hq, hsub, hE⟩
  refine swp_sub _ hsub ?_
  refine swp_ent hE ?_
  clear hsub hE env L
  refine swp_seq ?_
  refine swp_sr ?_
  refine s_mv rfl ?_
  refine s_pu (pu_neq rfl rfl) ?_
  refine swl_sub _ (sc0 4 rfl (sc0 6 rfl (sc0 31 rfl .nil))) ?_
  refine swl_nn ?_
  refine swp_cond (b := _) rfl (fun h31 => ?_) (fun h31 => ?_)
  · skip   -- 31 T
    refine swp_sr ?_
    refine s_mv rfl ?_
    refine s_as rfl ?_
    refine s_as rfl ?_
    refine swl_sub _ (sc0 2 rfl (sc0 3 rfl .nil)) ?_
    refine swl_nn ?_
    refine swp_ret ?_
    refine then_r ?_
    have h31' : e ≠ 0 := by simpa using h31
    exact done_ret [FSA q (openD d).1, stH b11 W, ttA W, ccA W, ro μ'] (.tmp rfl (.tmp rfl .nil)) ⟨b11, W, μ', e, hq, by rw [if_neg h31']; rfl, rfl⟩ sp0
  · skip   -- 31 F
    refine swp_skip ?_
    refine then_n ?_
    refine swp_sr ?_
    refine s_mv rfl ?_
    refine s_as rfl ?_
    refine s_as rfl ?_
    refine swl_sub _ (sc0 2 rfl (sc0 3 rfl .nil)) ?_
    refine swl_nn ?_
    refine swp_ret ?_
    have h31' : e = 0 := by simpa using h31
    subst h31'
    exact done_ret [FSA q (openD d).1, stH b11 W, ttA W, ccA W, ro μ'] (.tmp rfl (.tmp rfl .nil)) ⟨b11, W, μ', 0, hq, by rw [if_pos rfl]; rfl, rfl⟩ sp0
end SX
namespace SX
open Go Go.Proofs
theorem cloneT_spec (μ : PH) (v : Value) (t : List En) (hv : Row μ v 2 t.length (ens t)) (hl : t.length ≤ 1048576) : Spec Tryz.prog 47 [v] [ro μ] (fun r L => ∃ A c, r = .slice A t.length c ∧ L = [own 47 2 (.slice A t.length c) t.length (ens t), ro μ]) := by
  obtain ⟨A, cap, rfl⟩ := hv.sl
  refine Spec.of 8 Tryz.func47 rfl rfl rfl ?_
  refine swp_sr ?_
  refine s_as rfl ?_
  refine swl_sub _ (sc0 0 rfl .nil) ?_
  refine swl_nn ?_
  refine swp_seq ?_
  refine swp_sr ?_
  refine s_mv rfl ?_
  refine s_pu (pu_sl_eq_nil rfl rfl) ?_
  refine swl_sub _ (sc0 0 rfl (sc0 4 rfl .nil)) ?_
  refine swl_nn ?_
  refine swp_cond (b := _) rfl (fun h4 => ?_) (fun h4 => ?_)
  · skip   -- 4 T
    refine swp_sr ?_
    refine s_as rfl ?_
    refine swl_sub _ (sc0 2 rfl .nil) ?_
    refine swl_nn ?_
    refine swp_ret ?_
    refine then_r ?_
    have hA : A = none := by cases A <;> simp_all
    subst hA
    have h0 : t = [] := by
      cases t with
      | nil => rfl
      | cons x l => obtain ⟨b, o, c, h, _⟩ := hv.pos (by simp); cases h
    subst h0
    exact done_retE [own 47 2 (.slice none 0 0) 0 [], ro μ] (.tmp rfl .nil) ⟨none, 0, rfl, rfl⟩ own_nil_ent
  · skip   -- 4 F
    refine swp_skip ?_
    refine then_n ?_
    refine swp_sr ?_
    refine s_ef (ef_bldS (qs := []) rfl rfl rfl) ?_
    intro b5
    refine s_mv rfl ?_
    refine swl_ent (own_empty (n := 2)) ?_
    refine s_ef (ef_append_ro hv rfl rfl sp0 (ens_one _) (by simp only [maxLen]; omega) om0) ?_
    rintro v7 -
    rw [Nat.zero_add, List.nil_append]
    refine swl_fact (fun m h => own_form h) fun ⟨A7, c7, hv7⟩ => ?_
    subst hv7
    refine s_as rfl ?_
    refine swl_sub _ (sc0 2 rfl .nil) ?_
    refine swl_nn ?_
    refine swp_ret ?_
    exact done_ret [own 47 2 (.slice A7 t.length c7) t.length (ens t), ro μ] (.tmp rfl .nil) ⟨A7, c7, rfl, rfl⟩ sp0
theorem cloneI_spec (μ : PH) (v : Value) (xs : List Int) (hv : Row μ v 1 xs.length (xs.flatMap (icsk .i64))) (hl : xs.length ≤ 1048576) : Spec Tryz.prog 50 [v] [ro μ] (fun r L => ∃ A c, r = .slice A xs.length c ∧ L = [own 3 1 (.slice A xs.length c) xs.length (xs.flatMap (icsk .i64)), ro μ]) := by
  obtain ⟨A, cap, rfl⟩ := hv.sl
  refine Spec.of 8 Tryz.func50 rfl rfl rfl ?_
  refine swp_sr ?_
  refine s_as rfl ?_
  refine swl_sub _ (sc0 0 rfl .nil) ?_
  refine swl_nn ?_
  refine swp_seq ?_
  refine swp_sr ?_
  refine s_mv rfl ?_
  refine s_pu (pu_sl_eq_nil rfl rfl) ?_
  refine swl_sub _ (sc0 0 rfl (sc0 4 rfl .nil)) ?_
  refine swl_nn ?_
  refine swp_cond (b := _) rfl (fun h4 => ?_) (fun h4 => ?_)
  · skip   -- 4 T
    refine swp_sr ?_
    refine s_as rfl ?_
    refine swl_sub _ (sc0 2 rfl .nil) ?_
    refine swl_nn ?_
    refine swp_ret ?_
    refine then_r ?_
    have hA : A = none := by cases A <;> simp_all
    subst hA
    have h0 : xs = [] := by
      cases xs with
      | nil => rfl
      | cons x l => obtain ⟨b, o, c, h, _⟩ := hv.pos (by simp); cases h
    subst h0
    exact done_retE [own 3 1 (.slice none 0 0) 0 [], ro μ] (.tmp rfl .nil) ⟨none, 0, rfl, rfl⟩ own_nil_ent
  · skip   -- 4 F
    refine swp_skip ?_
    refine then_n ?_
    refine swp_sr ?_
    refine s_ef (ef_bldS (qs := []) rfl rfl rfl) ?_
    intro b5
    refine s_mv rfl ?_
    refine swl_ent (own_empty (n := 1)) ?_
    refine s_ef (ef_append_ro hv rfl rfl sp0 (icsk_one _) (by simp only [maxLen]; omega) om0) ?_
    rintro v7 -
    rw [Nat.zero_add, List.nil_append]
    refine swl_fact (fun m h => own_form h) fun ⟨A7, c7, hv7⟩ => ?_
    subst hv7
    refine s_as rfl ?_
    refine swl_sub _ (sc0 2 rfl .nil) ?_
    refine swl_nn ?_
    refine swp_ret ?_
    exact done_ret [own 3 1 (.slice A7 xs.length c7) xs.length (xs.flatMap (icsk .i64)), ro μ] (.tmp rfl .nil) ⟨A7, c7, rfl, rfl⟩ sp0
/-- a record, on the disk -/
def writeD (d : Dk) (f : Fm) : Dk × Int := if (appendD d logN (encFm f)).2 ≠ 0 then appendD d logN (encFm f) else syncD (appendD d logN (encFm f)).1 logN
theorem append_l (q : Nat) (d : Dk) (hd : d.Ok) (s : ByteArray) (l : List UInt8) (hl : l.length ≤ 1048576) : Spec Tryz.prog 63 [pv q, .string s, .string (str l)] [FSA q d] (fun r L => r = .int .i64 (appendD d s l).2 ∧ L = [FSA q (appendD d s l).1]) := append_spec q d hd s (str l) (Nat.le_trans hl (by decide))
abbrev wriL (b3 b7 p : Nat) (W : SW) (d : Dk) (f : Fm) : List Assn := [FSA W.q d, blk b3 31 [pv p], blk b7 9 [.string (str (encFm f))], stH p W]
theorem wri1_spec (b3 b7 p : Nat) (W : SW) (d : Dk) (hd : d.Ok) (f : Fm) (hf : f.2.length ≤ 1048567) : Spec Tryz.prog 98 [pv b3, pv b7] (wriL b3 b7 p W d f) (fun r L => r = .int .i64 (appendD d logN (encFm f)).2 ∧ L = wriL b3 b7 p W (appendD d logN (encFm f)).1 f) := by
  refine Spec.of 9 Tryz.func98 rfl rfl rfl ?_
  refine swp_sr ?_
  refine s_as rfl ?_
  refine swl_sub _ (sc0 0 rfl (sc0 1 rfl .nil)) ?_
  refine swl_nn ?_
  refine swp_seq ?_
  refine swp_draw [0, 3, 4] _ [] (by simp only [List.append_nil]; exact Ent.refl _) kr0 ?_
  refine d_rd 0 rfl (rd_load rfl rfl) rfl kr0 kr0 kr0 ?_
  first | refine d_pu 1 rfl (pu_nilCheck rfl) kr0 kr0 kr0 ?_ | refine d_pu 1 rfl (pu_nilCheck_fn rfl) kr0 kr0 kr0 ?_ | refine d_pu 1 rfl (pu_nilCheck_if rfl) kr0 kr0 kr0 ?_
  first | refine d_pu 2 rfl (pu_fieldAddr0 rfl) kr0 kr0 kr0 ?_ | refine d_pu 2 rfl (pu_fieldAddr rfl) kr0 kr0 kr0 ?_
  refine d_rd 3 rfl (rd_load rfl rfl) rfl kr0 kr0 kr0 ?_
  refine d_rd 4 rfl (rd_load rfl rfl) rfl kr0 kr0 kr0 ?_
  first | refine d_fint 5 rfl kr0 kr0 (ef_fn (append_l W.q d hd logN (encFm f) (by rw [encFm_len]; omega)) rfl rfl sp0) ?_ | refine d_finf 5 rfl kr0 kr0 (ef_fn (append_l W.q d hd logN (encFm f) (by rw [encFm_len]; omega)) rfl rfl sp0) ?_
  rintro v8 L1 ⟨rfl, rfl⟩
  refine swd_app ?_
  refine d_pu 6 rfl (pu_assign rfl) kr0 kr0 kr0 ?_
  refine d_sub _ (sc0 2 rfl .nil) ?_
  first | refine d_nilt kr0 ?_ | refine d_nilf kr0 ?_
  refine then_n ?_
  refine swp_ret ?_
  exact done_ret (wriL b3 b7 p W (appendD d logN (encFm f)).1 f) (.tmp rfl .nil) ⟨rfl, rfl⟩ sp0
theorem wri2_spec (b3 b7 p : Nat) (W : SW) (d : Dk) (hd : d.Ok) (f : Fm) : Spec Tryz.prog 99 [pv b3] (wriL b3 b7 p W d f) (fun r L => r = .int .i64 (syncD d logN).2 ∧ L = wriL b3 b7 p W (syncD d logN).1 f) := by
  refine Spec.of 7 Tryz.func99 rfl rfl rfl ?_
  refine swp_sr ?_
  refine s_as rfl ?_
  refine swl_sub _ (sc0 0 rfl .nil) ?_
  refine swl_nn ?_
  refine swp_sr ?_
  refine s_rd (rd_load rfl rfl) ?_
  first | refine s_pu (pu_nilCheck rfl) ?_ | refine s_pu (pu_nilCheck_fn rfl) ?_ | refine s_pu (pu_nilCheck_if rfl) ?_
  first | refine s_pu (pu_fieldAddr0 rfl) ?_ | refine s_pu (pu_fieldAddr rfl) ?_
  refine s_rd (rd_load rfl rfl) ?_
  refine s_ef (ef_fn (sync_spec W.q d hd logN) rfl rfl sp0) ?_
  rintro v6 L1 ⟨rfl, rfl⟩
  refine swl_app ?_
  refine s_as rfl ?_
  refine swl_sub _ (sc0 1 rfl .nil) ?_
  refine swl_nn ?_
  refine swp_ret ?_
  exact done_ret (wriL b3 b7 p W (syncD d logN).1 f) (.tmp rfl .nil) ⟨rfl, rfl⟩ sp0
theorem write_steps (b3 b7 p : Nat) (W : SW) (d : Dk) (hd : d.Ok) (f : Fm) (hf : f.2.length ≤ 1048567) :
    StepsF [.func (.func 98) #[] #[pv b3, pv b7], .func (.func 99) #[] #[pv b3]] (wriL b3 b7 p W d f) (fun e L => e = (writeD d f).2 ∧ L = wriL b3 b7 p W (writeD d f).1 f) := by
  have hd1 := appendD_ok hd logN (encFm f)
  refine ⟨98, inferInstance, [], [pv b3, pv b7], rfl, Spec.mono (wri1_spec b3 b7 p W d hd f hf) ?_⟩
  rintro r L ⟨rfl, rfl⟩
  refine ⟨_, rfl, ?_⟩
  by_cases h1 : (appendD d logN (encFm f)).2 = 0
  · refine .inl ⟨h1, 99, inferInstance, [], [pv b3], rfl, Spec.mono (wri2_spec b3 b7 p W _ hd1 f) ?_⟩
    rintro r L ⟨rfl, rfl⟩
    have e : writeD d f = syncD (appendD d logN (encFm f)).1 logN := by unfold writeD; rw [if_neg (not_not_intro h1)]
    refine ⟨_, rfl, ?_⟩
    by_cases h3 : (syncD (appendD d logN (encFm f)).1 logN).2 = 0
    · exact .inl ⟨h3, by rw [e]; exact ⟨h3.symm, rfl⟩⟩
    · exact .inr ⟨h3, by rw [e]; exact ⟨rfl, rfl⟩⟩
  · have e : writeD d f = appendD d logN (encFm f) := by unfold writeD; rw [if_pos h1]
    exact .inr ⟨h1, by rw [e]; exact ⟨rfl, rfl⟩⟩
theorem writeD_ok {d : Dk} (hd : d.Ok) (f : Fm) : (writeD d f).1.Ok := by
  unfold writeD
  split
  · exact appendD_ok hd _ _
  · exact syncD_ok (appendD_ok hd _ _) _
set_option maxHeartbeats 2000000 in
theorem write_spec (p : Nat) (W : SW) (d : Dk) (hd : d.Ok) (f : Fm) (h1 : 0 < f.1) (h2 : f.1 < 256) (hf : f.2.length ≤ 1048567) : Spec Tryz.prog 46 [pv p, .int .i64 (f.1 : Nat), .string (str f.2)] [FSA W.q d, stH p W] (fun r L => r = .int .i64 (writeD d f).2 ∧ L = [FSA W.q (writeD d f).1, stH p { W with dead := decide ((writeD d f).2 = 8) }]) := by
  refine Spec.of 28 Tryz.func46 rfl rfl rfl ?_
  refine swp_sr ?_
  refine s_ef (ef_box rfl rfl) ?_
  intro b3
  refine s_as rfl ?_
  refine swl_sub _ (sc0 1 rfl (sc0 2 rfl (sc0 3 rfl .nil))) ?_
  refine swl_nn ?_
  refine swp_sr ?_
  refine s_mv rfl ?_
  refine s_mv rfl ?_
  refine s_pu (pu_bld (qs := [(0, _), (1, _)]) rfl) ?_
  refine s_ef (ef_fn (fenc_spec f h1 h2 om0) rfl rfl sp0) ?_
  rintro v13 L1 ⟨rfl, rfl⟩
  refine swl_app ?_
  refine s_mv rfl ?_
  first | refine s_pu (pu_extractL rfl) ?_ | refine s_pu (pu_extract rfl rfl) ?_
  first | refine s_pu (pu_extractL rfl) ?_ | refine s_pu (pu_extract rfl rfl) ?_
  refine s_ef (ef_alloc) ?_
  intro b7
  refine s_ef0 (ef_store rfl rfl rfl) ?_
  refine s_as rfl ?_
  refine swl_sub _ (sc0 3 rfl (sc0 7 rfl (sc0 8 rfl .nil))) ?_
  refine swl_nn ?_
  refine swp_seq ?_
  refine swp_sr ?_
  refine s_mv rfl ?_
  refine s_pu (pu_eql rfl rfl) ?_
  refine swl_sub _ (sc0 3 rfl (sc0 7 rfl (sc0 8 rfl (sc0 17 rfl .nil)))) ?_
  refine swl_nn ?_
  refine swp_cond (b := _) rfl (fun h17 => ?_) (fun h17 => by cases h17)
  refine swp_region ?_
  refine s_pu (pu_func (vs := []) (us := [_, _]) rfl rfl) ?_
  refine s_pu (pu_func (vs := []) (us := [_]) rfl rfl) ?_
  refine s_ef (ef_bldS (qs := [(0, _), (1, _)]) rfl rfl rfl) ?_
  intro b20
  refine s_ef (ef_fn (first_spec b20 2 [.func (.func 98) #[] #[pv b3, pv b7], .func (.func 99) #[] #[pv b3]] (wriL b3 b7 p W d f) _ (by show 2 ≤ 1000; decide) (write_steps b3 b7 p W d hd f hf)) rfl rfl sp0) ?_
  rintro v21 L1 ⟨e, L2, rfl, ⟨rfl, rfl⟩, rfl⟩
  refine swl_app ?_
  refine s_as rfl ?_
  refine swl_sub _ (sc0 3 rfl (sc0 8 rfl .nil)) ?_
  refine swl_nn ?_
  refine swp_sr ?_
  refine s_rd (rd_load rfl rfl) ?_
  refine s_mv rfl ?_
  refine s_pu (pu_eql rfl rfl) ?_
  first | refine s_pu (pu_nilCheck rfl) ?_ | refine s_pu (pu_nilCheck_fn rfl) ?_ | refine s_pu (pu_nilCheck_if rfl) ?_
  first | refine s_pu (pu_fieldAddr0 rfl) ?_ | refine s_pu (pu_fieldAddr rfl) ?_
  refine s_ef0 (ef_store rfl rfl rfl) ?_
  refine swl_sub _ (sc0 8 rfl .nil) ?_
  refine swl_nn ?_
  refine swp_sr ?_
  refine s_mv rfl ?_
  refine s_as rfl ?_
  refine swl_sub _ (sc0 6 rfl .nil) ?_
  refine swl_nn ?_
  refine swp_ret ?_
  exact done_ret [FSA W.q (writeD d f).1, stH p { W with dead := decide ((writeD d f).2 = 8) }] (.tmp rfl .nil) ⟨rfl, rfl⟩ sp0
theorem live_spec (p : Nat) (W : SW) : Spec Tryz.prog 44 [pv p] [stH p W] (fun r L => r = .int .i64 (if W.dead = true then 8 else 0) ∧ L = [stH p W]) := by
  refine Spec.of 11 Tryz.func44 rfl rfl rfl ?_
  refine swp_sr ?_
  refine s_as rfl ?_
  refine swl_sub _ (sc0 0 rfl .nil) ?_
  refine swl_nn ?_
  refine swp_seq ?_
  refine swp_block ?_
  refine swp_sr ?_
  refine s_mv rfl ?_
  refine s_pu (pu_ptr_eq_nil rfl rfl) ?_
  refine s_as rfl ?_
  refine swl_sub _ (sc0 0 rfl (sc0 3 rfl .nil)) ?_
  refine swl_nn ?_
  refine swp_cond (b := _) rfl (fun h3 => by cases h3) (fun h3 => ?_)
  refine swp_sr ?_
  refine s_mv rfl ?_
  first | refine s_pu (pu_nilCheck rfl) ?_ | refine s_pu (pu_nilCheck_fn rfl) ?_ | refine s_pu (pu_nilCheck_if rfl) ?_
  first | refine s_pu (pu_fieldAddr0 rfl) ?_ | refine s_pu (pu_fieldAddr rfl) ?_
  refine s_rd (rd_load rfl rfl) ?_
  refine s_as rfl ?_
  refine swl_sub _ (sc0 6 rfl .nil) ?_
  refine swl_nn ?_
  refine swp_cond (b := _) rfl (fun h6 => ?_) (fun h6 => ?_)
  · skip   -- 6 T
    refine swp_sr ?_
    refine s_as rfl ?_
    refine swl_sub _ (sc0 2 rfl .nil) ?_
    refine swl_nn ?_
    refine swp_ret ?_
    refine block_r ?_
    refine then_r ?_
    exact done_ret [stH p W] (.tmp rfl .nil) ⟨by rw [if_pos h6]; rfl, rfl⟩ sp0
  · skip   -- 6 F
    refine swp_skip ?_
    refine block_n ?_
    refine then_n ?_
    refine swp_sr ?_
    refine s_as rfl ?_
    refine swl_sub _ (sc0 2 rfl .nil) ?_
    refine swl_nn ?_
    refine swp_ret ?_
    exact done_ret [stH p W] (.tmp rfl .nil) ⟨by rw [if_neg (by rw [h6]; decide)]; rfl, rfl⟩ sp0
end SX
namespace SX
open Go Go.Proofs
/-- a store and its disk -/
structure PSt where
  d : Dk
  s : St2
  dead : Bool
def addR (x : PSt) (e0 : Int) (n : Nat) (f : Fm) (s' : St2) : PSt × Int × Int :=
  if x.dead = true then (x, 0, 8) else if e0 ≠ 0 then (x, 0, e0) else if 65536 ≤ n then (x, 0, 7) else
  if (writeD x.d f).2 ≠ 0 then (⟨(writeD x.d f).1, x.s, decide ((writeD x.d f).2 = 8)⟩, 0, (writeD x.d f).2) else (⟨(writeD x.d f).1, s', false⟩, (n : Nat), 0)
def addT (x : PSt) (t : List En) : PSt × Int × Int := addR x (encErr t) x.s.1.length (1, encT t) (x.s.1 ++ [t], x.s.2)
def addC (x : PSt) (c : Cm) : PSt × Int × Int := addR x (if checkC c ≠ 0 then checkC c else if knownS x.s.1.length x.s.2.length c = false then 9 else 0) x.s.2.length (2, encC' c) (x.s.1, x.s.2 ++ [c])
section
variable {x : PSt} {e0 : Int} {n : Nat} {f : Fm} {s' : St2}
theorem addR_dead (h : x.dead = true) : addR x e0 n f s' = (x, 0, 8) := by unfold addR; rw [if_pos h]
theorem addR_err (h : x.dead = false) (h2 : e0 ≠ 0) : addR x e0 n f s' = (x, 0, e0) := by unfold addR; rw [if_neg (by rw [h]; decide), if_pos h2]
theorem addR_full (h : x.dead = false) (h2 : e0 = 0) (h3 : 65536 ≤ n) : addR x e0 n f s' = (x, 0, 7) := by unfold addR; rw [if_neg (by rw [h]; decide), if_neg (not_not_intro h2), if_pos h3]
theorem addR_wr (h : x.dead = false) (h2 : e0 = 0) (h3 : n < 65536) (h4 : (writeD x.d f).2 ≠ 0) : addR x e0 n f s' = ((⟨(writeD x.d f).1, x.s, decide ((writeD x.d f).2 = 8)⟩ : PSt), (0 : Int), (writeD x.d f).2) := by unfold addR; rw [if_neg (by rw [h]; decide), if_neg (not_not_intro h2), if_neg om0, if_pos h4]
theorem addR_ok (h : x.dead = false) (h2 : e0 = 0) (h3 : n < 65536) (h4 : (writeD x.d f).2 = 0) : addR x e0 n f s' = ((⟨(writeD x.d f).1, s', false⟩ : PSt), ((n : Nat) : Int), (0 : Int)) := by unfold addR; rw [if_neg (by rw [h]; decide), if_neg (not_not_intro h2), if_neg om0, if_neg (not_not_intro h4)]
end
/-- what a call that adds leaves -/
def AddQ (μ : PH) (W : SW) (y : PSt × Int × Int) (r : Value) (W' : SW) (μ' : PH) : Prop := Le μ μ' ∧ W'.Ok μ' ∧ W'.q = W.q ∧ W'.pl = y.1.s ∧ W'.dead = y.1.dead ∧ r = .tuple #[.int .i64 y.2.1, .int .i64 y.2.2]
theorem encErr_ok {t : List En} (h : encErr t = 0) : t.length ≤ 1024 ∧ checkE t = 0 := by
  unfold encErr at h
  split at h
  · cases h
  · exact ⟨by omega, h⟩
theorem encT_len {t : List En} (h : encErr t = 0) : (encT t).length ≤ 1048567 := by
  obtain ⟨h1, h2⟩ := encErr_ok h
  have := encEs_len [] t fun e he => (check_paths h2 e he).1
  unfold encT
  rw [List.length_append, numB_len]
  omega
theorem encC_len {c : Cm} (h : checkC c = 0) : (encC' c).length ≤ 1048567 := by
  obtain ⟨h1, _⟩ := checkC_ok h
  unfold encC'
  simp only [List.length_append, numB_len, encPs_len]
  omega
theorem SW.Ok.dead {μ : PH} {W : SW} (h : W.Ok μ) (b : Bool) : SW.Ok μ { W with dead := b } := ⟨h.tf, h.cf, h.tr, h.cr, h.tl, h.cl⟩
set_option maxHeartbeats 4000000 in
theorem addtree_spec (μ : PH) (p : Nat) (W : SW) (hW : W.Ok μ) (d : Dk) (hd : d.Ok) (v : Value) (t : List En) (hv : Row μ v 2 t.length (ens t)) (hu : U32s t) : Spec Tryz.prog 12 [pv p, v] [FSA W.q d, stH p W, ttA W, ccA W, ro μ]
    (fun r L => ∃ W' μ', AddQ μ W (addT ⟨d, W.pl, W.dead⟩ t) r W' μ' ∧ L = [FSA W'.q (addT ⟨d, W.pl, W.dead⟩ t).1.d, stH p W', ttA W', ccA W', ro μ']) := by
  have hW0 := hW
  obtain ⟨⟨A1, c1, e1⟩, ⟨A2, c2, e2⟩, _, _, hT, hC⟩ := hW
  obtain ⟨q, tv, cv, T, C, dead⟩ := W
  dsimp only at e1 e2 hT hC
  subst e1 e2
  have hlen : (SW.pl ⟨q, .slice A1 T.length c1, .slice A2 C.length c2, T, C, dead⟩).1.length = T.length := List.length_map _
  generalize hy : addT ⟨d, SW.pl ⟨q, .slice A1 T.length c1, .slice A2 C.length c2, T, C, dead⟩, dead⟩ t = y
  refine Spec.of 54 Tryz.func12 rfl rfl rfl ?_
  refine swp_sr ?_
  refine s_as rfl ?_
  refine s_as rfl ?_
  refine swl_sub _ (sc0 0 rfl (sc0 1 rfl .nil)) ?_
  refine swl_nn ?_
  refine swp_seq ?_
  refine swp_sr ?_
  refine s_mv rfl ?_
  refine s_ef (ef_fn (live_spec p ⟨q, .slice A1 T.length c1, .slice A2 C.length c2, T, C, dead⟩) rfl rfl sp0) ?_
  rintro v10 L1 ⟨rfl, rfl⟩
  refine swl_app ?_
  refine s_as rfl ?_
  refine swl_sub _ (sc0 0 rfl (sc0 1 rfl (sc0 6 rfl .nil))) ?_
  refine swl_nn ?_
  refine swp_sr ?_
  refine s_mv rfl ?_
  refine s_pu (pu_neq rfl rfl) ?_
  refine swl_sub _ (sc0 0 rfl (sc0 1 rfl (sc0 6 rfl (sc0 12 rfl .nil)))) ?_
  refine swl_nn ?_
  refine swp_cond (b := _) rfl (fun h12 => ?_) (fun h12 => ?_)
  · skip   -- 12 T
    refine swp_sr ?_
    refine s_mv rfl ?_
    refine s_as rfl ?_
    refine s_as rfl ?_
    refine swl_sub _ (sc0 4 rfl (sc0 5 rfl .nil)) ?_
    refine swl_nn ?_
    refine swp_ret ?_
    refine then_r ?_
    have hdd : dead = true := by
      cases dead with
      | true => rfl
      | false => simp at h12
    have ha : (⟨d, SW.pl ⟨q, .slice A1 T.length c1, .slice A2 C.length c2, T, C, dead⟩, dead⟩, 0, 8) = y := by rw [← hy]; exact (addR_dead (x := ⟨d, SW.pl ⟨q, .slice A1 T.length c1, .slice A2 C.length c2, T, C, dead⟩, dead⟩) hdd).symm
    subst ha
    exact done_ret [FSA q d, stH p ⟨q, .slice A1 T.length c1, .slice A2 C.length c2, T, C, dead⟩, ttA ⟨q, .slice A1 T.length c1, .slice A2 C.length c2, T, C, dead⟩, ccA ⟨q, .slice A1 T.length c1, .slice A2 C.length c2, T, C, dead⟩, ro μ] (.tmp rfl (.tmp rfl .nil)) ⟨⟨q, .slice A1 T.length c1, .slice A2 C.length c2, T, C, dead⟩, μ, ⟨Le.refl _, hW0, rfl, rfl, rfl, by rw [if_pos hdd]; rfl⟩, rfl⟩ sp0
  · skip   -- 12 F
    have hdd : dead = false := by
      cases dead with
      | true => simp at h12
      | false => rfl
    refine swp_skip ?_
    refine then_n ?_
    refine swp_sr ?_
    refine s_mv rfl ?_
    refine s_ef (ef_fn (tenc_spec μ v t hv hu) rfl rfl sp0) ?_
    rintro v16 L1 ⟨rfl, rfl⟩
    refine swl_app ?_
    refine s_mv rfl ?_
    first | refine s_pu (pu_extractL rfl) ?_ | refine s_pu (pu_extract rfl rfl) ?_
    first | refine s_pu (pu_extractL rfl) ?_ | refine s_pu (pu_extract rfl rfl) ?_
    refine s_as rfl ?_
    refine s_as rfl ?_
    refine swl_sub _ (sc0 0 rfl (sc0 1 rfl (sc0 7 rfl (sc0 8 rfl .nil)))) ?_
    refine swl_nn ?_
    refine swp_seq ?_
    refine swp_sr ?_
    refine s_mv rfl ?_
    refine s_pu (pu_eql rfl rfl) ?_
    refine s_mv rfl ?_
    refine s_split 21 rfl (fun h21 => ?_) (fun h21 => ?_)
    · skip   -- 21 T
      have h21' : encErr t = 0 := of_decide_eq_true h21
      obtain ⟨hl1, hl2⟩ := encErr_ok h21'
      have hev : encV t = encT t := by unfold encV; rw [if_pos h21']
      refine s_on rfl rfl ?_
      refine s_mv rfl ?_
      refine s_on rfl rfl ?_
      first | refine s_pu (pu_nilCheck rfl) ?_ | refine s_pu (pu_nilCheck_fn rfl) ?_ | refine s_pu (pu_nilCheck_if rfl) ?_
      refine s_on rfl rfl ?_
      first | refine s_pu (pu_fieldAddr0 rfl) ?_ | refine s_pu (pu_fieldAddr rfl) ?_
      refine s_on rfl rfl ?_
      refine s_rd (rd_load rfl rfl) ?_
      refine s_on rfl rfl ?_
      refine s_pu (pu_len rfl) ?_
      refine s_on rfl rfl ?_
      refine s_pu (pu_geq rfl rfl) ?_
      first | refine s_pu (pu_pick_t rfl rfl) ?_ | refine s_pu (pu_pick_f rfl rfl) ?_
      refine swl_sub _ (sc0 0 rfl (sc0 1 rfl (sc0 7 rfl (sc0 8 rfl (sc0 28 rfl .nil))))) ?_
      refine swl_nn ?_
      refine swp_cond (b := _) rfl (fun h28 => ?_) (fun h28 => ?_)
      · skip   -- 28 T
        have h28' : 65536 ≤ T.length := by have := of_decide_eq_true h28; omega
        refine swp_region ?_
        refine s_as rfl ?_
        refine swl_sub _ (sc0 0 rfl (sc0 1 rfl (sc0 7 rfl (sc0 8 rfl .nil)))) ?_
        refine swl_nn ?_
        refine swp_seq ?_
        refine swp_sr ?_
        refine s_mv rfl ?_
        refine s_pu (pu_eql rfl rfl) ?_
        refine swl_sub _ (sc0 0 rfl (sc0 1 rfl (sc0 7 rfl (sc0 8 rfl (sc0 30 rfl .nil))))) ?_
        refine swl_nn ?_
        refine swp_cond (b := _) rfl (fun h30 => by cases h30) (fun h30 => ?_)
        refine swp_skip ?_
        refine then_n ?_
        refine swp_seq ?_
        refine swp_sr ?_
        refine s_mv rfl ?_
        refine s_pu (pu_neq rfl rfl) ?_
        refine swl_sub _ (sc0 0 rfl (sc0 1 rfl (sc0 8 rfl (sc0 35 rfl .nil)))) ?_
        refine swl_nn ?_
        refine swp_cond (b := _) rfl (fun h35 => ?_) (fun h35 => by cases h35)
        refine swp_sr ?_
        refine s_mv rfl ?_
        refine s_as rfl ?_
        refine s_as rfl ?_
        refine swl_sub _ (sc0 4 rfl (sc0 5 rfl .nil)) ?_
        refine swl_nn ?_
        refine swp_ret ?_
        refine then_r ?_
        have ha : (⟨d, SW.pl ⟨q, .slice A1 T.length c1, .slice A2 C.length c2, T, C, dead⟩, dead⟩, 0, 7) = y := by rw [← hy]; exact (addR_full (x := ⟨d, SW.pl ⟨q, .slice A1 T.length c1, .slice A2 C.length c2, T, C, dead⟩, dead⟩) hdd h21' (by first | (show (SW.pl ⟨q, .slice A1 T.length c1, .slice A2 C.length c2, T, C, dead⟩).1.length < 65536; rw [hlen]; exact h28') | (show 65536 ≤ (SW.pl ⟨q, .slice A1 T.length c1, .slice A2 C.length c2, T, C, dead⟩).1.length; rw [hlen]; exact h28'))).symm
        subst ha
        exact done_ret [FSA q d, stH p ⟨q, .slice A1 T.length c1, .slice A2 C.length c2, T, C, dead⟩, ttA ⟨q, .slice A1 T.length c1, .slice A2 C.length c2, T, C, dead⟩, ccA ⟨q, .slice A1 T.length c1, .slice A2 C.length c2, T, C, dead⟩, ro μ] (.tmp rfl (.tmp rfl .nil)) ⟨⟨q, .slice A1 T.length c1, .slice A2 C.length c2, T, C, dead⟩, μ, ⟨Le.refl _, hW0, rfl, rfl, rfl, rfl⟩, rfl⟩ sp0
      · skip   -- 28 F
        have h28' : T.length < 65536 := by have := of_decide_eq_false h28; omega
        refine swp_skip ?_
        refine then_n ?_
        refine swp_seq ?_
        refine swp_sr ?_
        refine s_mv rfl ?_
        refine s_pu (pu_eql rfl rfl) ?_
        refine swl_sub _ (sc0 0 rfl (sc0 1 rfl (sc0 7 rfl (sc0 8 rfl (sc0 30 rfl .nil))))) ?_
        refine swl_nn ?_
        refine swp_cond (b := _) rfl (fun h30 => ?_) (fun h30 => by rw [h21'] at h30; cases h30)
        refine swp_region ?_
        refine s_mv rfl ?_
        refine s_mv rfl ?_
        refine s_ef (ef_fn (write_spec p ⟨q, .slice A1 T.length c1, .slice A2 C.length c2, T, C, dead⟩ d hd (1, encV t) (by show 0 < 1; decide) (by show 1 < 256; decide) (by rw [hev]; exact encT_len h21')) rfl rfl sp0) ?_
        rintro v33 L1 ⟨rfl, rfl⟩
        rw [hev]
        refine swl_app ?_
        dsimp only
        refine s_as rfl ?_
        refine swl_sub _ (sc0 0 rfl (sc0 1 rfl (sc0 8 rfl .nil))) ?_
        refine swl_nn ?_
        refine swp_seq ?_
        refine swp_sr ?_
        refine s_mv rfl ?_
        refine s_pu (pu_neq rfl rfl) ?_
        refine swl_sub _ (sc0 0 rfl (sc0 1 rfl (sc0 8 rfl (sc0 35 rfl .nil)))) ?_
        refine swl_nn ?_
        refine swp_cond (b := _) rfl (fun h35 => ?_) (fun h35 => ?_)
        · skip   -- 35 T
          refine swp_sr ?_
          refine s_mv rfl ?_
          refine s_as rfl ?_
          refine s_as rfl ?_
          refine swl_sub _ (sc0 4 rfl (sc0 5 rfl .nil)) ?_
          refine swl_nn ?_
          refine swp_ret ?_
          refine then_r ?_
          have h35' : (writeD d (1, encT t)).2 ≠ 0 := by simpa using h35
          have ha : (⟨(writeD d (1, encT t)).1, SW.pl ⟨q, .slice A1 T.length c1, .slice A2 C.length c2, T, C, dead⟩, decide ((writeD d (1, encT t)).2 = 8)⟩, 0, (writeD d (1, encT t)).2) = y := by rw [← hy]; exact (addR_wr (x := ⟨d, SW.pl ⟨q, .slice A1 T.length c1, .slice A2 C.length c2, T, C, dead⟩, dead⟩) hdd h21' (by first | (show (SW.pl ⟨q, .slice A1 T.length c1, .slice A2 C.length c2, T, C, dead⟩).1.length < 65536; rw [hlen]; exact h28') | (show 65536 ≤ (SW.pl ⟨q, .slice A1 T.length c1, .slice A2 C.length c2, T, C, dead⟩).1.length; rw [hlen]; exact h28')) h35').symm
          subst ha
          exact done_ret [FSA q (writeD d (1, encT t)).1, stH p ⟨q, .slice A1 T.length c1, .slice A2 C.length c2, T, C, decide ((writeD d (1, encT t)).2 = 8)⟩, ttA ⟨q, .slice A1 T.length c1, .slice A2 C.length c2, T, C, dead⟩, ccA ⟨q, .slice A1 T.length c1, .slice A2 C.length c2, T, C, dead⟩, ro μ] (.tmp rfl (.tmp rfl .nil)) ⟨⟨q, .slice A1 T.length c1, .slice A2 C.length c2, T, C, decide ((writeD d (1, encT t)).2 = 8)⟩, μ, ⟨Le.refl _, SW.Ok.dead hW0 _, rfl, rfl, rfl, rfl⟩, rfl⟩ sp0
        · skip   -- 35 F
          have h35' : (writeD d (1, encT t)).2 = 0 := by simpa using h35
          have ha : (⟨(writeD d (1, encT t)).1, ((SW.pl ⟨q, .slice A1 T.length c1, .slice A2 C.length c2, T, C, dead⟩).1 ++ [t], (SW.pl ⟨q, .slice A1 T.length c1, .slice A2 C.length c2, T, C, dead⟩).2), false⟩, ((SW.pl ⟨q, .slice A1 T.length c1, .slice A2 C.length c2, T, C, dead⟩).1.length : Int), 0) = y := by rw [← hy]; exact (addR_ok (x := ⟨d, SW.pl ⟨q, .slice A1 T.length c1, .slice A2 C.length c2, T, C, dead⟩, dead⟩) hdd h21' (by first | (show (SW.pl ⟨q, .slice A1 T.length c1, .slice A2 C.length c2, T, C, dead⟩).1.length < 65536; rw [hlen]; exact h28') | (show 65536 ≤ (SW.pl ⟨q, .slice A1 T.length c1, .slice A2 C.length c2, T, C, dead⟩).1.length; rw [hlen]; exact h28')) h35').symm
          have hd8 : decide ((writeD d (1, encT t)).2 = 8) = false := by rw [h35']; rfl
          rw [hd8]
          subst ha
          refine swp_skip ?_
          refine then_n ?_
          refine swp_seq ?_
          refine swp_draw [4] ([stH p ⟨q, .slice A1 T.length c1, .slice A2 C.length c2, T, C, false⟩]) ([FSA q (writeD d (1, encT t)).1, ro μ, ttA ⟨q, .slice A1 T.length c1, .slice A2 C.length c2, T, C, dead⟩, ccA ⟨q, .slice A1 T.length c1, .slice A2 C.length c2, T, C, dead⟩]) (Split.ent sp0) kr0 ?_
          refine d_pu 0 rfl (pu_move rfl) kr0 kr0 kr0 ?_
          refine d_pu 1 rfl (pu_move rfl) kr0 kr0 kr0 ?_
          first | refine d_pu 2 rfl (pu_nilCheck rfl) kr0 kr0 kr0 ?_ | refine d_pu 2 rfl (pu_nilCheck_fn rfl) kr0 kr0 kr0 ?_ | refine d_pu 2 rfl (pu_nilCheck_if rfl) kr0 kr0 kr0 ?_
          first | refine d_pu 3 rfl (pu_fieldAddr0 rfl) kr0 kr0 kr0 ?_ | refine d_pu 3 rfl (pu_fieldAddr rfl) kr0 kr0 kr0 ?_
          refine d_rd 4 rfl (rd_load rfl rfl) rfl kr0 kr0 kr0 ?_
          refine d_pu 5 rfl (pu_move rfl) kr0 kr0 kr0 ?_
          refine d_eft 6 rfl kr0 (ef_fn (cloneT_spec μ v t hv om0) rfl rfl sp0) ?_
          rintro v43 L1 ⟨A3, c3, rfl, rfl⟩
          refine ⟨_, ent_appC (Split.ent sp0), ?_⟩
          refine d_eft 7 rfl kr0 (ef_bldS (qs := [(0, _)]) rfl rfl rfl) ?_
          intro b44
          refine ⟨_, Split.ent sp0, ?_⟩
          first | refine d_fint 8 rfl kr0 kr0 (ef_append_lit (l := T.length) (m := 1) rfl rfl sp0 (by simp only [maxLen]; omega) om0) ?_ | refine d_finf 8 rfl kr0 kr0 (ef_append_lit (l := T.length) (m := 1) rfl rfl sp0 (by simp only [maxLen]; omega) om0) ?_
          rintro v45 -
          first | refine swd_factf (fun m h => own_form h) fun ⟨A45, c45, hv45⟩ => ?_ | refine swd_factt (fun m h => own_form h) fun ⟨A45, c45, hv45⟩ => ?_
          subst hv45
          first | refine d_pu 9 rfl (pu_nilCheck rfl) kr0 kr0 kr0 ?_ | refine d_pu 9 rfl (pu_nilCheck_fn rfl) kr0 kr0 kr0 ?_ | refine d_pu 9 rfl (pu_nilCheck_if rfl) kr0 kr0 kr0 ?_
          first | refine d_pu 10 rfl (pu_fieldAddr0 rfl) kr0 kr0 kr0 ?_ | refine d_pu 10 rfl (pu_fieldAddr rfl) kr0 kr0 kr0 ?_
          first | refine d_fin0t 11 rfl kr0 kr0 (ef_store rfl rfl rfl) ?_ | refine d_fin0f 11 rfl kr0 kr0 (ef_store rfl rfl rfl) ?_
          refine d_sub _ (sc0 0 rfl .nil) ?_
          first | refine d_nilt kr0 ?_ | refine d_nilf kr0 ?_
          refine then_n ?_
          refine swp_seq ?_
          refine swp_share_own (μ := μ) (v := .slice A3 t.length c3) (e := 47) (n := 2) sp0 fun μ' hle hrow => ?_
          refine swp_region ?_
          refine s_mv rfl ?_
          first | refine s_pu (pu_nilCheck rfl) ?_ | refine s_pu (pu_nilCheck_fn rfl) ?_ | refine s_pu (pu_nilCheck_if rfl) ?_
          first | refine s_pu (pu_fieldAddr0 rfl) ?_ | refine s_pu (pu_fieldAddr rfl) ?_
          refine s_rd (rd_load rfl rfl) ?_
          refine s_pu (pu_len rfl) ?_
          refine s_pu (pu_sub_as ((T.length : Nat) : Int) rfl rfl om0 om0 om0) ?_
          refine s_as rfl ?_
          refine s_as rfl ?_
          refine swl_sub _ (sc0 4 rfl (sc0 5 rfl .nil)) ?_
          refine swl_nn ?_
          refine swp_ret ?_
          refine done_ret [FSA q (writeD d (1, encT t)).1, stH p ⟨q, .slice A45 (T.length + 1) c45, .slice A2 C.length c2, T ++ [(.slice A3 t.length c3, t)], C, false⟩, own 22 1 (.slice A45 (T.length + 1) c45) (T.length + 1) (T.flatMap tcs ++ [.slice A3 t.length c3]), ccA ⟨q, .slice A1 T.length c1, .slice A2 C.length c2, T, C, dead⟩, ro μ'] (.tmp rfl (.tmp rfl .nil)) ⟨⟨q, .slice A45 (T.length + 1) c45, .slice A2 C.length c2, T ++ [(.slice A3 t.length c3, t)], C, false⟩, μ', ⟨hle, SW.Ok.dead (Ok.addT hW0 hle hrow h28') false, rfl, ?_, rfl, ?_⟩, ?_⟩ sp0
          · unfold SW.pl; rw [List.map_append]; rfl
          · rw [hlen]; rfl
          · simp only [ttA, List.length_append, List.length_singleton, List.flatMap_append]; rfl
    · skip   -- 21 F
      have h21' : encErr t ≠ 0 := of_decide_eq_false h21
      refine s_off rfl rfl rfl ?_
      refine s_off rfl rfl rfl ?_
      refine s_off rfl rfl rfl ?_
      refine s_off rfl rfl rfl ?_
      refine s_off rfl rfl rfl ?_
      refine s_off rfl rfl rfl ?_
      first | refine s_pu (pu_pick_t rfl rfl) ?_ | refine s_pu (pu_pick_f rfl rfl) ?_
      refine swl_sub _ (sc0 0 rfl (sc0 1 rfl (sc0 7 rfl (sc0 8 rfl (sc0 28 rfl .nil))))) ?_
      refine swl_nn ?_
      refine swp_cond (b := _) rfl (fun h28 => by cases h28) (fun h28 => ?_)
      refine swp_skip ?_
      refine then_n ?_
      refine swp_seq ?_
      refine swp_sr ?_
      refine s_mv rfl ?_
      refine s_pu (pu_eql rfl rfl) ?_
      refine swl_sub _ (sc0 0 rfl (sc0 1 rfl (sc0 7 rfl (sc0 8 rfl (sc0 30 rfl .nil))))) ?_
      refine swl_nn ?_
      refine swp_cond (b := _) rfl (fun h30 => by exact absurd (of_decide_eq_true h30) h21') (fun h30 => ?_)
      refine swp_skip ?_
      refine then_n ?_
      refine swp_seq ?_
      refine swp_sr ?_
      refine s_mv rfl ?_
      refine s_pu (pu_neq rfl rfl) ?_
      refine swl_sub _ (sc0 0 rfl (sc0 1 rfl (sc0 8 rfl (sc0 35 rfl .nil)))) ?_
      refine swl_nn ?_
      refine swp_cond (b := _) rfl (fun h35 => ?_) (fun h35 => by rw [decide_eq_false h21'] at h35; cases h35)
      refine swp_sr ?_
      refine s_mv rfl ?_
      refine s_as rfl ?_
      refine s_as rfl ?_
      refine swl_sub _ (sc0 4 rfl (sc0 5 rfl .nil)) ?_
      refine swl_nn ?_
      refine swp_ret ?_
      refine then_r ?_
      have ha : (⟨d, SW.pl ⟨q, .slice A1 T.length c1, .slice A2 C.length c2, T, C, dead⟩, dead⟩, 0, encErr t) = y := by rw [← hy]; exact (addR_err (x := ⟨d, SW.pl ⟨q, .slice A1 T.length c1, .slice A2 C.length c2, T, C, dead⟩, dead⟩) hdd h21').symm
      subst ha
      exact done_ret [FSA q d, stH p ⟨q, .slice A1 T.length c1, .slice A2 C.length c2, T, C, dead⟩, ttA ⟨q, .slice A1 T.length c1, .slice A2 C.length c2, T, C, dead⟩, ccA ⟨q, .slice A1 T.length c1, .slice A2 C.length c2, T, C, dead⟩, ro μ] (.tmp rfl (.tmp rfl .nil)) ⟨⟨q, .slice A1 T.length c1, .slice A2 C.length c2, T, C, dead⟩, μ, ⟨Le.refl _, hW0, rfl, rfl, rfl, rfl⟩, rfl⟩ sp0
end SX
namespace SX
open Go Go.Proofs
theorem comV_ok {c : Cm} (h : checkC c = 0) : comV c = encC' c := by unfold comV; rw [if_pos h]
set_option maxHeartbeats 4000000 in
theorem addcommit_spec (μ : PH) (p : Nat) (W : SW) (hW : W.Ok μ) (d : Dk) (hd : d.Ok) (v : Value) (c : Cm) (hv : Row μ v 1 c.1.length (c.1.flatMap (icsk .i64))) : Spec Tryz.prog 13 [pv p, cmV v c.2] [FSA W.q d, stH p W, ttA W, ccA W, ro μ]
    (fun r L => ∃ W' μ', AddQ μ W (addC ⟨d, W.pl, W.dead⟩ c) r W' μ' ∧ L = [FSA W'.q (addC ⟨d, W.pl, W.dead⟩ c).1.d, stH p W', ttA W', ccA W', ro μ']) := by
  have hW0 := hW
  obtain ⟨⟨A1, c1, e1⟩, ⟨A2, c2, e2⟩, _, _, hT, hC⟩ := hW
  obtain ⟨A5, c5, rfl⟩ := hv.sl
  obtain ⟨q, tv, cv, T, C, dead⟩ := W
  dsimp only at e1 e2 hT hC
  subst e1 e2
  have hlen : (SW.pl ⟨q, .slice A1 T.length c1, .slice A2 C.length c2, T, C, dead⟩).1.length = T.length := List.length_map _
  have hlen2 : (SW.pl ⟨q, .slice A1 T.length c1, .slice A2 C.length c2, T, C, dead⟩).2.length = C.length := List.length_map _
  generalize hy : addC ⟨d, SW.pl ⟨q, .slice A1 T.length c1, .slice A2 C.length c2, T, C, dead⟩, dead⟩ c = y
  unfold addC at hy
  dsimp only at hy
  rw [hlen, hlen2] at hy
  refine Spec.of 61 Tryz.func13 rfl rfl rfl ?_
  refine swp_sr ?_
  refine s_ef (ef_box rfl rfl) ?_
  intro b3
  refine s_as rfl ?_
  refine s_as rfl ?_
  refine swl_sub _ (sc0 0 rfl (sc0 3 rfl .nil)) ?_
  refine swl_nn ?_
  refine swp_seq ?_
  refine swp_sr ?_
  refine s_mv rfl ?_
  refine s_ef (ef_fn (live_spec p ⟨q, .slice A1 T.length c1, .slice A2 C.length c2, T, C, dead⟩) rfl rfl sp0) ?_
  rintro v10 L1 ⟨rfl, rfl⟩
  refine swl_app ?_
  refine s_as rfl ?_
  refine swl_sub _ (sc0 0 rfl (sc0 3 rfl (sc0 6 rfl .nil))) ?_
  refine swl_nn ?_
  refine swp_sr ?_
  refine s_mv rfl ?_
  refine s_pu (pu_neq rfl rfl) ?_
  refine swl_sub _ (sc0 0 rfl (sc0 3 rfl (sc0 6 rfl (sc0 12 rfl .nil)))) ?_
  refine swl_nn ?_
  refine swp_cond (b := _) rfl (fun h12 => ?_) (fun h12 => ?_)
  · skip   -- 12 T
    refine swp_sr ?_
    refine s_mv rfl ?_
    refine s_as rfl ?_
    refine s_as rfl ?_
    refine swl_sub _ (sc0 4 rfl (sc0 5 rfl .nil)) ?_
    refine swl_nn ?_
    refine swp_ret ?_
    refine then_r ?_
    have hdd : dead = true := by
      cases dead with
      | true => rfl
      | false => simp at h12
    have ha : (⟨d, SW.pl ⟨q, .slice A1 T.length c1, .slice A2 C.length c2, T, C, dead⟩, dead⟩, 0, 8) = y := by rw [← hy]; exact (addR_dead (x := ⟨d, SW.pl ⟨q, .slice A1 T.length c1, .slice A2 C.length c2, T, C, dead⟩, dead⟩) hdd).symm
    subst ha
    exact done_ret [FSA q d, stH p ⟨q, .slice A1 T.length c1, .slice A2 C.length c2, T, C, dead⟩, ttA ⟨q, .slice A1 T.length c1, .slice A2 C.length c2, T, C, dead⟩, ccA ⟨q, .slice A1 T.length c1, .slice A2 C.length c2, T, C, dead⟩, ro μ] (.tmp rfl (.tmp rfl .nil)) ⟨⟨q, .slice A1 T.length c1, .slice A2 C.length c2, T, C, dead⟩, μ, ⟨Le.refl _, hW0, rfl, rfl, rfl, by rw [if_pos hdd]; rfl⟩, rfl⟩ sp0
  · skip   -- 12 F
    have hdd : dead = false := by
      cases dead with
      | true => simp at h12
      | false => rfl
    refine swp_skip ?_
    refine then_n ?_
    refine swp_sr ?_
    first | refine s_rd (rd_loadW rfl rfl) ?_ | refine s_rd (rd_loadX rfl rfl rfl) ?_
    refine s_ef (ef_fn (cenc_spec μ (.slice A5 c.1.length c5) c hv) rfl rfl sp0) ?_
    rintro v16 L1 ⟨rfl, rfl⟩
    refine swl_app ?_
    refine s_mv rfl ?_
    first | refine s_pu (pu_extractL rfl) ?_ | refine s_pu (pu_extract rfl rfl) ?_
    first | refine s_pu (pu_extractL rfl) ?_ | refine s_pu (pu_extract rfl rfl) ?_
    refine s_as rfl ?_
    refine s_as rfl ?_
    refine swl_sub _ (sc0 0 rfl (sc0 3 rfl (sc0 7 rfl (sc0 8 rfl .nil)))) ?_
    refine swl_nn ?_
    refine swp_seq ?_
    refine swp_block ?_
    refine swp_sr ?_
    refine s_mv rfl ?_
    refine s_pu (pu_neq rfl rfl) ?_
    refine s_as rfl ?_
    refine swl_sub _ (sc0 0 rfl (sc0 3 rfl (sc0 7 rfl (sc0 8 rfl (sc0 22 rfl .nil))))) ?_
    refine swl_nn ?_
    refine swp_cond (b := _) rfl (fun h22 => ?_) (fun h22 => ?_)
    · skip   -- 22 T
      have h22' : checkC c ≠ 0 := by simpa using h22
      rw [if_pos h22'] at hy
      refine swp_skip ?_
      refine block_n ?_
      refine then_n ?_
      refine swp_seq ?_
      refine swp_sr ?_
      refine s_mv rfl ?_
      refine s_pu (pu_neq rfl rfl) ?_
      refine swl_sub _ (sc0 0 rfl (sc0 3 rfl (sc0 8 rfl (sc0 38 rfl .nil)))) ?_
      refine swl_nn ?_
      refine swp_cond (b := _) rfl (fun h38 => ?_) (fun h38 => by rw [decide_eq_false h22'] at h38; cases h38)
      refine swp_sr ?_
      refine s_mv rfl ?_
      refine s_as rfl ?_
      refine s_as rfl ?_
      refine swl_sub _ (sc0 4 rfl (sc0 5 rfl .nil)) ?_
      refine swl_nn ?_
      refine swp_ret ?_
      refine then_r ?_
      have ha : (⟨d, SW.pl ⟨q, .slice A1 T.length c1, .slice A2 C.length c2, T, C, dead⟩, dead⟩, 0, checkC c) = y := by rw [← hy]; exact (addR_err (x := ⟨d, SW.pl ⟨q, .slice A1 T.length c1, .slice A2 C.length c2, T, C, dead⟩, dead⟩) hdd h22').symm
      subst ha
      exact done_ret [FSA q d, stH p ⟨q, .slice A1 T.length c1, .slice A2 C.length c2, T, C, dead⟩, ttA ⟨q, .slice A1 T.length c1, .slice A2 C.length c2, T, C, dead⟩, ccA ⟨q, .slice A1 T.length c1, .slice A2 C.length c2, T, C, dead⟩, ro μ] (.tmp rfl (.tmp rfl .nil)) ⟨⟨q, .slice A1 T.length c1, .slice A2 C.length c2, T, C, dead⟩, μ, ⟨Le.refl _, hW0, rfl, rfl, rfl, rfl⟩, rfl⟩ sp0
    · skip   -- 22 F
      have h22' : checkC c = 0 := by simpa using h22
      rw [if_neg (not_not_intro h22')] at hy
      refine swp_sr ?_
      refine s_mv rfl ?_
      first | refine s_rd (rd_loadW rfl rfl) ?_ | refine s_rd (rd_loadX rfl rfl rfl) ?_
      refine s_ef (ef_fn (known_spec μ p ⟨q, .slice A1 T.length c1, .slice A2 C.length c2, T, C, dead⟩ hW0 (.slice A5 c.1.length c5) c hv) rfl rfl sp0) ?_
      rintro v28 L1 ⟨rfl, rfl⟩
      refine swl_app ?_
      refine s_pu (pu_not rfl) ?_
      refine s_as rfl ?_
      refine swl_sub _ (sc0 0 rfl (sc0 3 rfl (sc0 7 rfl (sc0 25 rfl .nil)))) ?_
      refine swl_nn ?_
      refine swp_cond (b := _) rfl (fun h25 => ?_) (fun h25 => ?_)
      · skip   -- 25 T
        have h25' : knownS T.length C.length c = false := by simpa using h25
        rw [if_pos h25'] at hy
        refine swp_region ?_
        refine s_as rfl ?_
        refine swl_sub _ (sc0 0 rfl (sc0 3 rfl (sc0 8 rfl .nil))) ?_
        refine swl_nil ?_
        refine block_n ?_
        refine then_n ?_
        refine swp_seq ?_
        refine swp_sr ?_
        refine s_mv rfl ?_
        refine s_pu (pu_neq rfl rfl) ?_
        refine swl_sub _ (sc0 0 rfl (sc0 3 rfl (sc0 8 rfl (sc0 38 rfl .nil)))) ?_
        refine swl_nn ?_
        refine swp_cond (b := _) rfl (fun h38 => ?_) (fun h38 => by cases h38)
        refine swp_sr ?_
        refine s_mv rfl ?_
        refine s_as rfl ?_
        refine s_as rfl ?_
        refine swl_sub _ (sc0 4 rfl (sc0 5 rfl .nil)) ?_
        refine swl_nn ?_
        refine swp_ret ?_
        refine then_r ?_
        have ha : (⟨d, SW.pl ⟨q, .slice A1 T.length c1, .slice A2 C.length c2, T, C, dead⟩, dead⟩, 0, 9) = y := by rw [← hy]; exact (addR_err (x := ⟨d, SW.pl ⟨q, .slice A1 T.length c1, .slice A2 C.length c2, T, C, dead⟩, dead⟩) hdd (by decide)).symm
        subst ha
        exact done_ret [FSA q d, stH p ⟨q, .slice A1 T.length c1, .slice A2 C.length c2, T, C, dead⟩, ttA ⟨q, .slice A1 T.length c1, .slice A2 C.length c2, T, C, dead⟩, ccA ⟨q, .slice A1 T.length c1, .slice A2 C.length c2, T, C, dead⟩, ro μ] (.tmp rfl (.tmp rfl .nil)) ⟨⟨q, .slice A1 T.length c1, .slice A2 C.length c2, T, C, dead⟩, μ, ⟨Le.refl _, hW0, rfl, rfl, rfl, rfl⟩, rfl⟩ sp0
      · skip   -- 25 F
        have h25' : knownS T.length C.length c = true := by simpa using h25
        rw [if_neg (by rw [h25']; decide)] at hy
        refine swp_sr ?_
        refine s_mv rfl ?_
        first | refine s_pu (pu_nilCheck rfl) ?_ | refine s_pu (pu_nilCheck_fn rfl) ?_ | refine s_pu (pu_nilCheck_if rfl) ?_
        first | refine s_pu (pu_fieldAddr0 rfl) ?_ | refine s_pu (pu_fieldAddr rfl) ?_
        refine s_rd (rd_load rfl rfl) ?_
        refine s_pu (pu_len rfl) ?_
        refine s_pu (pu_geq rfl rfl) ?_
        refine s_as rfl ?_
        refine swl_sub _ (sc0 0 rfl (sc0 3 rfl (sc0 7 rfl (sc0 30 rfl .nil)))) ?_
        refine swl_nn ?_
        refine swp_cond (b := _) rfl (fun h30 => ?_) (fun h30 => ?_)
        · skip   -- 30 T
          have h30' : 65536 ≤ C.length := by have := of_decide_eq_true h30; omega
          refine swp_region ?_
          refine s_as rfl ?_
          refine swl_sub _ (sc0 0 rfl (sc0 3 rfl (sc0 8 rfl .nil))) ?_
          refine swl_nil ?_
          refine block_n ?_
          refine then_n ?_
          refine swp_seq ?_
          refine swp_sr ?_
          refine s_mv rfl ?_
          refine s_pu (pu_neq rfl rfl) ?_
          refine swl_sub _ (sc0 0 rfl (sc0 3 rfl (sc0 8 rfl (sc0 38 rfl .nil)))) ?_
          refine swl_nn ?_
          refine swp_cond (b := _) rfl (fun h38 => ?_) (fun h38 => by cases h38)
          refine swp_sr ?_
          refine s_mv rfl ?_
          refine s_as rfl ?_
          refine s_as rfl ?_
          refine swl_sub _ (sc0 4 rfl (sc0 5 rfl .nil)) ?_
          refine swl_nn ?_
          refine swp_ret ?_
          refine then_r ?_
          have ha : (⟨d, SW.pl ⟨q, .slice A1 T.length c1, .slice A2 C.length c2, T, C, dead⟩, dead⟩, 0, 7) = y := by rw [← hy]; exact (addR_full (x := ⟨d, SW.pl ⟨q, .slice A1 T.length c1, .slice A2 C.length c2, T, C, dead⟩, dead⟩) hdd rfl h30').symm
          subst ha
          exact done_ret [FSA q d, stH p ⟨q, .slice A1 T.length c1, .slice A2 C.length c2, T, C, dead⟩, ttA ⟨q, .slice A1 T.length c1, .slice A2 C.length c2, T, C, dead⟩, ccA ⟨q, .slice A1 T.length c1, .slice A2 C.length c2, T, C, dead⟩, ro μ] (.tmp rfl (.tmp rfl .nil)) ⟨⟨q, .slice A1 T.length c1, .slice A2 C.length c2, T, C, dead⟩, μ, ⟨Le.refl _, hW0, rfl, rfl, rfl, rfl⟩, rfl⟩ sp0
        · skip   -- 30 F
          have h30' : C.length < 65536 := by have := of_decide_eq_false h30; omega
          have hbl := (checkC_ok h22').1
          refine swp_region ?_
          refine s_mv rfl ?_
          refine s_mv rfl ?_
          refine s_ef (ef_fn (write_spec p ⟨q, .slice A1 T.length c1, .slice A2 C.length c2, T, C, dead⟩ d hd (2, comV c) (by show 0 < 2; decide) (by show 2 < 256; decide) (by rw [comV_ok h22']; exact encC_len h22')) rfl rfl sp0) ?_
          rintro v21 L1 ⟨rfl, rfl⟩
          rw [comV_ok h22']
          refine swl_app ?_
          dsimp only
          refine s_as rfl ?_
          refine swl_sub _ (sc0 0 rfl (sc0 3 rfl (sc0 8 rfl .nil))) ?_
          refine swl_nil ?_
          refine block_n ?_
          refine then_n ?_
          refine swp_seq ?_
          refine swp_sr ?_
          refine s_mv rfl ?_
          refine s_pu (pu_neq rfl rfl) ?_
          refine swl_sub _ (sc0 0 rfl (sc0 3 rfl (sc0 8 rfl (sc0 38 rfl .nil)))) ?_
          refine swl_nn ?_
          refine swp_cond (b := _) rfl (fun h38 => ?_) (fun h38 => ?_)
          · skip   -- 38 T
            refine swp_sr ?_
            refine s_mv rfl ?_
            refine s_as rfl ?_
            refine s_as rfl ?_
            refine swl_sub _ (sc0 4 rfl (sc0 5 rfl .nil)) ?_
            refine swl_nn ?_
            refine swp_ret ?_
            refine then_r ?_
            have h38' : (writeD d (2, encC' c)).2 ≠ 0 := by simpa using h38
            have ha : (⟨(writeD d (2, encC' c)).1, SW.pl ⟨q, .slice A1 T.length c1, .slice A2 C.length c2, T, C, dead⟩, decide ((writeD d (2, encC' c)).2 = 8)⟩, 0, (writeD d (2, encC' c)).2) = y := by rw [← hy]; exact (addR_wr (x := ⟨d, SW.pl ⟨q, .slice A1 T.length c1, .slice A2 C.length c2, T, C, dead⟩, dead⟩) hdd rfl h30' h38').symm
            subst ha
            exact done_ret [FSA q (writeD d (2, encC' c)).1, stH p ⟨q, .slice A1 T.length c1, .slice A2 C.length c2, T, C, decide ((writeD d (2, encC' c)).2 = 8)⟩, ttA ⟨q, .slice A1 T.length c1, .slice A2 C.length c2, T, C, dead⟩, ccA ⟨q, .slice A1 T.length c1, .slice A2 C.length c2, T, C, dead⟩, ro μ] (.tmp rfl (.tmp rfl .nil)) ⟨⟨q, .slice A1 T.length c1, .slice A2 C.length c2, T, C, decide ((writeD d (2, encC' c)).2 = 8)⟩, μ, ⟨Le.refl _, SW.Ok.dead hW0 _, rfl, rfl, rfl, rfl⟩, rfl⟩ sp0
          · skip   -- 38 F
            have h38' : (writeD d (2, encC' c)).2 = 0 := by simpa using h38
            have ha : (⟨(writeD d (2, encC' c)).1, ((SW.pl ⟨q, .slice A1 T.length c1, .slice A2 C.length c2, T, C, dead⟩).1, (SW.pl ⟨q, .slice A1 T.length c1, .slice A2 C.length c2, T, C, dead⟩).2 ++ [c]), false⟩, ((C.length : Nat) : Int), 0) = y := by rw [← hy]; exact (addR_ok (x := ⟨d, SW.pl ⟨q, .slice A1 T.length c1, .slice A2 C.length c2, T, C, dead⟩, dead⟩) hdd rfl h30' h38').symm
            have hd8 : decide ((writeD d (2, encC' c)).2 = 8) = false := by rw [h38']; rfl
            rw [hd8]
            subst ha
            refine swp_skip ?_
            refine then_n ?_
            refine swp_seq ?_
            refine swp_draw [4, 6, 9] ([stH p ⟨q, .slice A1 T.length c1, .slice A2 C.length c2, T, C, false⟩, blk b3 25 [.slice A5 c.1.length c5, .int .i64 c.2]]) ([FSA q (writeD d (2, encC' c)).1, ro μ, ttA ⟨q, .slice A1 T.length c1, .slice A2 C.length c2, T, C, dead⟩, ccA ⟨q, .slice A1 T.length c1, .slice A2 C.length c2, T, C, dead⟩]) (Split.ent sp0) kr0 ?_
            refine d_pu 0 rfl (pu_move rfl) kr0 kr0 kr0 ?_
            refine d_pu 1 rfl (pu_move rfl) kr0 kr0 kr0 ?_
            first | refine d_pu 2 rfl (pu_nilCheck rfl) kr0 kr0 kr0 ?_ | refine d_pu 2 rfl (pu_nilCheck_fn rfl) kr0 kr0 kr0 ?_ | refine d_pu 2 rfl (pu_nilCheck_if rfl) kr0 kr0 kr0 ?_
            first | refine d_pu 3 rfl (pu_fieldAddr0 rfl) kr0 kr0 kr0 ?_ | refine d_pu 3 rfl (pu_fieldAddr rfl) kr0 kr0 kr0 ?_
            refine d_rd 4 rfl (rd_load rfl rfl) rfl kr0 kr0 kr0 ?_
            first | refine d_pu 5 rfl (pu_fieldAddr0 rfl) kr0 kr0 kr0 ?_ | refine d_pu 5 rfl (pu_fieldAddr rfl) kr0 kr0 kr0 ?_
            refine d_rd 6 rfl (rd_load rfl rfl) rfl kr0 kr0 kr0 ?_
            first | refine d_pu 8 rfl (pu_fieldAddr0 rfl) kr0 kr0 kr0 ?_ | refine d_pu 8 rfl (pu_fieldAddr rfl) kr0 kr0 kr0 ?_
            refine d_rd 9 rfl (rd_load rfl rfl) rfl kr0 kr0 kr0 ?_
            refine d_eft 7 rfl kr0 (ef_fn (cloneI_spec μ (.slice A5 c.1.length c5) c.1 hv om0) rfl rfl sp0) ?_
            rintro v47 L1 ⟨A3, c3, rfl, rfl⟩
            refine ⟨_, ent_appC (Split.ent sp0), ?_⟩
            refine d_pu 10 rfl (pu_bld (qs := [(0, _), (1, _)]) rfl) kr0 kr0 kr0 ?_
            refine d_eft 11 rfl kr0 (ef_bldS (qs := [(0, _)]) rfl rfl rfl) ?_
            intro b51
            refine ⟨_, Split.ent sp0, ?_⟩
            first | refine d_fint 12 rfl kr0 kr0 (ef_append_lit (l := C.length) (m := 1) rfl rfl sp0 (by simp only [maxLen]; omega) om0) ?_ | refine d_finf 12 rfl kr0 kr0 (ef_append_lit (l := C.length) (m := 1) rfl rfl sp0 (by simp only [maxLen]; omega) om0) ?_
            rintro v52 -
            first | refine swd_factf (fun m h => own_form h) fun ⟨A45, c45, hv45⟩ => ?_ | refine swd_factt (fun m h => own_form h) fun ⟨A45, c45, hv45⟩ => ?_
            subst hv45
            first | refine d_pu 13 rfl (pu_nilCheck rfl) kr0 kr0 kr0 ?_ | refine d_pu 13 rfl (pu_nilCheck_fn rfl) kr0 kr0 kr0 ?_ | refine d_pu 13 rfl (pu_nilCheck_if rfl) kr0 kr0 kr0 ?_
            first | refine d_pu 14 rfl (pu_fieldAddr0 rfl) kr0 kr0 kr0 ?_ | refine d_pu 14 rfl (pu_fieldAddr rfl) kr0 kr0 kr0 ?_
            first | refine d_fin0t 15 rfl kr0 kr0 (ef_store rfl rfl rfl) ?_ | refine d_fin0f 15 rfl kr0 kr0 (ef_store rfl rfl rfl) ?_
            refine d_sub _ (sc0 0 rfl .nil) ?_
            first | refine d_nilt kr0 ?_ | refine d_nilf kr0 ?_
            refine then_n ?_
            refine swp_seq ?_
            refine swp_share_own (μ := μ) (v := .slice A3 c.1.length c3) (e := 3) (n := 1) sp0 fun μ' hle hrow => ?_
            refine swp_region ?_
            refine s_mv rfl ?_
            first | refine s_pu (pu_nilCheck rfl) ?_ | refine s_pu (pu_nilCheck_fn rfl) ?_ | refine s_pu (pu_nilCheck_if rfl) ?_
            first | refine s_pu (pu_fieldAddr0 rfl) ?_ | refine s_pu (pu_fieldAddr rfl) ?_
            refine s_rd (rd_load rfl rfl) ?_
            refine s_pu (pu_len rfl) ?_
            refine s_pu (pu_sub_as ((C.length : Nat) : Int) rfl rfl om0 om0 om0) ?_
            refine s_as rfl ?_
            refine s_as rfl ?_
            refine swl_sub _ (sc0 4 rfl (sc0 5 rfl .nil)) ?_
            refine swl_nn ?_
            refine swp_ret ?_
            refine done_ret [FSA q (writeD d (2, encC' c)).1, stH p ⟨q, .slice A1 T.length c1, .slice A45 (C.length + 1) c45, T, C ++ [(.slice A3 c.1.length c3, c)], false⟩, ttA ⟨q, .slice A1 T.length c1, .slice A2 C.length c2, T, C, dead⟩, own 25 2 (.slice A45 (C.length + 1) c45) (C.length + 1) (C.flatMap ccs ++ [.slice A3 c.1.length c3, .int .i64 c.2]), ro μ'] (.tmp rfl (.tmp rfl .nil)) ⟨⟨q, .slice A1 T.length c1, .slice A45 (C.length + 1) c45, T, C ++ [(.slice A3 c.1.length c3, c)], false⟩, μ', ⟨hle, SW.Ok.dead (Ok.addC hW0 hle hrow h30') false, rfl, ?_, rfl, rfl⟩, ?_⟩ sp0
            · unfold SW.pl; rw [List.map_append]; rfl
            · simp only [ccA, List.length_append, List.length_singleton, List.flatMap_append]; rfl
end SX
