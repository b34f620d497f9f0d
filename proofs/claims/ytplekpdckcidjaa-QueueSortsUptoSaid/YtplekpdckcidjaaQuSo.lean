/- A part of the proof: walks of the seat's functions, by the rules of the texts that it imports. -/
import Derived.Test.YtplekpdckcidjaaQuW5
import Derived.Test.YtplekpdckcidjaaQu16
import Derived.Test.YtplekpdckcidjaaSxLaw2
namespace SX
open Go Go.Proofs

theorem new_own (v : Value) (xs : List Th) (hb : xs.length ≤ 1099511627776) : Spec Try.prog 9 [v] [own 27 2 v xs.length (ths xs)] (fun r L => ∃ q, r = .pointer (some ⟨q, 0, none⟩) ∧ L = [qa q (pushTo [] 0 xs) xs.length, own 27 2 v xs.length (ths xs)]) := by
  refine Spec.own_cases (fun hv l0 x0 => ?_) (fun g cap ex hv o1 o2 o3 o4 => ?_)
  · subst hv
    refine Spec.ent3 new_nil ?_
    rintro v L ⟨q, rfl, rfl⟩
    have he : xs = [] := List.eq_nil_of_length_eq_zero l0
    subst he
    exact ⟨_, Ent.cons own_nil_ent, q, rfl, rfl⟩
  · subst hv
    refine Spec.ent3 (new_blk g cap xs ex hb) ?_
    rintro v L ⟨q, rfl, rfl⟩
    exact ⟨_, Ent.cons (own_close o3 o4 o1 o2), q, rfl, rfl⟩
theorem pushTo_perm : ∀ (xs : List Th) (S : List (Th × Nat)) (n : Nat), (pushTo S n xs).Perm (S ++ xs.zipIdx n)
  | [], S, n => by simp [pushTo]
  | x :: xs, S, n => by
    rw [pushTo, List.zipIdx_cons]
    refine (pushTo_perm xs _ _).trans ?_
    refine ((Hp.ins_perm (x, n) S).append_right _).trans ?_
    exact List.perm_middle.symm
theorem qa_pair {q nxt : Nat} {S : List (Th × Nat)} {L : List Assn} {m : PH} (h : Sat (qa q S nxt :: L) m) : S.Pairwise (fun a b => aT a b = true) := by
  obtain ⟨es, hx⟩ := exA_open h
  exact es.2.1.2.2
def itemsOf (ns : List Int) : List Th := ns.zipIdx.map fun p => (p.1, ((p.2 : Nat) : Int))
theorem itemsOf_len (ns : List Int) : (itemsOf ns).length = ns.length := by simp [itemsOf]
theorem itemsOf_get (ns : List Int) (i : Nat) (x : Int) (h : ns[i]? = some x) : (itemsOf ns)[i]? = some (x, (i : Int)) := by
  simp [itemsOf, List.getElem?_map, List.getElem?_zipIdx, h]
theorem itemsOf_succ (ns : List Int) (i : Nat) (x : Int) (h : ns[i]? = some x) : ths (itemsOf (ns.take (i + 1))) = ths (itemsOf (ns.take i)) ++ [.int .i64 x, .int .i64 (i : Nat)] := by
  have hl : i < ns.length := (List.getElem?_eq_some_iff.1 h).1
  have e : ns.take (i + 1) = ns.take i ++ [x] := by rw [List.take_add_one, h]; rfl
  have e2 : (ns.take i).length = i := by rw [List.length_take]; omega
  rw [e]
  unfold itemsOf
  rw [List.zipIdx_append, List.map_append, ths_app, e2]
  simp [ths, tcs]

set_option maxHeartbeats 2000000 in
theorem sorts_spec (μ : PH) (nv wv : Value) (ns : List Int) (ws : List ByteArray) (hn : Row μ nv 1 ns.length (ns.flatMap (icsk .i64))) (hw : Row μ wv 1 ws.length (ws.flatMap scsv)) (hnl : ns.length ≤ 1048576) (hwl : ws.length ≤ 1048576) :
    Spec Try.prog 3 [nv, wv] [ro μ] (fun v L => v = .bool true ∧ ∃ μ' R, Le μ μ' ∧ L = ro μ' :: R) := by
  obtain ⟨An, capn, hnv⟩ := hn.form
  subst hnv
  obtain ⟨Aw, capw, hwv⟩ := hw.form
  subst hwv
  refine Spec.of 152 Try.func3 rfl rfl rfl ?_
  refine swp_seq ?_
  refine swp_region ?_
  refine s_ef (ef_alloc) ?_
  intro b4
  refine swl_sub _ (.cons (t := 0) rfl (.cons (t := 1) rfl (.cons (t := 4) rfl .nil))) ?_
  refine swl_nil ?_
  refine then_n ?_
  refine swp_seq ?_
  refine swp_seq ?_
  refine swp_region ?_
  refine s_ef (ef_fn ranks_spec rfl rfl (by repeat (first | exact Split.nil | (apply Split.cons; (repeat (first | with_reducible exact Take.here | apply Take.there)))))) ?_
  rintro v L1 ⟨rfl, rfl⟩
  refine swl_app ?_
  refine s_pu (pu_not rfl) ?_
  refine swl_sub _ (.cons (t := 0) rfl (.cons (t := 1) rfl (.cons (t := 4) rfl (.cons (t := 21) rfl .nil)))) ?_
  refine swl_nil ?_
  refine then_n ?_
  refine swp_cond (b := _) rfl (fun h21 => absurd h21 (by decide)) (fun h21 => ?_)
  refine swp_skip ?_
  refine then_n ?_
  refine swp_seq ?_
  refine swp_region ?_
  refine s_pu (pu_assign rfl) ?_
  refine swl_sub _ (.cons (t := 0) rfl (.cons (t := 1) rfl (.cons (t := 4) rfl (.cons (t := 5) rfl .nil)))) ?_
  refine swl_ent (own_nil_ent (e := 27) (n := 2)) ?_
  refine swl_nil ?_
  refine then_n ?_
  refine swp_seq ?_
  refine swp_seq ?_
  refine swp_region ?_
  refine s_pu (pu_move rfl) ?_
  refine s_pu (pu_len rfl) ?_
  refine s_pu (pu_move rfl) ?_
  refine swl_sub _ (.cons (t := 1) rfl (.cons (t := 4) rfl (.cons (t := 5) rfl (.cons (t := 22) rfl (.cons (t := 23) rfl (.cons (t := 24) rfl .nil)))))) ?_
  refine swl_nil ?_
  refine then_n ?_
  refine swp_block ?_
  refine swp_loop (ι := Nat × Value) (fun k env L => env = [(1, .slice Aw ws.length capw), (4, .pointer (some ⟨b4, 0, none⟩)), (5, k.2), (22, .slice An ns.length capn), (23, .int .i64 (ns.length : Nat)), (24, .int .i64 (k.1 : Nat))] ∧ L = [own 27 2 k.2 k.1 (ths (itemsOf (ns.take k.1))), blk b4 4 [.bool false], ro μ] ∧ k.1 ≤ ns.length) (fun k => ns.length - k.1) (0, .slice none 0 0) ⟨rfl, rfl, Nat.zero_le _⟩ ?_
  rintro ⟨i, v⟩ env L ⟨rfl, rfl, hi⟩
  simp only [] at hi
  dsimp only
  refine swp_seq ?_
  refine swp_region ?_
  refine s_pu (pu_lss rfl rfl) ?_
  refine swl_sub _ (.cons (t := 1) rfl (.cons (t := 4) rfl (.cons (t := 5) rfl (.cons (t := 22) rfl (.cons (t := 23) rfl (.cons (t := 24) rfl (.cons (t := 25) rfl .nil))))))) ?_
  refine swl_nil ?_
  refine then_n ?_
  refine swp_seq ?_
  refine swp_cond (b := _) rfl (fun h25 => ?_) (fun h25 => ?_)
  · skip   -- 25 T
    have h25' : i < ns.length := by simp at h25; omega
    obtain ⟨gb, off, cap, hv, c1, c2, hr⟩ := hn.pos (by omega)
    simp only [Value.slice.injEq, true_and] at hv
    obtain ⟨rfl, rfl⟩ := hv
    obtain ⟨x, hx⟩ : ∃ x, ns[i]? = some x := ⟨_, List.getElem?_eq_getElem h25'⟩
    have hrk := hr.elem (icsk_len .i64) hx
    refine swp_skip ?_
    refine then_n ?_
    refine swp_seq ?_
    refine swp_block ?_
    refine swp_seq ?_
    refine swp_region ?_
    refine s_pu (pu_move rfl) ?_
    refine s_pu (pu_indexAddr (off + i * 1) rfl rfl (by omega) (by omega) (by rw [Int.toNat_natCast])) ?_
    refine s_rd (rd_ro rfl hrk.cell) ?_
    refine s_pu (pu_assign rfl) ?_
    refine s_pu (pu_assign rfl) ?_
    refine swl_sub _ (.cons (t := 1) rfl (.cons (t := 4) rfl (.cons (t := 5) rfl (.cons (t := 6) rfl (.cons (t := 7) rfl (.cons (t := 22) rfl (.cons (t := 23) rfl (.cons (t := 24) rfl .nil)))))))) ?_
    refine swl_nil ?_
    refine then_n ?_
    refine swp_region ?_
    refine s_pu (pu_move rfl) ?_
    refine s_pu (pu_move rfl) ?_
    refine s_pu (pu_move rfl) ?_
    refine s_pu (pu_bld (qs := [(0, _), (1, _)]) rfl) ?_
    refine s_ef (ef_bldS (qs := [(0, _)]) rfl rfl rfl) ?_
    intro b33
    refine s_ef (ef_append_lit (l := i) (m := 1) rfl rfl (by repeat (first | exact Split.nil | (apply Split.cons; (repeat (first | with_reducible exact Take.here | apply Take.there))))) (by simp only [maxLen]; omega) (by omega)) ?_
    rintro v' hv'
    skip
    refine s_pu (pu_assign rfl) ?_
    refine swl_sub _ (.cons (t := 1) rfl (.cons (t := 4) rfl (.cons (t := 5) rfl (.cons (t := 22) rfl (.cons (t := 23) rfl (.cons (t := 24) rfl .nil)))))) ?_
    refine swl_nil ?_
    refine block_n ?_
    refine then_n ?_
    refine swp_region ?_
    refine s_pu (pu_add_as ((i + 1 : Nat) : Int) rfl rfl (by omega) (by omega) (by omega)) ?_
    refine s_pu (pu_move rfl) ?_
    refine swl_sub _ (.cons (t := 1) rfl (.cons (t := 4) rfl (.cons (t := 5) rfl (.cons (t := 22) rfl (.cons (t := 23) rfl (.cons (t := 24) rfl .nil)))))) ?_
    refine swl_nil ?_
    refine then_n ⟨(i + 1, v'), ⟨rfl, ?_, h25'⟩, by show ns.length - (i + 1) < ns.length - i; omega⟩
    rw [itemsOf_succ ns i x hx]
  · skip   -- 25 F
    have hin : i = ns.length := by simp at h25; omega
    subst hin
    rw [List.take_length]
    obtain ⟨xs, hxs⟩ : ∃ xs, xs = itemsOf ns := ⟨_, rfl⟩
    have hxl : xs.length = ns.length := by rw [hxs, itemsOf_len]
    have hxg : ∀ (j : Nat) (e : Th), xs[j]? = some e → e.2 = (j : Int) := fun j e he => by
      have hj : j < ns.length := by rw [← hxl]; exact (List.getElem?_eq_some_iff.1 he).1
      rw [hxs, itemsOf_get ns j _ (List.getElem?_eq_getElem hj)] at he
      cases he; rfl
    rw [← hxs, ← hxl]
    generalize hnn : xs.length = n at *
    refine swp_fact (fun m h => own_form h) fun ⟨A5, cap5, hv5⟩ => ?_
    subst hv5
    refine swp_exit ?_
    refine then_x ?_
    refine then_x ?_
    refine block_hit rfl ?_
    refine then_n ?_
    refine swp_cut (fun env L => ∃ q b9 bs : Nat, env = [(1, .slice Aw ws.length capw), (4, .pointer (some ⟨b4, 0, none⟩)), (5, .slice A5 n cap5), (8, .pointer (some ⟨q, 0, none⟩)), (9, .pointer (some ⟨b9, 0, none⟩)), (10, .slice (some ⟨bs, 0, none⟩) n n)] ∧
        Ent L [qa q (pushTo [] 0 xs) n, own 27 2 (.slice A5 n cap5) n (ths xs), blk b9 27 [.int .i64 0, .int .i64 0], blk bs 4 (List.replicate n (.bool false)), blk b4 4 [.bool false], ro μ]) ?_ ?_
    · skip
      refine swp_draw [] _ [] (by simp only [List.append_nil]; exact Ent.refl _) (by kernel_rfl) ?_
      refine d_pu 0 rfl (pu_move rfl) (by kernel_rfl) (by kernel_rfl) (by kernel_rfl) ?_
      refine d_pu 2 rfl (pu_bld (qs := []) rfl) (by kernel_rfl) (by kernel_rfl) (by kernel_rfl) ?_
      refine d_pu 3 rfl (pu_move rfl) (by kernel_rfl) (by kernel_rfl) (by kernel_rfl) ?_
      refine d_pu 4 rfl (pu_len rfl) (by kernel_rfl) (by kernel_rfl) (by kernel_rfl) ?_
      refine d_amb [1, 5, 6] (by kernel_rfl) rfl ⟨?_, ?_, ?_⟩
      · skip   -- 1 comes first
        first | refine dA_fint 1 rfl GOn.none (by kernel_rfl) (ef_fn (hnn ▸ new_own _ xs (by omega)) rfl rfl (by repeat (first | exact Split.nil | (apply Split.cons; (repeat (first | with_reducible exact Take.here | apply Take.there)))))) ?_ | refine dA_finf 1 rfl GOn.none (by kernel_rfl) (ef_fn (hnn ▸ new_own _ xs (by omega)) rfl rfl (by repeat (first | exact Split.nil | (apply Split.cons; (repeat (first | with_reducible exact Take.here | apply Take.there)))))) ?_
        rintro v L1 ⟨q, rfl, rfl⟩
        refine swd_app ?_
        refine d_amb [5, 6] (by kernel_rfl) rfl ⟨?_, ?_⟩
        · skip   -- 5 comes first
          first | refine dA_fint 5 rfl GOn.none (by kernel_rfl) (ef_make1 n rfl rfl rfl (by omega) (by simp only [maxLen]; omega)) ?_ | refine dA_finf 5 rfl GOn.none (by kernel_rfl) (ef_make1 n rfl rfl rfl (by omega) (by simp only [maxLen]; omega)) ?_
          rintro bs
          skip
          first | refine d_fint 6 rfl (by kernel_rfl) (by kernel_rfl) (ef_alloc) ?_ | refine d_finf 6 rfl (by kernel_rfl) (by kernel_rfl) (ef_alloc) ?_
          intro b9
          refine d_pu 7 rfl (pu_assign rfl) (by kernel_rfl) (by kernel_rfl) (by kernel_rfl) ?_
          first | refine d_fin0t 8 rfl (by kernel_rfl) (by kernel_rfl) (ef_storeA rfl rfl rfl rfl) ?_ | refine d_fin0f 8 rfl (by kernel_rfl) (by kernel_rfl) (ef_storeA rfl rfl rfl rfl) ?_
          refine d_pu 9 rfl (pu_assign rfl) (by kernel_rfl) (by kernel_rfl) (by kernel_rfl) ?_
          refine d_sub _ (.cons (t := 1) rfl (.cons (t := 4) rfl (.cons (t := 5) rfl (.cons (t := 8) rfl (.cons (t := 9) rfl (.cons (t := 10) rfl .nil)))))) ?_
          first | refine d_nilt (by kernel_rfl) ?_ | refine d_nilf (by kernel_rfl) ?_
          exact then_n ⟨q, b9, bs, rfl, Split.ent' (by repeat (first | exact Split.nil | (apply Split.cons; (repeat (first | with_reducible exact Take.here | apply Take.there)))))⟩
        · skip   -- 6 comes first
          first | refine dA_fint 6 rfl GOn.none (by kernel_rfl) (ef_alloc) ?_ | refine dA_finf 6 rfl GOn.none (by kernel_rfl) (ef_alloc) ?_
          intro b9
          refine d_pu 7 rfl (pu_assign rfl) (by kernel_rfl) (by kernel_rfl) (by kernel_rfl) ?_
          refine d_amb [5, 8] (by kernel_rfl) rfl ⟨?_, ?_⟩
          · skip   -- 5 comes first
            first | refine dA_fint 5 rfl GOn.none (by kernel_rfl) (ef_make1 n rfl rfl rfl (by omega) (by simp only [maxLen]; omega)) ?_ | refine dA_finf 5 rfl GOn.none (by kernel_rfl) (ef_make1 n rfl rfl rfl (by omega) (by simp only [maxLen]; omega)) ?_
            rintro bs
            skip
            first | refine d_fin0t 8 rfl (by kernel_rfl) (by kernel_rfl) (ef_storeA rfl rfl rfl rfl) ?_ | refine d_fin0f 8 rfl (by kernel_rfl) (by kernel_rfl) (ef_storeA rfl rfl rfl rfl) ?_
            refine d_pu 9 rfl (pu_assign rfl) (by kernel_rfl) (by kernel_rfl) (by kernel_rfl) ?_
            refine d_sub _ (.cons (t := 1) rfl (.cons (t := 4) rfl (.cons (t := 5) rfl (.cons (t := 8) rfl (.cons (t := 9) rfl (.cons (t := 10) rfl .nil)))))) ?_
            first | refine d_nilt (by kernel_rfl) ?_ | refine d_nilf (by kernel_rfl) ?_
            exact then_n ⟨q, b9, bs, rfl, Split.ent' (by repeat (first | exact Split.nil | (apply Split.cons; (repeat (first | with_reducible exact Take.here | apply Take.there)))))⟩
          · skip   -- 8 comes first
            first | refine dA_fin0t 8 rfl GOn.none (by kernel_rfl) (ef_storeA rfl rfl rfl rfl) ?_ | refine dA_fin0f 8 rfl GOn.none (by kernel_rfl) (ef_storeA rfl rfl rfl rfl) ?_
            first | refine d_fint 5 rfl (by kernel_rfl) (by kernel_rfl) (ef_make1 n rfl rfl rfl (by omega) (by simp only [maxLen]; omega)) ?_ | refine d_finf 5 rfl (by kernel_rfl) (by kernel_rfl) (ef_make1 n rfl rfl rfl (by omega) (by simp only [maxLen]; omega)) ?_
            rintro bs
            skip
            refine d_pu 9 rfl (pu_assign rfl) (by kernel_rfl) (by kernel_rfl) (by kernel_rfl) ?_
            refine d_sub _ (.cons (t := 1) rfl (.cons (t := 4) rfl (.cons (t := 5) rfl (.cons (t := 8) rfl (.cons (t := 9) rfl (.cons (t := 10) rfl .nil)))))) ?_
            first | refine d_nilt (by kernel_rfl) ?_ | refine d_nilf (by kernel_rfl) ?_
            exact then_n ⟨q, b9, bs, rfl, Split.ent' (by repeat (first | exact Split.nil | (apply Split.cons; (repeat (first | with_reducible exact Take.here | apply Take.there)))))⟩
      · skip   -- 5 comes first
        first | refine dA_fint 5 rfl GOn.none (by kernel_rfl) (ef_make1 n rfl rfl rfl (by omega) (by simp only [maxLen]; omega)) ?_ | refine dA_finf 5 rfl GOn.none (by kernel_rfl) (ef_make1 n rfl rfl rfl (by omega) (by simp only [maxLen]; omega)) ?_
        rintro bs
        skip
        refine d_amb [1, 6] (by kernel_rfl) rfl ⟨?_, ?_⟩
        · skip   -- 1 comes first
          first | refine dA_fint 1 rfl GOn.none (by kernel_rfl) (ef_fn (hnn ▸ new_own _ xs (by omega)) rfl rfl (by repeat (first | exact Split.nil | (apply Split.cons; (repeat (first | with_reducible exact Take.here | apply Take.there)))))) ?_ | refine dA_finf 1 rfl GOn.none (by kernel_rfl) (ef_fn (hnn ▸ new_own _ xs (by omega)) rfl rfl (by repeat (first | exact Split.nil | (apply Split.cons; (repeat (first | with_reducible exact Take.here | apply Take.there)))))) ?_
          rintro v L1 ⟨q, rfl, rfl⟩
          refine swd_app ?_
          first | refine d_fint 6 rfl (by kernel_rfl) (by kernel_rfl) (ef_alloc) ?_ | refine d_finf 6 rfl (by kernel_rfl) (by kernel_rfl) (ef_alloc) ?_
          intro b9
          refine d_pu 7 rfl (pu_assign rfl) (by kernel_rfl) (by kernel_rfl) (by kernel_rfl) ?_
          first | refine d_fin0t 8 rfl (by kernel_rfl) (by kernel_rfl) (ef_storeA rfl rfl rfl rfl) ?_ | refine d_fin0f 8 rfl (by kernel_rfl) (by kernel_rfl) (ef_storeA rfl rfl rfl rfl) ?_
          refine d_pu 9 rfl (pu_assign rfl) (by kernel_rfl) (by kernel_rfl) (by kernel_rfl) ?_
          refine d_sub _ (.cons (t := 1) rfl (.cons (t := 4) rfl (.cons (t := 5) rfl (.cons (t := 8) rfl (.cons (t := 9) rfl (.cons (t := 10) rfl .nil)))))) ?_
          first | refine d_nilt (by kernel_rfl) ?_ | refine d_nilf (by kernel_rfl) ?_
          exact then_n ⟨q, b9, bs, rfl, Split.ent' (by repeat (first | exact Split.nil | (apply Split.cons; (repeat (first | with_reducible exact Take.here | apply Take.there)))))⟩
        · skip   -- 6 comes first
          first | refine dA_fint 6 rfl GOn.none (by kernel_rfl) (ef_alloc) ?_ | refine dA_finf 6 rfl GOn.none (by kernel_rfl) (ef_alloc) ?_
          intro b9
          first | refine d_fint 1 rfl (by kernel_rfl) (by kernel_rfl) (ef_fn (hnn ▸ new_own _ xs (by omega)) rfl rfl (by repeat (first | exact Split.nil | (apply Split.cons; (repeat (first | with_reducible exact Take.here | apply Take.there)))))) ?_ | refine d_finf 1 rfl (by kernel_rfl) (by kernel_rfl) (ef_fn (hnn ▸ new_own _ xs (by omega)) rfl rfl (by repeat (first | exact Split.nil | (apply Split.cons; (repeat (first | with_reducible exact Take.here | apply Take.there)))))) ?_
          rintro v L1 ⟨q, rfl, rfl⟩
          refine swd_app ?_
          refine d_pu 7 rfl (pu_assign rfl) (by kernel_rfl) (by kernel_rfl) (by kernel_rfl) ?_
          first | refine d_fin0t 8 rfl (by kernel_rfl) (by kernel_rfl) (ef_storeA rfl rfl rfl rfl) ?_ | refine d_fin0f 8 rfl (by kernel_rfl) (by kernel_rfl) (ef_storeA rfl rfl rfl rfl) ?_
          refine d_pu 9 rfl (pu_assign rfl) (by kernel_rfl) (by kernel_rfl) (by kernel_rfl) ?_
          refine d_sub _ (.cons (t := 1) rfl (.cons (t := 4) rfl (.cons (t := 5) rfl (.cons (t := 8) rfl (.cons (t := 9) rfl (.cons (t := 10) rfl .nil)))))) ?_
          first | refine d_nilt (by kernel_rfl) ?_ | refine d_nilf (by kernel_rfl) ?_
          exact then_n ⟨q, b9, bs, rfl, Split.ent' (by repeat (first | exact Split.nil | (apply Split.cons; (repeat (first | with_reducible exact Take.here | apply Take.there)))))⟩
      · skip   -- 6 comes first
        first | refine dA_fint 6 rfl GOn.none (by kernel_rfl) (ef_alloc) ?_ | refine dA_finf 6 rfl GOn.none (by kernel_rfl) (ef_alloc) ?_
        intro b9
        refine d_amb [1, 5] (by kernel_rfl) rfl ⟨?_, ?_⟩
        · skip   -- 1 comes first
          first | refine dA_fint 1 rfl GOn.none (by kernel_rfl) (ef_fn (hnn ▸ new_own _ xs (by omega)) rfl rfl (by repeat (first | exact Split.nil | (apply Split.cons; (repeat (first | with_reducible exact Take.here | apply Take.there)))))) ?_ | refine dA_finf 1 rfl GOn.none (by kernel_rfl) (ef_fn (hnn ▸ new_own _ xs (by omega)) rfl rfl (by repeat (first | exact Split.nil | (apply Split.cons; (repeat (first | with_reducible exact Take.here | apply Take.there)))))) ?_
          rintro v L1 ⟨q, rfl, rfl⟩
          refine swd_app ?_
          refine d_pu 7 rfl (pu_assign rfl) (by kernel_rfl) (by kernel_rfl) (by kernel_rfl) ?_
          refine d_amb [5, 8] (by kernel_rfl) rfl ⟨?_, ?_⟩
          · skip   -- 5 comes first
            first | refine dA_fint 5 rfl GOn.none (by kernel_rfl) (ef_make1 n rfl rfl rfl (by omega) (by simp only [maxLen]; omega)) ?_ | refine dA_finf 5 rfl GOn.none (by kernel_rfl) (ef_make1 n rfl rfl rfl (by omega) (by simp only [maxLen]; omega)) ?_
            rintro bs
            skip
            first | refine d_fin0t 8 rfl (by kernel_rfl) (by kernel_rfl) (ef_storeA rfl rfl rfl rfl) ?_ | refine d_fin0f 8 rfl (by kernel_rfl) (by kernel_rfl) (ef_storeA rfl rfl rfl rfl) ?_
            refine d_pu 9 rfl (pu_assign rfl) (by kernel_rfl) (by kernel_rfl) (by kernel_rfl) ?_
            refine d_sub _ (.cons (t := 1) rfl (.cons (t := 4) rfl (.cons (t := 5) rfl (.cons (t := 8) rfl (.cons (t := 9) rfl (.cons (t := 10) rfl .nil)))))) ?_
            first | refine d_nilt (by kernel_rfl) ?_ | refine d_nilf (by kernel_rfl) ?_
            exact then_n ⟨q, b9, bs, rfl, Split.ent' (by repeat (first | exact Split.nil | (apply Split.cons; (repeat (first | with_reducible exact Take.here | apply Take.there)))))⟩
          · skip   -- 8 comes first
            first | refine dA_fin0t 8 rfl GOn.none (by kernel_rfl) (ef_storeA rfl rfl rfl rfl) ?_ | refine dA_fin0f 8 rfl GOn.none (by kernel_rfl) (ef_storeA rfl rfl rfl rfl) ?_
            first | refine d_fint 5 rfl (by kernel_rfl) (by kernel_rfl) (ef_make1 n rfl rfl rfl (by omega) (by simp only [maxLen]; omega)) ?_ | refine d_finf 5 rfl (by kernel_rfl) (by kernel_rfl) (ef_make1 n rfl rfl rfl (by omega) (by simp only [maxLen]; omega)) ?_
            rintro bs
            skip
            refine d_pu 9 rfl (pu_assign rfl) (by kernel_rfl) (by kernel_rfl) (by kernel_rfl) ?_
            refine d_sub _ (.cons (t := 1) rfl (.cons (t := 4) rfl (.cons (t := 5) rfl (.cons (t := 8) rfl (.cons (t := 9) rfl (.cons (t := 10) rfl .nil)))))) ?_
            first | refine d_nilt (by kernel_rfl) ?_ | refine d_nilf (by kernel_rfl) ?_
            exact then_n ⟨q, b9, bs, rfl, Split.ent' (by repeat (first | exact Split.nil | (apply Split.cons; (repeat (first | with_reducible exact Take.here | apply Take.there)))))⟩
        · skip   -- 5 comes first
          first | refine dA_fint 5 rfl GOn.none (by kernel_rfl) (ef_make1 n rfl rfl rfl (by omega) (by simp only [maxLen]; omega)) ?_ | refine dA_finf 5 rfl GOn.none (by kernel_rfl) (ef_make1 n rfl rfl rfl (by omega) (by simp only [maxLen]; omega)) ?_
          rintro bs
          skip
          first | refine d_fint 1 rfl (by kernel_rfl) (by kernel_rfl) (ef_fn (hnn ▸ new_own _ xs (by omega)) rfl rfl (by repeat (first | exact Split.nil | (apply Split.cons; (repeat (first | with_reducible exact Take.here | apply Take.there)))))) ?_ | refine d_finf 1 rfl (by kernel_rfl) (by kernel_rfl) (ef_fn (hnn ▸ new_own _ xs (by omega)) rfl rfl (by repeat (first | exact Split.nil | (apply Split.cons; (repeat (first | with_reducible exact Take.here | apply Take.there)))))) ?_
          rintro v L1 ⟨q, rfl, rfl⟩
          refine swd_app ?_
          refine d_pu 7 rfl (pu_assign rfl) (by kernel_rfl) (by kernel_rfl) (by kernel_rfl) ?_
          first | refine d_fin0t 8 rfl (by kernel_rfl) (by kernel_rfl) (ef_storeA rfl rfl rfl rfl) ?_ | refine d_fin0f 8 rfl (by kernel_rfl) (by kernel_rfl) (ef_storeA rfl rfl rfl rfl) ?_
          refine d_pu 9 rfl (pu_assign rfl) (by kernel_rfl) (by kernel_rfl) (by kernel_rfl) ?_
          refine d_sub _ (.cons (t := 1) rfl (.cons (t := 4) rfl (.cons (t := 5) rfl (.cons (t := 8) rfl (.cons (t := 9) rfl (.cons (t := 10) rfl .nil)))))) ?_
          first | refine d_nilt (by kernel_rfl) ?_ | refine d_nilf (by kernel_rfl) ?_
          exact then_n ⟨q, b9, bs, rfl, Split.ent' (by repeat (first | exact Split.nil | (apply Split.cons; (repeat (first | with_reducible exact Take.here | apply Take.there)))))⟩
    rintro env L ⟨q, b9, bs, rfl, hE⟩
    refine swp_ent hE ?_
    refine swp_fact (fun m h => qa_pair h) fun hpair => ?_
    refine swp_share_own (by repeat (first | exact Split.nil | (apply Split.cons; (repeat (first | with_reducible exact Take.here | apply Take.there))))) fun μ2 hle hrow => ?_
    have hperm := pushTo_perm xs [] 0
    rw [List.nil_append] at hperm
    refine swp_seq ?_
    refine swp_seq ?_
    refine swp_region ?_
    refine s_pu (pu_move rfl) ?_
    refine s_pu (pu_len rfl) ?_
    refine s_pu (pu_move rfl) ?_
    refine swl_sub _ (.cons (t := 1) rfl (.cons (t := 4) rfl (.cons (t := 5) rfl (.cons (t := 8) rfl (.cons (t := 9) rfl (.cons (t := 10) rfl (.cons (t := 43) rfl (.cons (t := 44) rfl .nil)))))))) ?_
    refine swl_nil ?_
    refine then_n ?_
    refine swp_block ?_
    refine swp_loop (ι := Nat × List (Th × Nat) × Th × List Value) (fun k env L => env = [(1, .slice Aw ws.length capw), (4, .pointer (some ⟨b4, 0, none⟩)), (5, .slice A5 n cap5), (8, .pointer (some ⟨q, 0, none⟩)), (9, .pointer (some ⟨b9, 0, none⟩)), (10, .slice (some ⟨bs, 0, none⟩) n n), (43, .int .i64 (n : Nat)), (44, .int .i64 (k.1 : Nat))] ∧
      L = [ro μ2, qa q k.2.1 n, blk b9 27 [.int .i64 k.2.2.1.1, .int .i64 k.2.2.1.2], blk bs 4 k.2.2.2, blk b4 4 [.bool false]] ∧ k.2.1.length + k.1 = n ∧ k.2.2.2.length = n ∧ k.2.1.Pairwise (fun a b => aT a b = true) ∧ (k.2.1.map (·.2)).Nodup ∧
      (∀ e ∈ k.2.1, xs[e.2]? = some e.1 ∧ k.2.2.2[e.2]? = some (.bool false)) ∧ (0 < k.1 → ∀ e ∈ k.2.1, k.2.2.1.1 < e.1.1 ∨ (k.2.2.1.1 = e.1.1 ∧ k.2.2.1.2 < e.1.2))) (fun k => n - k.1) (0, pushTo [] 0 xs, (0, 0), List.replicate n (.bool false))
      ⟨rfl, rfl, by simp [hperm.length_eq, hnn], by simp, hpair, ?_, fun e he => ?_, by simp⟩ ?_
    · refine (hperm.map _).nodup_iff.2 ?_
      rw [List.zipIdx_map_snd]
      exact List.nodup_range'
    · have h1 := hperm.mem_iff.1 he
      have h2 := List.mem_zipIdx_iff_getElem?.1 h1
      have h3 : e.2 < n := by rw [← hnn]; exact (List.getElem?_eq_some_iff.1 h2).1
      exact ⟨h2, by simp [h3]⟩
    rintro ⟨k, T, last, seen⟩ env L ⟨rfl, rfl, hTl, hsl, hTp, hnd, hall, hlast⟩
    simp only [] at hTl hsl hTp hnd hall hlast
    dsimp only
    refine swp_seq ?_
    refine swp_region ?_
    refine s_pu (pu_lss rfl rfl) ?_
    refine swl_sub _ (.cons (t := 1) rfl (.cons (t := 4) rfl (.cons (t := 5) rfl (.cons (t := 8) rfl (.cons (t := 9) rfl (.cons (t := 10) rfl (.cons (t := 43) rfl (.cons (t := 44) rfl (.cons (t := 45) rfl .nil))))))))) ?_
    refine swl_nil ?_
    refine then_n ?_
    refine swp_seq ?_
    refine swp_cond (b := _) rfl (fun h45 => ?_) (fun h45 => ?_)
    · skip   -- 45 T
      have h45' : k < n := by simp at h45; omega
      obtain ⟨s, T', rfl⟩ : ∃ s T', T = s :: T' := by cases T with
        | nil => simp at hTl; omega
        | cons s T' => exact ⟨s, T', rfl⟩
      obtain ⟨⟨r, t⟩, m⟩ := s
      obtain ⟨hxm, hsm⟩ := hall ((r, t), m) (by simp)
      have hsm' : seen[m]? = some (.bool false) := hsm
      have htm : t = (m : Int) := hxg m (r, t) hxm
      have hmn : m < n := by rw [← hnn]; exact (List.getElem?_eq_some_iff.1 hxm).1
      subst htm
      obtain ⟨gx, offx, capx, hvx, cx1, cx2, hrx⟩ := hrow.pos (by omega)
      simp only [Value.slice.injEq, true_and] at hvx
      obtain ⟨rfl, rfl⟩ := hvx
      have hrk := RowAt.elem (f := tcs) tcs_len hrx hxm
      have hlast' : 0 < k → last.1 < r ∨ (last.1 = r ∧ last.2 < (m : Int)) := fun h => hlast h ((r, (m : Int)), m) (by simp)
      refine swp_skip ?_
      refine then_n ?_
      refine swp_seq ?_
      refine swp_block ?_
      refine swp_seq ?_
      refine swp_region ?_
      refine s_pu (pu_move rfl) ?_
      refine s_pu (pu_assign rfl) ?_
      refine swl_sub _ (.cons (t := 1) rfl (.cons (t := 4) rfl (.cons (t := 5) rfl (.cons (t := 8) rfl (.cons (t := 9) rfl (.cons (t := 10) rfl (.cons (t := 11) rfl (.cons (t := 43) rfl (.cons (t := 44) rfl .nil))))))))) ?_
      refine swl_nil ?_
      refine then_n ?_
      refine swp_seq ?_
      refine swp_region ?_
      refine s_pu (pu_move rfl) ?_
      refine s_ef (ef_fn (pop_a q n ((r, (m : Int)), m) T' (by omega)) rfl rfl (by repeat (first | exact Split.nil | (apply Split.cons; (repeat (first | with_reducible exact Take.here | apply Take.there)))))) ?_
      rintro v L1 ⟨rfl, rfl⟩
      refine swl_app ?_
      refine s_pu (pu_move rfl) ?_
      refine s_pu (pu_extract rfl rfl) ?_
      refine s_pu (pu_extract rfl rfl) ?_
      refine s_ef (ef_alloc) ?_
      intro b12
      refine s_ef0 (ef_storeA (vs := [.int .i64 r, .int .i64 (m : Nat)]) rfl rfl rfl rfl) ?_
      refine s_pu (pu_assign rfl) ?_
      refine swl_sub _ (.cons (t := 1) rfl (.cons (t := 4) rfl (.cons (t := 5) rfl (.cons (t := 8) rfl (.cons (t := 9) rfl (.cons (t := 10) rfl (.cons (t := 11) rfl (.cons (t := 12) rfl (.cons (t := 13) rfl (.cons (t := 43) rfl (.cons (t := 44) rfl .nil))))))))))) ?_
      refine swl_nil ?_
      refine then_n ?_
      refine swp_cut (fun env L => env = [(1, .slice Aw ws.length capw), (4, .pointer (some ⟨b4, 0, none⟩)), (5, .slice (some ⟨gx, offx, none⟩) n cap5), (8, .pointer (some ⟨q, 0, none⟩)), (9, .pointer (some ⟨b9, 0, none⟩)), (10, .slice (some ⟨bs, 0, none⟩) n n), (12, .pointer (some ⟨b12, 0, none⟩)), (43, .int .i64 (n : Nat)), (44, .int .i64 (k : Nat))] ∧
          L = [blk b12 27 [.int .i64 r, .int .i64 (m : Nat)], qa q T' n, ro μ2, blk b9 27 [.int .i64 last.1, .int .i64 last.2], blk bs 4 seen, blk b4 4 [.bool false]]) ?_ ?_
      · skip
        refine swp_seq ?_
        refine swp_draw [4, 9, 17, 19, 24, 26, 27, 35, 37, 41, 43, 47, 49] _ [] (by simp only [List.append_nil]; exact Ent.refl _) (by kernel_rfl) ?_
        refine d_pu 0 rfl (pu_move rfl) (by kernel_rfl) (by kernel_rfl) (by kernel_rfl) ?_
        refine d_pu 1 rfl (pu_not rfl) (by kernel_rfl) (by kernel_rfl) (by kernel_rfl) ?_
        refine d_pu 2 rfl (pu_move rfl) (by kernel_rfl) (by kernel_rfl) (by kernel_rfl) ?_
        first | refine d_pu_on 3 rfl rfl rfl (pu_fieldAddr0 rfl) (by kernel_rfl) (by kernel_rfl) (by kernel_rfl) ?_ | refine d_pu_on 3 rfl rfl rfl (pu_fieldAddr rfl) (by kernel_rfl) (by kernel_rfl) (by kernel_rfl) ?_
        refine d_rd_on 4 rfl rfl rfl (rd_load rfl rfl) rfl (by kernel_rfl) (by kernel_rfl) (by kernel_rfl) ?_
        refine d_pu_on 5 rfl rfl rfl (pu_lss rfl rfl) (by kernel_rfl) (by kernel_rfl) (by kernel_rfl) ?_
        first | refine d_pu 6 rfl (pu_pick_t rfl rfl) (by kernel_rfl) (by kernel_rfl) (by kernel_rfl) ?_ | refine d_pu 6 rfl (pu_pick_f rfl rfl) (by kernel_rfl) (by kernel_rfl) (by kernel_rfl) ?_
        refine d_pu 7 rfl (pu_move rfl) (by kernel_rfl) (by kernel_rfl) (by kernel_rfl) ?_
        refine d_split 59 rfl (fun h59 => by have := of_decide_eq_true h59; omega) (fun h59 => ?_)
        first | refine d_pu_on 8 rfl rfl rfl (pu_fieldAddr0 rfl) (by kernel_rfl) (by kernel_rfl) (by kernel_rfl) ?_ | refine d_pu_on 8 rfl rfl rfl (pu_fieldAddr rfl) (by kernel_rfl) (by kernel_rfl) (by kernel_rfl) ?_
        refine d_rd_on 9 rfl rfl rfl (rd_load rfl rfl) rfl (by kernel_rfl) (by kernel_rfl) (by kernel_rfl) ?_
        refine d_pu_on 10 rfl rfl rfl (pu_move rfl) (by kernel_rfl) (by kernel_rfl) (by kernel_rfl) ?_
        refine d_pu_on 11 rfl rfl rfl (pu_len rfl) (by kernel_rfl) (by kernel_rfl) (by kernel_rfl) ?_
        refine d_pu_on 12 rfl rfl rfl (pu_geq rfl rfl) (by kernel_rfl) (by kernel_rfl) (by kernel_rfl) ?_
        first | refine d_pu 13 rfl (pu_pick_t rfl rfl) (by kernel_rfl) (by kernel_rfl) (by kernel_rfl) ?_ | refine d_pu 13 rfl (pu_pick_f rfl rfl) (by kernel_rfl) (by kernel_rfl) (by kernel_rfl) ?_
        refine d_pu 14 rfl (pu_move rfl) (by kernel_rfl) (by kernel_rfl) (by kernel_rfl) ?_
        refine d_split 66 rfl (fun h66 => by have := of_decide_eq_true h66; omega) (fun h66 => ?_)
        refine d_pu_on 15 rfl rfl rfl (pu_move rfl) (by kernel_rfl) (by kernel_rfl) (by kernel_rfl) ?_
        first | refine d_pu_on 16 rfl rfl rfl (pu_fieldAddr0 rfl) (by kernel_rfl) (by kernel_rfl) (by kernel_rfl) ?_ | refine d_pu_on 16 rfl rfl rfl (pu_fieldAddr rfl) (by kernel_rfl) (by kernel_rfl) (by kernel_rfl) ?_
        refine d_rd_on 17 rfl rfl rfl (rd_load rfl rfl) rfl (by kernel_rfl) (by kernel_rfl) (by kernel_rfl) ?_
        refine d_pu_on 18 rfl rfl rfl (pu_indexAddr m rfl rfl (by omega) (by omega) (by omega)) (by kernel_rfl) (by kernel_rfl) (by kernel_rfl) ?_
        refine d_rd_on 19 rfl rfl rfl (rd_load rfl hsm') rfl (by kernel_rfl) (by kernel_rfl) (by kernel_rfl) ?_
        first | refine d_pu 20 rfl (pu_pick_t rfl rfl) (by kernel_rfl) (by kernel_rfl) (by kernel_rfl) ?_ | refine d_pu 20 rfl (pu_pick_f rfl rfl) (by kernel_rfl) (by kernel_rfl) (by kernel_rfl) ?_
        refine d_pu 21 rfl (pu_move rfl) (by kernel_rfl) (by kernel_rfl) (by kernel_rfl) ?_
        refine d_pu_on 22 rfl rfl rfl (pu_move rfl) (by kernel_rfl) (by kernel_rfl) (by kernel_rfl) ?_
        first | refine d_pu_on 23 rfl rfl rfl (pu_fieldAddr0 rfl) (by kernel_rfl) (by kernel_rfl) (by kernel_rfl) ?_ | refine d_pu_on 23 rfl rfl rfl (pu_fieldAddr rfl) (by kernel_rfl) (by kernel_rfl) (by kernel_rfl) ?_
        refine d_rd_on 24 rfl rfl rfl (rd_load rfl rfl) rfl (by kernel_rfl) (by kernel_rfl) (by kernel_rfl) ?_
        refine d_pu_on 25 rfl rfl rfl (pu_indexAddr (offx + m * 2) rfl rfl (by omega) (by omega) (by rw [Int.toNat_natCast])) (by kernel_rfl) (by kernel_rfl) (by kernel_rfl) ?_
        refine d_rd_on 26 rfl rfl rfl (rd_roA (vs := [.int .i64 r, .int .i64 (m : Nat)]) rfl rfl hrk) rfl (by kernel_rfl) (by kernel_rfl) (by kernel_rfl) ?_
        first | refine d_rd_on 27 rfl rfl rfl (rd_loadW rfl rfl) rfl (by kernel_rfl) (by kernel_rfl) (by kernel_rfl) ?_ | refine d_rd_on 27 rfl rfl rfl (rd_loadX rfl rfl rfl) rfl (by kernel_rfl) (by kernel_rfl) (by kernel_rfl) ?_
        refine d_pu_on 28 rfl rfl rfl (pu_st2_ne rfl rfl) (by kernel_rfl) (by kernel_rfl) (by kernel_rfl) ?_
        first | refine d_pu 29 rfl (pu_pick_t rfl rfl) (by kernel_rfl) (by kernel_rfl) (by kernel_rfl) ?_ | refine d_pu 29 rfl (pu_pick_f rfl rfl) (by kernel_rfl) (by kernel_rfl) (by kernel_rfl) ?_
        refine d_pu 30 rfl (pu_move rfl) (by kernel_rfl) (by kernel_rfl) (by kernel_rfl) ?_
        refine d_split 82 rfl (fun h82 => by simp at h82) (fun h82 => ?_)
        refine d_pu_on 31 rfl rfl rfl (pu_move rfl) (by kernel_rfl) (by kernel_rfl) (by kernel_rfl) ?_
        refine d_pu_on 32 rfl rfl rfl (pu_gtr rfl rfl) (by kernel_rfl) (by kernel_rfl) (by kernel_rfl) ?_
        refine d_pu_on 33 rfl rfl rfl (pu_move rfl) (by kernel_rfl) (by kernel_rfl) (by kernel_rfl) ?_
        refine d_split 85 rfl (fun h85 => ?_) (fun h85 => ?_)
        · skip   -- 85 T
          first | refine d_pu_on 34 rfl rfl rfl (pu_fieldAddr0 rfl) (by kernel_rfl) (by kernel_rfl) (by kernel_rfl) ?_ | refine d_pu_on 34 rfl rfl rfl (pu_fieldAddr rfl) (by kernel_rfl) (by kernel_rfl) (by kernel_rfl) ?_
          refine d_rd_on 35 rfl rfl rfl (rd_load rfl rfl) rfl (by kernel_rfl) (by kernel_rfl) (by kernel_rfl) ?_
          first | refine d_pu_on 36 rfl rfl rfl (pu_fieldAddr0 rfl) (by kernel_rfl) (by kernel_rfl) (by kernel_rfl) ?_ | refine d_pu_on 36 rfl rfl rfl (pu_fieldAddr rfl) (by kernel_rfl) (by kernel_rfl) (by kernel_rfl) ?_
          refine d_rd_on 37 rfl rfl rfl (rd_load rfl rfl) rfl (by kernel_rfl) (by kernel_rfl) (by kernel_rfl) ?_
          refine d_pu_on 38 rfl rfl rfl (pu_gtr rfl rfl) (by kernel_rfl) (by kernel_rfl) (by kernel_rfl) ?_
          refine d_pu_on 39 rfl rfl rfl (pu_move rfl) (by kernel_rfl) (by kernel_rfl) (by kernel_rfl) ?_
          refine d_split 91 rfl (fun h91 => by have h1 := of_decide_eq_true h91; have h2 := of_decide_eq_true h85; rcases hlast' (by omega) with h | h <;> omega) (fun h91 => ?_)
          first | refine d_pu_on 40 rfl rfl rfl (pu_fieldAddr0 rfl) (by kernel_rfl) (by kernel_rfl) (by kernel_rfl) ?_ | refine d_pu_on 40 rfl rfl rfl (pu_fieldAddr rfl) (by kernel_rfl) (by kernel_rfl) (by kernel_rfl) ?_
          refine d_rd_on 41 rfl rfl rfl (rd_load rfl rfl) rfl (by kernel_rfl) (by kernel_rfl) (by kernel_rfl) ?_
          first | refine d_pu_on 42 rfl rfl rfl (pu_fieldAddr0 rfl) (by kernel_rfl) (by kernel_rfl) (by kernel_rfl) ?_ | refine d_pu_on 42 rfl rfl rfl (pu_fieldAddr rfl) (by kernel_rfl) (by kernel_rfl) (by kernel_rfl) ?_
          refine d_rd_on 43 rfl rfl rfl (rd_load rfl rfl) rfl (by kernel_rfl) (by kernel_rfl) (by kernel_rfl) ?_
          refine d_pu_on 44 rfl rfl rfl (pu_eql rfl rfl) (by kernel_rfl) (by kernel_rfl) (by kernel_rfl) ?_
          refine d_pu_on 45 rfl rfl rfl (pu_move rfl) (by kernel_rfl) (by kernel_rfl) (by kernel_rfl) ?_
          refine d_split 97 rfl (fun h97 => ?_) (fun h97 => ?_)
          · skip   -- 97 T
            first | refine d_pu_on 46 rfl rfl rfl (pu_fieldAddr0 rfl) (by kernel_rfl) (by kernel_rfl) (by kernel_rfl) ?_ | refine d_pu_on 46 rfl rfl rfl (pu_fieldAddr rfl) (by kernel_rfl) (by kernel_rfl) (by kernel_rfl) ?_
            refine d_rd_on 47 rfl rfl rfl (rd_load rfl rfl) rfl (by kernel_rfl) (by kernel_rfl) (by kernel_rfl) ?_
            first | refine d_pu_on 48 rfl rfl rfl (pu_fieldAddr0 rfl) (by kernel_rfl) (by kernel_rfl) (by kernel_rfl) ?_ | refine d_pu_on 48 rfl rfl rfl (pu_fieldAddr rfl) (by kernel_rfl) (by kernel_rfl) (by kernel_rfl) ?_
            refine d_rd_on 49 rfl rfl rfl (rd_load rfl rfl) rfl (by kernel_rfl) (by kernel_rfl) (by kernel_rfl) ?_
            refine d_pu_on 50 rfl rfl rfl (pu_gtr rfl rfl) (by kernel_rfl) (by kernel_rfl) (by kernel_rfl) ?_
            first | refine d_pu_on 51 rfl rfl rfl (pu_pick_t rfl rfl) (by kernel_rfl) (by kernel_rfl) (by kernel_rfl) ?_ | refine d_pu_on 51 rfl rfl rfl (pu_pick_f rfl rfl) (by kernel_rfl) (by kernel_rfl) (by kernel_rfl) ?_
            first | refine d_pu_on 52 rfl rfl rfl (pu_pick_t rfl rfl) (by kernel_rfl) (by kernel_rfl) (by kernel_rfl) ?_ | refine d_pu_on 52 rfl rfl rfl (pu_pick_f rfl rfl) (by kernel_rfl) (by kernel_rfl) (by kernel_rfl) ?_
            first | refine d_pu_on 53 rfl rfl rfl (pu_pick_t rfl rfl) (by kernel_rfl) (by kernel_rfl) (by kernel_rfl) ?_ | refine d_pu_on 53 rfl rfl rfl (pu_pick_f rfl rfl) (by kernel_rfl) (by kernel_rfl) (by kernel_rfl) ?_
            first | refine d_pu 54 rfl (pu_pick_t rfl rfl) (by kernel_rfl) (by kernel_rfl) (by kernel_rfl) ?_ | refine d_pu 54 rfl (pu_pick_f rfl rfl) (by kernel_rfl) (by kernel_rfl) (by kernel_rfl) ?_
            refine d_sub _ (.cons (t := 1) rfl (.cons (t := 4) rfl (.cons (t := 5) rfl (.cons (t := 8) rfl (.cons (t := 9) rfl (.cons (t := 10) rfl (.cons (t := 12) rfl (.cons (t := 43) rfl (.cons (t := 44) rfl (.cons (t := 106) rfl .nil)))))))))) ?_
            first | refine d_nilt (by kernel_rfl) ?_ | refine d_nilf (by kernel_rfl) ?_
            refine then_n ?_
            refine swp_cond (b := _) rfl (fun h106 => by first | cases h106; done | (have h1 := of_decide_eq_true h106; have h2 := of_decide_eq_true h85; have h3 := of_decide_eq_true h97; rcases hlast' (by omega) with h | h <;> omega)) (fun h106 => ?_)
            refine swp_sub _ (.cons (t := 1) rfl (.cons (t := 4) rfl (.cons (t := 5) rfl (.cons (t := 8) rfl (.cons (t := 9) rfl (.cons (t := 10) rfl (.cons (t := 12) rfl (.cons (t := 43) rfl (.cons (t := 44) rfl .nil))))))))) ?_
            refine swp_skip ?_
            exact then_n ⟨rfl, rfl⟩
          · skip   -- 97 F
            refine d_off 46 rfl rfl rfl rfl (by kernel_rfl) (by kernel_rfl) (by kernel_rfl) ?_
            refine d_off 47 rfl rfl rfl rfl (by kernel_rfl) (by kernel_rfl) (by kernel_rfl) ?_
            refine d_off 48 rfl rfl rfl rfl (by kernel_rfl) (by kernel_rfl) (by kernel_rfl) ?_
            refine d_off 49 rfl rfl rfl rfl (by kernel_rfl) (by kernel_rfl) (by kernel_rfl) ?_
            refine d_off 50 rfl rfl rfl rfl (by kernel_rfl) (by kernel_rfl) (by kernel_rfl) ?_
            first | refine d_pu_on 51 rfl rfl rfl (pu_pick_t rfl rfl) (by kernel_rfl) (by kernel_rfl) (by kernel_rfl) ?_ | refine d_pu_on 51 rfl rfl rfl (pu_pick_f rfl rfl) (by kernel_rfl) (by kernel_rfl) (by kernel_rfl) ?_
            first | refine d_pu_on 52 rfl rfl rfl (pu_pick_t rfl rfl) (by kernel_rfl) (by kernel_rfl) (by kernel_rfl) ?_ | refine d_pu_on 52 rfl rfl rfl (pu_pick_f rfl rfl) (by kernel_rfl) (by kernel_rfl) (by kernel_rfl) ?_
            first | refine d_pu_on 53 rfl rfl rfl (pu_pick_t rfl rfl) (by kernel_rfl) (by kernel_rfl) (by kernel_rfl) ?_ | refine d_pu_on 53 rfl rfl rfl (pu_pick_f rfl rfl) (by kernel_rfl) (by kernel_rfl) (by kernel_rfl) ?_
            first | refine d_pu 54 rfl (pu_pick_t rfl rfl) (by kernel_rfl) (by kernel_rfl) (by kernel_rfl) ?_ | refine d_pu 54 rfl (pu_pick_f rfl rfl) (by kernel_rfl) (by kernel_rfl) (by kernel_rfl) ?_
            refine d_sub _ (.cons (t := 1) rfl (.cons (t := 4) rfl (.cons (t := 5) rfl (.cons (t := 8) rfl (.cons (t := 9) rfl (.cons (t := 10) rfl (.cons (t := 12) rfl (.cons (t := 43) rfl (.cons (t := 44) rfl (.cons (t := 106) rfl .nil)))))))))) ?_
            first | refine d_nilt (by kernel_rfl) ?_ | refine d_nilf (by kernel_rfl) ?_
            refine then_n ?_
            refine swp_cond (b := _) rfl (fun h106 => by first | cases h106; done | (have h1 := of_decide_eq_true h106; have h2 := of_decide_eq_true h85; have h3 := of_decide_eq_true h97; rcases hlast' (by omega) with h | h <;> omega)) (fun h106 => ?_)
            refine swp_sub _ (.cons (t := 1) rfl (.cons (t := 4) rfl (.cons (t := 5) rfl (.cons (t := 8) rfl (.cons (t := 9) rfl (.cons (t := 10) rfl (.cons (t := 12) rfl (.cons (t := 43) rfl (.cons (t := 44) rfl .nil))))))))) ?_
            refine swp_skip ?_
            exact then_n ⟨rfl, rfl⟩
        · skip   -- 85 F
          refine d_off 34 rfl rfl rfl rfl (by kernel_rfl) (by kernel_rfl) (by kernel_rfl) ?_
          refine d_off 35 rfl rfl rfl rfl (by kernel_rfl) (by kernel_rfl) (by kernel_rfl) ?_
          refine d_off 36 rfl rfl rfl rfl (by kernel_rfl) (by kernel_rfl) (by kernel_rfl) ?_
          refine d_off 37 rfl rfl rfl rfl (by kernel_rfl) (by kernel_rfl) (by kernel_rfl) ?_
          refine d_off 38 rfl rfl rfl rfl (by kernel_rfl) (by kernel_rfl) (by kernel_rfl) ?_
          refine d_off 39 rfl rfl rfl rfl (by kernel_rfl) (by kernel_rfl) (by kernel_rfl) ?_
          refine d_off 40 rfl rfl rfl rfl (by kernel_rfl) (by kernel_rfl) (by kernel_rfl) ?_
          refine d_off 41 rfl rfl rfl rfl (by kernel_rfl) (by kernel_rfl) (by kernel_rfl) ?_
          refine d_off 42 rfl rfl rfl rfl (by kernel_rfl) (by kernel_rfl) (by kernel_rfl) ?_
          refine d_off 43 rfl rfl rfl rfl (by kernel_rfl) (by kernel_rfl) (by kernel_rfl) ?_
          refine d_off 44 rfl rfl rfl rfl (by kernel_rfl) (by kernel_rfl) (by kernel_rfl) ?_
          refine d_off 45 rfl rfl rfl rfl (by kernel_rfl) (by kernel_rfl) (by kernel_rfl) ?_
          refine d_off 46 rfl rfl rfl rfl (by kernel_rfl) (by kernel_rfl) (by kernel_rfl) ?_
          refine d_off 47 rfl rfl rfl rfl (by kernel_rfl) (by kernel_rfl) (by kernel_rfl) ?_
          refine d_off 48 rfl rfl rfl rfl (by kernel_rfl) (by kernel_rfl) (by kernel_rfl) ?_
          refine d_off 49 rfl rfl rfl rfl (by kernel_rfl) (by kernel_rfl) (by kernel_rfl) ?_
          refine d_off 50 rfl rfl rfl rfl (by kernel_rfl) (by kernel_rfl) (by kernel_rfl) ?_
          refine d_off 51 rfl rfl rfl rfl (by kernel_rfl) (by kernel_rfl) (by kernel_rfl) ?_
          refine d_off 52 rfl rfl rfl rfl (by kernel_rfl) (by kernel_rfl) (by kernel_rfl) ?_
          first | refine d_pu_on 53 rfl rfl rfl (pu_pick_t rfl rfl) (by kernel_rfl) (by kernel_rfl) (by kernel_rfl) ?_ | refine d_pu_on 53 rfl rfl rfl (pu_pick_f rfl rfl) (by kernel_rfl) (by kernel_rfl) (by kernel_rfl) ?_
          first | refine d_pu 54 rfl (pu_pick_t rfl rfl) (by kernel_rfl) (by kernel_rfl) (by kernel_rfl) ?_ | refine d_pu 54 rfl (pu_pick_f rfl rfl) (by kernel_rfl) (by kernel_rfl) (by kernel_rfl) ?_
          refine d_sub _ (.cons (t := 1) rfl (.cons (t := 4) rfl (.cons (t := 5) rfl (.cons (t := 8) rfl (.cons (t := 9) rfl (.cons (t := 10) rfl (.cons (t := 12) rfl (.cons (t := 43) rfl (.cons (t := 44) rfl (.cons (t := 106) rfl .nil)))))))))) ?_
          first | refine d_nilt (by kernel_rfl) ?_ | refine d_nilf (by kernel_rfl) ?_
          refine then_n ?_
          refine swp_cond (b := _) rfl (fun h106 => by first | cases h106; done | (have h1 := of_decide_eq_true h106; have h2 := of_decide_eq_true h85; have h3 := of_decide_eq_true h97; rcases hlast' (by omega) with h | h <;> omega)) (fun h106 => ?_)
          refine swp_sub _ (.cons (t := 1) rfl (.cons (t := 4) rfl (.cons (t := 5) rfl (.cons (t := 8) rfl (.cons (t := 9) rfl (.cons (t := 10) rfl (.cons (t := 12) rfl (.cons (t := 43) rfl (.cons (t := 44) rfl .nil))))))))) ?_
          refine swp_skip ?_
          exact then_n ⟨rfl, rfl⟩
      rintro env L ⟨rfl, rfl⟩
      refine swp_draw [2, 3] ([blk b12 27 [.int .i64 r, .int .i64 (m : Nat)]]) ([qa q T' n, ro μ2, blk b9 27 [.int .i64 last.1, .int .i64 last.2], blk bs 4 seen, blk b4 4 [.bool false]]) (Split.ent (by repeat (first | exact Split.nil | (apply Split.cons; (repeat (first | with_reducible exact Take.here | apply Take.there)))))) (by kernel_rfl) ?_
      refine d_pu 0 rfl (pu_move rfl) (by kernel_rfl) (by kernel_rfl) (by kernel_rfl) ?_
      first | refine d_pu 1 rfl (pu_fieldAddr0 rfl) (by kernel_rfl) (by kernel_rfl) (by kernel_rfl) ?_ | refine d_pu 1 rfl (pu_fieldAddr rfl) (by kernel_rfl) (by kernel_rfl) (by kernel_rfl) ?_
      refine d_rd 2 rfl (rd_load rfl rfl) rfl (by kernel_rfl) (by kernel_rfl) (by kernel_rfl) ?_
      first | refine d_rd 3 rfl (rd_loadW rfl rfl) rfl (by kernel_rfl) (by kernel_rfl) (by kernel_rfl) ?_ | refine d_rd 3 rfl (rd_loadX rfl rfl rfl) rfl (by kernel_rfl) (by kernel_rfl) (by kernel_rfl) ?_
      refine d_pu 4 rfl (pu_indexAddr m rfl rfl (by omega) (by omega) (by omega)) (by kernel_rfl) (by kernel_rfl) (by kernel_rfl) ?_
      refine d_ef0t 5 rfl (by kernel_rfl) (ef_storeP rfl rfl rfl (by omega)) ?_
      refine ⟨_, Split.ent (by repeat (first | exact Split.nil | (apply Split.cons; (repeat (first | with_reducible exact Take.here | apply Take.there))))), ?_⟩
      first | refine d_fin0t 6 rfl (by kernel_rfl) (by kernel_rfl) (ef_storeA rfl rfl rfl rfl) ?_ | refine d_fin0f 6 rfl (by kernel_rfl) (by kernel_rfl) (ef_storeA rfl rfl rfl rfl) ?_
      refine d_sub _ (.cons (t := 1) rfl (.cons (t := 4) rfl (.cons (t := 5) rfl (.cons (t := 8) rfl (.cons (t := 9) rfl (.cons (t := 10) rfl (.cons (t := 43) rfl (.cons (t := 44) rfl .nil)))))))) ?_
      first | refine d_nilt (by kernel_rfl) ?_ | refine d_nilf (by kernel_rfl) ?_
      refine block_n ?_
      refine then_n ?_
      refine swp_region ?_
      refine s_pu (pu_add_as ((k + 1 : Nat) : Int) rfl rfl (by omega) (by omega) (by omega)) ?_
      refine s_pu (pu_move rfl) ?_
      refine swl_sub _ (.cons (t := 1) rfl (.cons (t := 4) rfl (.cons (t := 5) rfl (.cons (t := 8) rfl (.cons (t := 9) rfl (.cons (t := 10) rfl (.cons (t := 43) rfl (.cons (t := 44) rfl .nil)))))))) ?_
      refine swl_ent (Split.ent' (K := [ro μ2, qa q T' n, blk b9 27 [.int .i64 r, .int .i64 (m : Nat)], blk bs 4 (seen.set m (.bool true)), blk b4 4 [.bool false]]) (by repeat (first | exact Split.nil | (apply Split.cons; (repeat (first | with_reducible exact Take.here | apply Take.there)))))) ?_
      refine swl_nil ?_
      have hTp' := List.pairwise_cons.1 hTp
      have hnd' : (m :: T'.map (·.2)).Nodup := hnd
      have hnd2 := List.nodup_cons.1 hnd'
      refine then_n ⟨(k + 1, T', (r, (m : Int)), seen.set m (.bool true)), ⟨rfl, rfl, by simp only [List.length_cons] at hTl; show T'.length + (k + 1) = n; omega, by simp [hsl], hTp'.2, hnd2.2, fun e he => ?_, fun _ e he => ?_⟩, by show n - (k + 1) < n - k; omega⟩
      · obtain ⟨h1, h2⟩ := hall e (List.mem_cons_of_mem _ he)
        refine ⟨h1, ?_⟩
        have hne : m ≠ e.2 := fun h => hnd2.1 (by rw [h]; exact List.mem_map_of_mem he)
        show (seen.set m (.bool true))[e.2]? = _
        rw [List.getElem?_set_ne hne]; exact h2
      · have h1 := hTp'.1 e he
        have h2 := hxg e.2 e.1 (hall e (List.mem_cons_of_mem _ he)).1
        rw [aT_eq] at h1
        simp only [Bool.or_eq_true, Bool.and_eq_true, Bool.not_eq_true', decide_eq_true_eq, decide_eq_false_iff_not] at h1
        show r < e.1.1 ∨ (r = e.1.1 ∧ (m : Int) < e.1.2)
        omega
    · skip   -- 45 F
      have hkn : k = n := by simp at h45; omega
      have hT0 : T = [] := List.eq_nil_of_length_eq_zero (by omega)
      subst hT0
      refine swp_exit ?_
      refine then_x ?_
      refine then_x ?_
      refine block_hit rfl ?_
      refine then_n ?_
      refine swp_seq ?_
      refine swp_region ?_
      refine s_ef (ef_fn Wd.new_w rfl rfl (by repeat (first | exact Split.nil | (apply Split.cons; (repeat (first | with_reducible exact Take.here | apply Take.there)))))) ?_
      rintro v L1 ⟨w, rfl, rfl⟩
      refine swl_app ?_
      refine s_pu (pu_assign rfl) ?_
      refine swl_sub _ (.cons (t := 1) rfl (.cons (t := 4) rfl (.cons (t := 8) rfl (.cons (t := 14) rfl .nil)))) ?_
      refine swl_nil ?_
      refine then_n ?_
      refine swp_seq ?_
      refine swp_seq ?_
      refine swp_region ?_
      refine s_pu (pu_move rfl) ?_
      refine s_pu (pu_len rfl) ?_
      refine s_pu (pu_move rfl) ?_
      refine swl_sub _ (.cons (t := 1) rfl (.cons (t := 4) rfl (.cons (t := 8) rfl (.cons (t := 14) rfl (.cons (t := 114) rfl (.cons (t := 115) rfl (.cons (t := 116) rfl .nil))))))) ?_
      refine swl_ent (Split.ent' (K := [Wd.wa w [] 0, qa q [] n, blk b4 4 [.bool false], ro μ2]) (by repeat (first | exact Split.nil | (apply Split.cons; (repeat (first | with_reducible exact Take.here | apply Take.there)))))) ?_
      refine swl_nil ?_
      refine then_n ?_
      refine swp_block ?_
      refine swp_loop (ι := Nat × List (Wd.WI × Nat)) (fun k env L => env = [(1, .slice Aw ws.length capw), (4, .pointer (some ⟨b4, 0, none⟩)), (8, .pointer (some ⟨q, 0, none⟩)), (14, .pointer (some ⟨w, 0, none⟩)), (114, .slice Aw ws.length capw), (115, .int .i64 (ws.length : Nat)), (116, .int .i64 (k.1 : Nat))] ∧
        L = [Wd.wa w k.2 k.1, qa q [] n, blk b4 4 [.bool false], ro μ2] ∧ k.2.length = k.1 ∧ k.1 ≤ ws.length) (fun k => ws.length - k.1) (0, []) ⟨rfl, rfl, rfl, Nat.zero_le _⟩ ?_
      rintro ⟨j, S⟩ env L ⟨rfl, rfl, hSl, hj⟩
      simp only [] at hSl hj
      dsimp only
      refine swp_seq ?_
      refine swp_region ?_
      refine s_pu (pu_lss rfl rfl) ?_
      refine swl_sub _ (.cons (t := 1) rfl (.cons (t := 4) rfl (.cons (t := 8) rfl (.cons (t := 14) rfl (.cons (t := 114) rfl (.cons (t := 115) rfl (.cons (t := 116) rfl (.cons (t := 117) rfl .nil)))))))) ?_
      refine swl_nil ?_
      refine then_n ?_
      refine swp_seq ?_
      refine swp_cond (b := _) rfl (fun h117 => ?_) (fun h117 => ?_)
      · skip   -- 117 T
        have h117' : j < ws.length := by simp at h117; omega
        obtain ⟨gw, offw, cap, hv, c1, c2, hr⟩ := (hw.le hle).pos (by omega)
        simp only [Value.slice.injEq, true_and] at hv
        obtain ⟨rfl, rfl⟩ := hv
        obtain ⟨x, hx⟩ : ∃ x, ws[j]? = some x := ⟨_, List.getElem?_eq_getElem h117'⟩
        have hrk := hr.elem scsv_len hx
        refine swp_skip ?_
        refine then_n ?_
        refine swp_seq ?_
        refine swp_block ?_
        refine swp_seq ?_
        refine swp_region ?_
        refine s_pu (pu_indexAddr (offw + j * 1) rfl rfl (by omega) (by omega) (by rw [Int.toNat_natCast])) ?_
        refine s_rd (rd_ro rfl hrk.cell) ?_
        refine s_pu (pu_assign rfl) ?_
        refine swl_sub _ (.cons (t := 1) rfl (.cons (t := 4) rfl (.cons (t := 8) rfl (.cons (t := 14) rfl (.cons (t := 16) rfl (.cons (t := 114) rfl (.cons (t := 115) rfl (.cons (t := 116) rfl .nil)))))))) ?_
        refine swl_nil ?_
        refine then_n ?_
        refine swp_region ?_
        refine s_pu (pu_move rfl) ?_
        refine s_pu (pu_move rfl) ?_
        refine s_ef (ef_fn (Wd.push_a w S j x (by omega) (by omega)) rfl rfl (by repeat (first | exact Split.nil | (apply Split.cons; (repeat (first | with_reducible exact Take.here | apply Take.there)))))) ?_
        rintro v L1 ⟨rfl, rfl⟩
        refine swl_app ?_
        refine swl_sub _ (.cons (t := 1) rfl (.cons (t := 4) rfl (.cons (t := 8) rfl (.cons (t := 14) rfl (.cons (t := 114) rfl (.cons (t := 115) rfl (.cons (t := 116) rfl .nil))))))) ?_
        refine swl_nil ?_
        refine block_n ?_
        refine then_n ?_
        refine swp_region ?_
        refine s_pu (pu_add_as ((j + 1 : Nat) : Int) rfl rfl (by omega) (by omega) (by omega)) ?_
        refine s_pu (pu_move rfl) ?_
        refine swl_sub _ (.cons (t := 1) rfl (.cons (t := 4) rfl (.cons (t := 8) rfl (.cons (t := 14) rfl (.cons (t := 114) rfl (.cons (t := 115) rfl (.cons (t := 116) rfl .nil))))))) ?_
        refine swl_nil ?_
        exact then_n ⟨(j + 1, _), ⟨rfl, rfl, by show (Hp.ins _ _ _).length = _; rw [(Hp.ins_perm _ _).length_eq, List.length_cons, hSl], h117'⟩, by show ws.length - (j + 1) < ws.length - j; omega⟩
      · skip   -- 117 F
        have hjn : j = ws.length := by simp at h117; omega
        refine swp_fact (fun m h => (Wd.wa_fact h).2) fun hsort => ?_
        refine swp_exit ?_
        refine then_x ?_
        refine then_x ?_
        refine block_hit rfl ?_
        refine then_n ?_
        refine swp_seq ?_
        refine swp_region ?_
        refine s_ef (ef_alloc) ?_
        intro b17
        refine s_ef (ef_alloc) ?_
        intro b18
        refine s_ef0 (ef_store rfl rfl rfl) ?_
        refine s_ef0 (ef_store rfl rfl rfl) ?_
        refine swl_sub _ (.cons (t := 1) rfl (.cons (t := 4) rfl (.cons (t := 8) rfl (.cons (t := 14) rfl (.cons (t := 17) rfl (.cons (t := 18) rfl .nil)))))) ?_
        refine swl_nil ?_
        refine then_n ?_
        refine swp_seq ?_
        refine swp_seq ?_
        refine swp_region ?_
        refine s_pu (pu_move rfl) ?_
        refine s_ef (ef_fn (Wd.all_w (some ⟨w, 0, none⟩)) rfl rfl (by repeat (first | exact Split.nil | (apply Split.cons; (repeat (first | with_reducible exact Take.here | apply Take.there)))))) ?_
        rintro v L1 ⟨ab, rfl, rfl⟩
        refine swl_app ?_
        refine swl_sub _ (.cons (t := 1) rfl (.cons (t := 4) rfl (.cons (t := 8) rfl (.cons (t := 14) rfl (.cons (t := 17) rfl (.cons (t := 18) rfl (.cons (t := 125) rfl .nil))))))) ?_
        refine swl_nil ?_
        refine then_n ?_
        refine swp_block ?_
        refine swp_range (Wd.all_iter ab w j S (by omega)) (B := [blk b17 3 [.int .i64 0], blk b18 35 [.string ⟨#[]⟩], qa q [] n, blk b4 4 [.bool false], ro μ2]) (fun pre => exA fun lst : {z : Wd.WI // ∀ y, pre.getLast? = some y → z = y} => [blk ab 33 [.pointer (some ⟨w, 0, none⟩)], Wd.wa w S j, blk b17 3 [.int .i64 (pre.length : Nat)], blk b18 35 [.string lst.1], qa q [] n, blk b4 4 [.bool false], ro μ2]) (fun _ => False) (fun _ _ => False) rfl rfl (fun _ => rfl) (Split.ent' (by repeat (first | exact Split.nil | (apply Split.cons; (repeat (first | with_reducible exact Take.here | apply Take.there)))))) ?_ ?_ ?_ ?_ ?_
        · exact ent_ex1 (F := fun lst : {z : Wd.WI // ∀ y, ([] : List Wd.WI).getLast? = some y → z = y} => [blk ab 33 [.pointer (some ⟨w, 0, none⟩)], Wd.wa w S j, blk b17 3 [.int .i64 (([] : List Wd.WI).length : Nat)], blk b18 35 [.string lst.1], qa q [] n, blk b4 4 [.bool false], ro μ2]) ⟨⟨#[]⟩, by simp⟩
        · skip
          rintro ln pre x ⟨post, hpost⟩
          refine swp_ex fun ⟨lst, hlst⟩ => ?_
          refine swp_app ?_
          dsimp only
          have hpl : pre.length < S.length := by have := congrArg List.length hpost; simp at this; omega
          refine swp_region ?_
          refine s_pu (pu_assign rfl) ?_
          refine swl_sub _ (.cons (t := 4) rfl (.cons (t := 17) rfl (.cons (t := 18) rfl (.cons (t := 19) rfl .nil)))) ?_
          refine swl_nil ?_
          refine then_n ?_
          refine swp_block ?_
          refine swp_seq ?_
          refine swp_seq ?_
          refine swp_region ?_
          refine s_rd (rd_load rfl rfl) ?_
          refine s_pu (pu_gtr rfl rfl) ?_
          refine s_pu (pu_move rfl) ?_
          refine s_split 129 rfl (fun h129 => ?_) (fun h129 => ?_)
          · skip   -- 129 T
            have hgt : Wd.ltW x lst = false := by
              have h0 : 0 < pre.length := by simp at h129; exact h129
              obtain ⟨y, hy⟩ : ∃ y, pre.getLast? = some y := by
                cases hp : pre.getLast? with
                | none => rw [List.getLast?_eq_none_iff] at hp; rw [hp] at h0; simp at h0
                | some y => exact ⟨y, rfl⟩
              rw [hlst y hy]
              have hs2 : (S.map (·.1)).Pairwise (fun a b => Wd.ltW b a = false) := by
                rw [List.pairwise_map]
                refine hsort.imp fun {a b} h => ?_
                cases hb : Wd.ltW b.1 a.1 with
                | false => rfl
                | true =>
                  have := Wd.ltW_ord.asym _ _ hb
                  simp [Wd.aW, Hp.ahd, hb, this] at h
              rw [hpost, List.pairwise_append] at hs2
              exact hs2.2.2 y (List.mem_of_getLast? hy) x (by simp)
            refine s_on rfl rfl ?_
            refine s_pu (pu_move rfl) ?_
            refine s_on rfl rfl ?_
            refine s_rd (rd_load rfl rfl) ?_
            refine s_on rfl rfl ?_
            refine s_pu (pu_str_gtr rfl rfl) ?_
            first | refine s_pu (pu_pick_t rfl rfl) ?_ | refine s_pu (pu_pick_f rfl rfl) ?_
            refine swl_sub _ (.cons (t := 4) rfl (.cons (t := 17) rfl (.cons (t := 18) rfl (.cons (t := 19) rfl (.cons (t := 133) rfl .nil))))) ?_
            refine swl_nil ?_
            refine then_n ?_
            refine swp_cond (b := _) rfl (fun h133 => by have h1 : Wd.ltW x lst = true := h133; rw [hgt] at h1; cases h1) (fun h133 => ?_)
            refine swp_skip ?_
            refine then_n ?_
            refine swp_seq ?_
            refine swp_region ?_
            refine s_pu (pu_move rfl) ?_
            refine s_ef0 (ef_store rfl rfl rfl) ?_
            refine swl_sub _ (.cons (t := 17) rfl .nil) ?_
            refine swl_nil ?_
            refine then_n ?_
            refine swp_region ?_
            refine s_rd (rd_load rfl rfl) ?_
            refine s_pu (pu_add_as ((pre.length + 1 : Nat) : Int) rfl rfl (by omega) (by omega) (by omega)) ?_
            refine s_ef0 (ef_store rfl rfl rfl) ?_
            refine swl_sub _ .nil ?_
            refine swl_nil ?_
            refine block_n ?_
            refine rnd_n ?_
            have e : (pre ++ [x]).length = pre.length + 1 := by simp
            refine Ent.trans ?_ (ent_ex1 ⟨x, fun y hy => by simpa using hy⟩)
            rw [e]
            exact Ent.refl _
          · skip   -- 129 F
            refine s_off rfl rfl rfl ?_
            refine s_off rfl rfl rfl ?_
            refine s_off rfl rfl rfl ?_
            first | refine s_pu (pu_pick_t rfl rfl) ?_ | refine s_pu (pu_pick_f rfl rfl) ?_
            refine swl_sub _ (.cons (t := 4) rfl (.cons (t := 17) rfl (.cons (t := 18) rfl (.cons (t := 19) rfl (.cons (t := 133) rfl .nil))))) ?_
            refine swl_nil ?_
            refine then_n ?_
            refine swp_cond (b := _) rfl (fun h133 => absurd h133 (by decide)) (fun h133 => ?_)
            refine swp_skip ?_
            refine then_n ?_
            refine swp_seq ?_
            refine swp_region ?_
            refine s_pu (pu_move rfl) ?_
            refine s_ef0 (ef_store rfl rfl rfl) ?_
            refine swl_sub _ (.cons (t := 17) rfl .nil) ?_
            refine swl_nil ?_
            refine then_n ?_
            refine swp_region ?_
            refine s_rd (rd_load rfl rfl) ?_
            refine s_pu (pu_add_as ((pre.length + 1 : Nat) : Int) rfl rfl (by omega) (by omega) (by omega)) ?_
            refine s_ef0 (ef_store rfl rfl rfl) ?_
            refine swl_sub _ .nil ?_
            refine swl_nil ?_
            refine block_n ?_
            refine rnd_n ?_
            have e : (pre ++ [x]).length = pre.length + 1 := by simp
            refine Ent.trans ?_ (ent_ex1 ⟨x, fun y hy => by simpa using hy⟩)
            rw [e]
            exact Ent.refl _
        · skip
          rintro ys hys
          refine block_n ?_
          refine then_n ?_
          refine swp_seq ?_
          refine swp_ex fun ⟨lst, hlst⟩ => ?_
          refine swp_app ?_
          dsimp only
          have hyl : ys.length = ws.length := by rw [hys, List.length_map, hSl, hjn]
          refine swp_draw [0, 7] _ [] (by simp only [List.append_nil]; exact Ent.refl _) (by kernel_rfl) ?_
          refine d_rd 0 rfl (rd_load rfl rfl) rfl (by kernel_rfl) (by kernel_rfl) (by kernel_rfl) ?_
          refine d_pu 1 rfl (pu_move rfl) (by kernel_rfl) (by kernel_rfl) (by kernel_rfl) ?_
          refine d_pu 2 rfl (pu_len rfl) (by kernel_rfl) (by kernel_rfl) (by kernel_rfl) ?_
          refine d_pu 3 rfl (pu_eql rfl rfl) (by kernel_rfl) (by kernel_rfl) (by kernel_rfl) ?_
          refine d_pu 4 rfl (pu_move rfl) (by kernel_rfl) (by kernel_rfl) (by kernel_rfl) ?_
          refine d_split 141 rfl (fun h141 => ?_) (fun h141 => by simp [hyl] at h141)
          refine d_pu_on 5 rfl rfl rfl (pu_move rfl) (by kernel_rfl) (by kernel_rfl) (by kernel_rfl) ?_
          refine d_rd_on 7 rfl rfl rfl (rd_load rfl rfl) rfl (by kernel_rfl) (by kernel_rfl) (by kernel_rfl) ?_
          refine d_amb [6] (by kernel_rfl) rfl ?_
          refine dA_ef 6 rfl (GOn.some rfl rfl) (ef_fn (Wd.len_a w S j) rfl rfl (by repeat (first | exact Split.nil | (apply Split.cons; (repeat (first | with_reducible exact Take.here | apply Take.there)))))) ?_
          rintro v L1 ⟨rfl, rfl⟩
          refine ⟨_, ent_appC (Split.ent (by repeat (first | exact Split.nil | (apply Split.cons; (repeat (first | with_reducible exact Take.here | apply Take.there)))))), ?_⟩
          refine d_pu_on 8 rfl rfl rfl (pu_eql rfl rfl) (by kernel_rfl) (by kernel_rfl) (by kernel_rfl) ?_
          first | refine d_pu 9 rfl (pu_pick_t rfl rfl) (by kernel_rfl) (by kernel_rfl) (by kernel_rfl) ?_ | refine d_pu 9 rfl (pu_pick_f rfl rfl) (by kernel_rfl) (by kernel_rfl) (by kernel_rfl) ?_
          refine d_pu 10 rfl (pu_move rfl) (by kernel_rfl) (by kernel_rfl) (by kernel_rfl) ?_
          refine d_split 147 rfl (fun h147 => ?_) (fun h147 => by have h1 := of_decide_eq_false h147; omega)
          refine d_pu_on 11 rfl rfl rfl (pu_move rfl) (by kernel_rfl) (by kernel_rfl) (by kernel_rfl) ?_
          refine d_amb [12] (by kernel_rfl) rfl ?_
          first | refine dA_fint 12 rfl (GOn.some rfl rfl) (by kernel_rfl) (ef_fn (len_a q [] n) rfl rfl (by repeat (first | exact Split.nil | (apply Split.cons; (repeat (first | with_reducible exact Take.here | apply Take.there)))))) ?_ | refine dA_finf 12 rfl (GOn.some rfl rfl) (by kernel_rfl) (ef_fn (len_a q [] n) rfl rfl (by repeat (first | exact Split.nil | (apply Split.cons; (repeat (first | with_reducible exact Take.here | apply Take.there)))))) ?_
          rintro v L1 ⟨rfl, rfl⟩
          refine swd_app ?_
          refine d_pu_on 13 rfl rfl rfl (pu_eql rfl rfl) (by kernel_rfl) (by kernel_rfl) (by kernel_rfl) ?_
          first | refine d_pu 14 rfl (pu_pick_t rfl rfl) (by kernel_rfl) (by kernel_rfl) (by kernel_rfl) ?_ | refine d_pu 14 rfl (pu_pick_f rfl rfl) (by kernel_rfl) (by kernel_rfl) (by kernel_rfl) ?_
          first | refine d_fin0t 15 rfl (by kernel_rfl) (by kernel_rfl) (ef_store rfl rfl rfl) ?_ | refine d_fin0f 15 rfl (by kernel_rfl) (by kernel_rfl) (ef_store rfl rfl rfl) ?_
          refine d_sub _ (.cons (t := 4) rfl .nil) ?_
          first | refine d_nilt (by kernel_rfl) ?_ | refine d_nilf (by kernel_rfl) ?_
          refine then_n ?_
          refine swp_ret ?_
          exact done_ret [ro μ2] (.cell rfl (ld_one rfl) .nil) ⟨rfl, μ2, [], hle, rfl⟩ (by repeat (first | exact Split.nil | (apply Split.cons; (repeat (first | with_reducible exact Take.here | apply Take.there)))))
        · exact swp_fact (p := False) (fun m h => by obtain ⟨_, _, h, _⟩ := h; exact h) False.elim
        · exact fun i => swp_fact (p := False) (fun m h => by obtain ⟨_, _, h, _⟩ := h; exact h) False.elim
end SX
