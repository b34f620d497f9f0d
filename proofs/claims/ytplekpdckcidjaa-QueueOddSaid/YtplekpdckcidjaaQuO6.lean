/- A part of the proof: walks of the seat's functions, by the rules of the texts that it imports. -/
import Derived.Test.YtplekpdckcidjaaQuO5
namespace SX
open Go Go.Proofs

def numsTo (k : Nat) : List Int := (List.range k).map (fun j : Nat => (j : Int))
theorem numsTo_succ (k : Nat) : numsTo (k + 1) = numsTo k ++ [(k : Int)] := by simp [numsTo, List.range_succ]
theorem numsTo_nodup (k : Nat) : (numsTo k).Nodup := by
  exact List.Pairwise.map _ (fun a b (h : a ≠ b) (e : (a : Int) = (b : Int)) => h (by omega)) List.nodup_range
theorem mem_numsTo {k : Nat} {x : Int} (h : x ∈ numsTo k) : ∃ j : Nat, x = j ∧ j < k := by
  obtain ⟨j, hj, rfl⟩ := List.mem_map.1 h
  exact ⟨j, rfl, List.mem_range.1 hj⟩

set_option maxHeartbeats 1000000 in
theorem odd_spec (μ : PH) (bv : Value) (bits : List Bool) (n : Nat) (hn : n ≤ 255) (hb : Row μ bv 1 bits.length (bits.flatMap bcs)) :
    Spec Try.prog 5 [bv, .int .u8 (n : Nat)] [ro μ] (fun v L => v = .bool true ∧ ∃ μ' R, Le μ μ' ∧ L = ro μ' :: R) := by
  obtain ⟨A0, cap0, hbv⟩ := hb.form
  subst hbv
  refine Spec.of 87 Try.func5 rfl rfl rfl ?_
  refine swp_seq ?_
  refine swp_region ?_
  refine s_pu (pu_assign rfl) ?_
  refine swl_sub _ (.cons (t := 0) rfl (.cons (t := 1) rfl .nil)) ?_
  refine swl_nil ?_
  refine then_n ?_
  refine swp_seq ?_
  refine swp_seq ?_
  refine swp_region ?_
  refine s_ef (ef_fn ranks_spec rfl rfl (by repeat (first | exact Split.nil | (apply Split.cons; (repeat (first | with_reducible exact Take.here | apply Take.there)))))) ?_
  rintro v L1 ⟨rfl, rfl⟩
  refine swl_app ?_
  refine s_pu (pu_not rfl) ?_
  refine swl_sub _ (.cons (t := 0) rfl (.cons (t := 1) rfl (.cons (t := 15) rfl .nil))) ?_
  refine swl_nil ?_
  refine then_n ?_
  refine swp_cond (b := _) rfl (fun h15 => absurd h15 (by decide)) (fun h15 => ?_)
  refine swp_skip ?_
  refine then_n ?_
  refine swp_seq ?_
  refine swp_region ?_
  refine s_pu (pu_move rfl) ?_
  refine s_pu (pu_bld (qs := [(0, _)]) rfl) ?_
  refine s_ef (ef_box rfl rfl) ?_
  intro b18
  refine s_pu (pu_assign rfl) ?_
  refine swl_sub _ (.cons (t := 1) rfl (.cons (t := 5) rfl .nil)) ?_
  refine swl_nil ?_
  refine then_n ?_
  refine swp_seq ?_
  refine swp_region ?_
  refine s_ef (ef_fn (onew_nil b18) rfl rfl (by repeat (first | exact Split.nil | (apply Split.cons; (repeat (first | with_reducible exact Take.here | apply Take.there)))))) ?_
  rintro v L1 ⟨q, rfl, rfl⟩
  refine swl_app ?_
  refine s_pu (pu_assign rfl) ?_
  refine swl_sub _ (.cons (t := 1) rfl (.cons (t := 5) rfl (.cons (t := 6) rfl .nil))) ?_
  refine swl_nil ?_
  refine then_n ?_
  refine swp_seq ?_
  refine swp_seq ?_
  refine swp_region ?_
  refine s_pu (pu_move rfl) ?_
  first | refine s_pu (pu_conv_i64 rfl (by omega) (by omega)) ?_ | refine s_pu (pu_conv rfl) ?_
  refine s_pu (pu_move rfl) ?_
  refine swl_sub _ (.cons (t := 1) rfl (.cons (t := 5) rfl (.cons (t := 6) rfl (.cons (t := 21) rfl (.cons (t := 22) rfl .nil))))) ?_
  refine swl_nil ?_
  refine then_n ?_
  refine swp_block ?_
  refine swp_loop (ι := Nat × List OE × Nat) (fun k env L => env = [(1, .int .u8 (n : Nat)), (5, .pointer (some ⟨b18, 0, none⟩)), (6, .pointer (some ⟨q, 0, none⟩)), (21, .int .i64 (n : Nat)), (22, .int .i64 (k.1 : Nat))] ∧ L = [oraw b18 q k.2.1 k.1, blk b18 53 [.slice A0 bits.length cap0, .int .i64 (k.2.2 : Nat)], ro μ] ∧ k.1 ≤ n ∧ (k.2.1.map (·.1)).Perm (numsTo k.1) ∧ k.2.2 ≤ k.1 * 1024) (fun k => n - k.1) (0, [], 0) ⟨rfl, rfl, Nat.zero_le _, List.Perm.refl _, Nat.zero_le _⟩ ?_
  rintro ⟨i, es, d⟩ env L ⟨rfl, rfl, hi, hpm, hd⟩
  simp only [] at hi hpm hd
  dsimp only
  have hlen : es.length = i := by simpa [numsTo] using hpm.length_eq
  refine swp_seq ?_
  refine swp_region ?_
  refine s_pu (pu_lss rfl rfl) ?_
  refine swl_sub _ (.cons (t := 1) rfl (.cons (t := 5) rfl (.cons (t := 6) rfl (.cons (t := 21) rfl (.cons (t := 22) rfl (.cons (t := 23) rfl .nil)))))) ?_
  refine swl_nil ?_
  refine then_n ?_
  refine swp_seq ?_
  refine swp_cond (b := _) rfl (fun h23 => ?_) (fun h23 => ?_)
  · skip   -- 23 T
    have h23' : i < n := by simp at h23; omega
    refine swp_skip ?_
    refine then_n ?_
    refine swp_seq ?_
    refine swp_block ?_
    refine swp_seq ?_
    refine swp_region ?_
    refine s_pu (pu_move rfl) ?_
    refine s_pu (pu_assign rfl) ?_
    refine swl_sub _ (.cons (t := 1) rfl (.cons (t := 5) rfl (.cons (t := 6) rfl (.cons (t := 7) rfl (.cons (t := 21) rfl (.cons (t := 22) rfl .nil)))))) ?_
    refine swl_nil ?_
    refine then_n ?_
    refine swp_region ?_
    refine s_pu (pu_move rfl) ?_
    refine s_pu (pu_move rfl) ?_
    refine s_pu (pu_move rfl) ?_
    refine s_pu (pu_bld (qs := [(0, _), (1, _)]) rfl) ?_
    refine s_ef (ef_fn (push_odd μ b18 q _ bits d es i i hb (by omega) (by omega) (by omega)) rfl rfl (by repeat (first | exact Split.nil | (apply Split.cons; (repeat (first | with_reducible exact Take.here | apply Take.there)))))) ?_
    rintro v L1 ⟨rfl, fs, d', hfp, hd1, hd2, rfl⟩
    refine swl_app ?_
    refine swl_sub _ (.cons (t := 1) rfl (.cons (t := 5) rfl (.cons (t := 6) rfl (.cons (t := 21) rfl (.cons (t := 22) rfl .nil))))) ?_
    refine swl_nil ?_
    refine block_n ?_
    refine then_n ?_
    refine swp_region ?_
    refine s_pu (pu_add_as ((i + 1 : Nat) : Int) rfl rfl (by omega) (by omega) (by omega)) ?_
    refine s_pu (pu_move rfl) ?_
    refine swl_sub _ (.cons (t := 1) rfl (.cons (t := 5) rfl (.cons (t := 6) rfl (.cons (t := 21) rfl (.cons (t := 22) rfl .nil))))) ?_
    refine swl_nil ?_
    refine then_n ⟨(i + 1, fs, d'), ⟨rfl, rfl, h23', ?_, by show d' ≤ (i + 1) * 1024; omega⟩, by show n - (i + 1) < n - i; omega⟩
    rw [numsTo_succ]
    refine (hfp.map _).trans ?_
    rw [List.map_append]
    exact hpm.append_right _
  · skip   -- 23 F
    have hin : i = n := by simp at h23; omega
    subst hin
    refine swp_exit ?_
    refine then_x ?_
    refine then_x ?_
    refine block_hit rfl ?_
    refine then_n ?_
    refine swp_seq ?_
    refine swp_region ?_
    refine s_ef (ef_alloc) ?_
    intro b8
    refine s_ef0 (ef_store rfl rfl rfl) ?_
    refine swl_sub _ (.cons (t := 1) rfl (.cons (t := 6) rfl (.cons (t := 8) rfl .nil))) ?_
    refine swl_nil ?_
    refine then_n ?_
    refine swp_seq ?_
    refine swp_seq ?_
    refine swp_region ?_
    refine s_pu (pu_move rfl) ?_
    refine s_ef (ef_fn (all_odd (some ⟨q, 0, none⟩)) rfl rfl (by repeat (first | exact Split.nil | (apply Split.cons; (repeat (first | with_reducible exact Take.here | apply Take.there)))))) ?_
    rintro v L1 ⟨ab, rfl, rfl⟩
    refine swl_app ?_
    refine swl_sub _ (.cons (t := 1) rfl (.cons (t := 6) rfl (.cons (t := 8) rfl (.cons (t := 32) rfl .nil)))) ?_
    refine swl_nil ?_
    refine then_n ?_
    refine swp_block ?_
    refine swp_rangeK (all_iter_odd μ ab b18 q i _ bits d es hb (by omega) (by omega)) (B := [blk b8 3 [.int .i64 0]]) (fun pre => star [blk ab 54 [.pointer (some ⟨q, 0, none⟩)], oraw b18 q es i, blk b8 3 [.int .i64 (pre.length : Nat)]]) (fun _ => False) (fun _ _ => False) rfl rfl (fun _ => rfl) ?_ star_close1 ?_ ?_ ?_ ?_
    · exact (Split.ent' (K := [blk b18 53 [.slice A0 bits.length cap0, .int .i64 (d : Nat)], ro μ, blk ab 54 [.pointer (some ⟨q, 0, none⟩)], oraw b18 q es i, blk b8 3 [.int .i64 0]]) (by repeat (first | exact Split.nil | (apply Split.cons; (repeat (first | with_reducible exact Take.here | apply Take.there)))))).trans (star_close (K := [blk b18 53 [.slice A0 bits.length cap0, .int .i64 (d : Nat)], ro μ]))
    · skip
      rintro ln pre x hx
      have hx' : pre.length < es.length := hx
      refine swp_ent (star_ent (L := [])) ?_
      refine swp_app ?_
      refine swp_skip ?_
      refine then_n ?_
      refine swp_block ?_
      refine swp_region ?_
      refine s_rd (rd_load rfl rfl) ?_
      refine s_pu (pu_add_as ((pre.length + 1 : Nat) : Int) rfl rfl (by omega) (by omega) (by omega)) ?_
      refine s_ef0 (ef_store rfl rfl rfl) ?_
      refine swl_sub _ .nil ?_
      refine swl_nil ?_
      refine block_n ?_
      refine rnd_n ?_
      have e : (pre ++ [x]).length = pre.length + 1 := by simp
      rw [e]
      exact star_close1
    · skip
      rintro ys hys
      refine block_n ?_
      refine then_n ?_
      refine swp_seq ?_
      refine swp_ent star_ent ?_
      refine swp_app ?_
      refine swp_front (A := okept' b18 _ μ d _) (by repeat (first | with_reducible exact Take.here | apply Take.there)) ?_
      refine swp_ex fun dd => ?_
      obtain ⟨d1, hd1, hd2⟩ := dd
      refine swp_app ?_
      dsimp only
      have hy : ys.length = i := hys.trans hlen
      refine swp_region ?_
      refine s_pu (pu_move rfl) ?_
      first | refine s_pu (pu_conv_i64 rfl (by omega) (by omega)) ?_ | refine s_pu (pu_conv rfl) ?_
      refine s_ef (ef_make1 i rfl rfl rfl (by omega) (by simp only [maxLen]; omega)) ?_
      rintro b9
      skip
      refine s_pu (pu_assign rfl) ?_
      refine swl_sub _ (.cons (t := 1) rfl (.cons (t := 6) rfl (.cons (t := 8) rfl (.cons (t := 9) rfl .nil)))) ?_
      refine swl_nil ?_
      refine then_n ?_
      refine swp_seq ?_
      refine swp_seq ?_
      refine swp_region ?_
      refine s_pu (pu_move rfl) ?_
      first | refine s_pu (pu_conv_i64 rfl (by omega) (by omega)) ?_ | refine s_pu (pu_conv rfl) ?_
      refine s_pu (pu_move rfl) ?_
      refine swl_sub _ (.cons (t := 1) rfl (.cons (t := 6) rfl (.cons (t := 8) rfl (.cons (t := 9) rfl (.cons (t := 40) rfl (.cons (t := 41) rfl .nil)))))) ?_
      refine swl_ent (Split.ent' (K := [oraw b18 q es i, blk b18 53 [.slice A0 bits.length cap0, .int .i64 (d1 : Nat)], ro μ, blk b9 4 (List.replicate i (.bool false)), blk b8 3 [.int .i64 (ys.length : Nat)]]) (by repeat (first | exact Split.nil | (apply Split.cons; (repeat (first | with_reducible exact Take.here | apply Take.there)))))) ?_
      refine swl_nil ?_
      refine then_n ?_
      refine swp_block ?_
      refine swp_loop (ι := Nat × List OE × List Value × Nat) (fun k env L => env = [(1, .int .u8 (i : Nat)), (6, .pointer (some ⟨q, 0, none⟩)), (8, .pointer (some ⟨b8, 0, none⟩)), (9, .slice (some ⟨b9, 0, none⟩) i i), (40, .int .i64 (i : Nat)), (41, .int .i64 (k.1 : Nat))] ∧
         L = [oraw b18 q k.2.1 i, blk b18 53 [.slice A0 bits.length cap0, .int .i64 (k.2.2.2 : Nat)], ro μ, blk b9 4 k.2.2.1, blk b8 3 [.int .i64 (ys.length : Nat)]] ∧ k.2.1.length + k.1 = i ∧ k.2.2.1.length = i ∧ (k.2.1.map (·.1)).Nodup ∧ (∀ e ∈ k.2.1, ∃ m : Nat, e.1 = m ∧ m < i ∧ k.2.2.1[m]? = some (.bool false)) ∧ k.2.2.2 ≤ d1 + k.1 * 2048) (fun k => i - k.1) (0, es, List.replicate i (.bool false), d1)
         ⟨rfl, rfl, by simpa using hlen, by simp, hpm.nodup_iff.2 (numsTo_nodup i), fun e he => ?_, by simp⟩ ?_
      · obtain ⟨m, hm, hmi⟩ := mem_numsTo (hpm.mem_iff.1 (List.mem_map_of_mem he))
        exact ⟨m, hm, hmi, by simp [List.getElem?_replicate, hmi]⟩
      rintro ⟨j, gs, seen, d⟩ env L ⟨rfl, rfl, hgl, hsl, hnd, hall, hd⟩
      simp only [] at hgl hsl hnd hall hd
      dsimp only
      refine swp_seq ?_
      refine swp_region ?_
      refine s_pu (pu_lss rfl rfl) ?_
      refine swl_sub _ (.cons (t := 1) rfl (.cons (t := 6) rfl (.cons (t := 8) rfl (.cons (t := 9) rfl (.cons (t := 40) rfl (.cons (t := 41) rfl (.cons (t := 42) rfl .nil))))))) ?_
      refine swl_nil ?_
      refine then_n ?_
      refine swp_seq ?_
      refine swp_cond (b := _) rfl (fun h42 => ?_) (fun h42 => ?_)
      · skip   -- 42 T
        have h42' : j < i := by simp at h42; omega
        refine swp_skip ?_
        refine then_n ?_
        refine swp_seq ?_
        refine swp_block ?_
        refine swp_seq ?_
        refine swp_region ?_
        refine s_pu (pu_move rfl) ?_
        refine s_ef (ef_fn (pop_odd μ b18 q _ bits d gs i hb (by omega) (by omega)) rfl rfl (by repeat (first | exact Split.nil | (apply Split.cons; (repeat (first | with_reducible exact Take.here | apply Take.there)))))) ?_
        rintro v L1 ⟨r, gs', d', rfl, hp, hd3, hd4, rfl⟩
        refine swl_app ?_
        obtain ⟨⟨x, m⟩, es', hgs, rfl, hpe⟩ : ∃ e es', gs = e :: es' ∧ r = some e.1 ∧ gs'.Perm es' := by
          rcases hp with ⟨h, _⟩ | h
          · rw [h] at hgl; simp at hgl; omega
          · exact h
        obtain ⟨k, hek, hki, hsk⟩ := hall (x, m) (by rw [hgs]; simp)
        simp only at hek
        subst hek
        refine s_pu (pu_move rfl) ?_
        refine s_pu (pu_extract rfl rfl) ?_
        refine s_pu (pu_extract rfl rfl) ?_
        refine s_ef (ef_alloc) ?_
        intro b10
        refine s_ef0 (ef_storeA (vs := [.int .i64 (k : Nat), .pointer (some ⟨b18, 0, none⟩)]) rfl rfl rfl rfl) ?_
        refine s_pu (pu_assign rfl) ?_
        refine swl_sub _ (.cons (t := 1) rfl (.cons (t := 6) rfl (.cons (t := 8) rfl (.cons (t := 9) rfl (.cons (t := 10) rfl (.cons (t := 11) rfl (.cons (t := 40) rfl (.cons (t := 41) rfl .nil)))))))) ?_
        refine swl_nil ?_
        refine then_n ?_
        refine swp_seq ?_
        refine swp_seq ?_
        refine swp_region ?_
        refine s_pu (pu_move rfl) ?_
        refine s_pu (pu_not rfl) ?_
        refine s_pu (pu_move rfl) ?_
        refine s_on rfl rfl ?_
        first | refine s_pu (pu_fieldAddr0 rfl) ?_ | refine s_pu (pu_fieldAddr rfl) ?_
        refine s_on rfl rfl ?_
        refine s_rd (rd_load rfl rfl) ?_
        refine s_on rfl rfl ?_
        refine s_pu (pu_lss rfl rfl) ?_
        first | refine s_pu (pu_pick_t rfl rfl) ?_ | refine s_pu (pu_pick_f rfl rfl) ?_
        refine s_pu (pu_move rfl) ?_
        refine s_split 55 rfl (fun h55 => by have := of_decide_eq_true h55; omega) (fun h55 => ?_)
        refine s_on rfl rfl ?_
        first | refine s_pu (pu_fieldAddr0 rfl) ?_ | refine s_pu (pu_fieldAddr rfl) ?_
        refine s_on rfl rfl ?_
        refine s_rd (rd_load rfl rfl) ?_
        refine s_on rfl rfl ?_
        refine s_pu (pu_move rfl) ?_
        refine s_on rfl rfl ?_
        first | refine s_pu (pu_conv_i64 rfl (by omega) (by omega)) ?_ | refine s_pu (pu_conv rfl) ?_
        refine s_on rfl rfl ?_
        refine s_pu (pu_geq rfl rfl) ?_
        first | refine s_pu (pu_pick_t rfl rfl) ?_ | refine s_pu (pu_pick_f rfl rfl) ?_
        refine s_pu (pu_move rfl) ?_
        refine s_split 62 rfl (fun h62 => by have := of_decide_eq_true h62; omega) (fun h62 => ?_)
        refine s_on rfl rfl ?_
        refine s_pu (pu_move rfl) ?_
        refine s_on rfl rfl ?_
        first | refine s_pu (pu_fieldAddr0 rfl) ?_ | refine s_pu (pu_fieldAddr rfl) ?_
        refine s_on rfl rfl ?_
        refine s_rd (rd_load rfl rfl) ?_
        refine s_on rfl rfl ?_
        refine s_pu (pu_indexAddr k rfl rfl (by omega) (by omega) (by omega)) ?_
        refine s_on rfl rfl ?_
        refine s_rd (rd_load rfl hsk) ?_
        first | refine s_pu (pu_pick_t rfl rfl) ?_ | refine s_pu (pu_pick_f rfl rfl) ?_
        refine swl_sub _ (.cons (t := 1) rfl (.cons (t := 6) rfl (.cons (t := 8) rfl (.cons (t := 9) rfl (.cons (t := 10) rfl (.cons (t := 40) rfl (.cons (t := 41) rfl (.cons (t := 68) rfl .nil)))))))) ?_
        refine swl_nil ?_
        refine then_n ?_
        refine swp_cond (b := _) rfl (fun h68 => absurd h68 (by decide)) (fun h68 => ?_)
        refine swp_skip ?_
        refine then_n ?_
        refine swp_region ?_
        refine s_pu (pu_move rfl) ?_
        first | refine s_pu (pu_fieldAddr0 rfl) ?_ | refine s_pu (pu_fieldAddr rfl) ?_
        refine s_rd (rd_load rfl rfl) ?_
        refine s_pu (pu_indexAddr k rfl rfl (by omega) (by omega) (by omega)) ?_
        refine s_ef0 (ef_storeP rfl rfl rfl (by omega)) ?_
        refine swl_sub _ (.cons (t := 1) rfl (.cons (t := 6) rfl (.cons (t := 8) rfl (.cons (t := 9) rfl (.cons (t := 40) rfl (.cons (t := 41) rfl .nil)))))) ?_
        refine swl_nil ?_
        refine block_n ?_
        refine then_n ?_
        refine swp_region ?_
        refine s_pu (pu_add_as ((j + 1 : Nat) : Int) rfl rfl (by omega) (by omega) (by omega)) ?_
        refine s_pu (pu_move rfl) ?_
        refine swl_sub _ (.cons (t := 1) rfl (.cons (t := 6) rfl (.cons (t := 8) rfl (.cons (t := 9) rfl (.cons (t := 40) rfl (.cons (t := 41) rfl .nil)))))) ?_
        refine swl_ent (Split.ent' (K := [oraw b18 q gs' i, blk b18 53 [.slice A0 bits.length cap0, .int .i64 (d' : Nat)], ro μ, blk b9 4 (seen.set k (.bool true)), blk b8 3 [.int .i64 (ys.length : Nat)]]) (by repeat (first | exact Split.nil | (apply Split.cons; (repeat (first | with_reducible exact Take.here | apply Take.there)))))) ?_
        refine swl_nil ?_
        have hgl' : gs'.length + 1 = gs.length := by rw [hpe.length_eq, hgs]; rfl
        have hnd' : ((k : Int) :: es'.map (·.1)).Nodup := by rw [hgs] at hnd; exact hnd
        have hp2 : (gs'.map (·.1)).Perm (es'.map (·.1)) := hpe.map _
        refine then_n ⟨(j + 1, gs', seen.set k (.bool true), d'), ⟨rfl, rfl, by show gs'.length + (j + 1) = i; omega, by simp [hsl], hp2.nodup_iff.2 (List.nodup_cons.1 hnd').2, fun e he => ?_, by show d' ≤ d1 + (j + 1) * 2048; omega⟩, by show i - (j + 1) < i - j; omega⟩
        obtain ⟨m2, hm2, hmi, hsm⟩ := hall e (by rw [hgs]; exact List.mem_cons_of_mem _ (hpe.mem_iff.1 he))
        refine ⟨m2, hm2, hmi, ?_⟩
        have hne : k ≠ m2 := fun h => by
          have h1 : (k : Int) ∈ es'.map (·.1) := by
            rw [h, ← hm2]; exact hp2.mem_iff.1 (List.mem_map_of_mem he)
          exact (List.nodup_cons.1 hnd').1 h1
        show (seen.set k (.bool true))[m2]? = _
        rw [List.getElem?_set_ne hne]; exact hsm
      · skip   -- 42 F
        have h42' : j = i := by simp at h42; omega
        have hg0 : gs = [] := List.eq_nil_of_length_eq_zero (by omega)
        subst hg0
        refine swp_exit ?_
        refine then_x ?_
        refine then_x ?_
        refine block_hit rfl ?_
        refine then_n ?_
        refine swp_seq ?_
        refine swp_region ?_
        refine s_pu (pu_move rfl) ?_
        refine s_ef (ef_fn (pop_odd μ b18 q _ bits d [] i hb (by simp) (by simp; omega)) rfl rfl (by repeat (first | exact Split.nil | (apply Split.cons; (repeat (first | with_reducible exact Take.here | apply Take.there)))))) ?_
        rintro v L1 ⟨r, gs', d', rfl, hp, hd3, hd4, rfl⟩
        refine swl_app ?_
        obtain rfl : r = none := by
          rcases hp with ⟨_, h, _⟩ | ⟨e, es', h, _⟩
          · exact h
          · cases h
        refine s_pu (pu_move rfl) ?_
        refine s_pu (pu_extract rfl rfl) ?_
        refine s_pu (pu_extract rfl rfl) ?_
        refine s_ef (ef_alloc) ?_
        intro b12
        refine s_ef0 (ef_storeA (vs := [.int .i64 0, .pointer none]) rfl rfl rfl rfl) ?_
        refine s_pu (pu_assign rfl) ?_
        refine swl_sub _ (.cons (t := 1) rfl (.cons (t := 8) rfl (.cons (t := 13) rfl .nil))) ?_
        refine swl_nil ?_
        refine then_n ?_
        refine swp_seq ?_
        refine swp_region ?_
        refine s_pu (pu_move rfl) ?_
        refine s_pu (pu_not rfl) ?_
        refine s_pu (pu_move rfl) ?_
        refine s_on rfl rfl ?_
        refine s_rd (rd_load rfl rfl) ?_
        refine s_on rfl rfl ?_
        refine s_pu (pu_move rfl) ?_
        refine s_on rfl rfl ?_
        first | refine s_pu (pu_conv_i64 rfl (by omega) (by omega)) ?_ | refine s_pu (pu_conv rfl) ?_
        refine s_on rfl rfl ?_
        refine s_pu (pu_eql rfl rfl) ?_
        first | refine s_pu (pu_pick_t rfl rfl) ?_ | refine s_pu (pu_pick_f rfl rfl) ?_
        refine s_pu (pu_assign rfl) ?_
        refine swl_sub _ (.cons (t := 4) rfl .nil) ?_
        refine swl_nil ?_
        refine then_n ?_
        refine swp_ret ?_
        exact done_ret [ro μ] (.tmp rfl .nil) ⟨by simp [resV, hy], μ, [], Le.refl _, rfl⟩ (by repeat (first | exact Split.nil | (apply Split.cons; (repeat (first | with_reducible exact Take.here | apply Take.there)))))
    · exact swp_fact (p := False) (fun m h => by obtain ⟨_, _, h, _⟩ := h; exact h) False.elim
    · exact fun i => swp_fact (p := False) (fun m h => by obtain ⟨_, _, h, _⟩ := h; exact h) False.elim
end SX
